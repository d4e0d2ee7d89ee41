/- A part of the proof. -/
import Derived.Test.YtedfbafngmicpaaG6
import Derived.Test.YtedfbafngmicpaaG5
section
/- Numbering in an arena: sizes, existence, how many. -/
namespace Go.Proofs.Ytedfbafngmicpaa
open Go

def lfA (S : Arn) (i : Int) : Int := (S.nd i).left
def rgA (S : Arn) (i : Int) : Int := (S.nd i).right
abbrev NumA (S : Arn) := NumG S.us (lfA S) (rgA S)
abbrev NumsA (S : Arn) := NumsG S.us (lfA S) (rgA S)
variable {S : Arn} {hs : List Int}
theorem sz_kids (h : Wf S hs) : ∀ i, S.us i = true → (S.nd (lfA S i)).size.toNat < (S.nd i).size.toNat ∧ (S.nd (rgA S i)).size.toNat < (S.nd i).size.toNat := fun i u => by
  have z := h.siz i u
  have a := h.size_nonneg (S.nd i).left
  have b := h.size_nonneg (S.nd i).right
  unfold lfA rgA
  omega
theorem repG_wf (h : Wf S hs) : ∀ (n : Nat) (i : Int), (S.nd i).size.toNat ≤ n → RepG S.us (lfA S) (rgA S) n i
  | 0, i, z => by
    cases u : S.us i with
    | false => exact u
    | true => have := (h.siz i u).1; omega
  | n + 1, i, z => by
    cases u : S.us i with
    | false => exact .inl u
    | true =>
      have k := sz_kids h i u
      exact .inr ⟨repG_wf h n _ (by omega), repG_wf h n _ (by omega)⟩
theorem numA_ex (h : Wf S hs) (i : Int) (acc : List Int) : ∃ a, NumA S i acc a := NumG.ex acc (repG_wf h _ i (Nat.le_refl _))
theorem numsA_ex (h : Wf S hs) (r : List Int) (acc : List Int) : ∃ a, NumsA S r acc a := NumsG.ex r acc fun i _ => ⟨_, repG_wf h _ i (Nat.le_refl _)⟩
def szA (S : Arn) (i : Int) : Nat := (S.nd i).size.toNat
theorem szA_kids (h : Wf S hs) : ∀ i, S.us i = true → szA S (lfA S i) < szA S i ∧ szA S (rgA S i) < szA S i := sz_kids h
theorem len_nd {α : Type} [DecidableEq α] : ∀ (a b : List α), a.Nodup → (∀ x ∈ a, x ∈ b) → a.length ≤ b.length
  | [], _, _, _ => Nat.zero_le _
  | x :: a, b, hn, hs => by
    obtain ⟨h1, h2⟩ := List.pairwise_cons.1 hn
    have hx := hs x (by simp)
    have := len_nd a (b.erase x) h2 fun y hy => (List.mem_erase_of_ne (Ne.symm (h1 y hy))).2 (hs y (by simp [hy]))
    rw [List.length_erase_of_mem hx] at this
    have : 0 < b.length := List.length_pos_of_mem hx
    simp; omega
theorem used_few (h : Wf S hs) {l : List Int} (d : l.Nodup) (u : ∀ j ∈ l, S.us j = true) : l.length + 1 ≤ S.used.length := by
  have q := len_nd l ((List.range (S.used.length - 1)).map fun (n : Nat) => (n : Int) + 1) d fun x hx => by
    have p := h.pos (u x hx)
    exact List.mem_map.2 ⟨(x - 1).toNat, List.mem_range.2 (by omega), by omega⟩
  have := h.n1
  rw [List.length_map, List.length_range] at q
  omega
end Go.Proofs.Ytedfbafngmicpaa
end
section
/- packwork extend, number, Nodes; pack.Nodes; compact.Needed. -/
namespace Go.Proofs.Ytedfbafngmicpaa.Sx
open Go

/-KEEP Wf exW inU allV rdS NumsA NumA ExtR opN StkN NmR NmB NumK-/
def allV (l : List Int) : Prop := ∀ x ∈ l, inU x
abbrev chX (l : List Int) (pm : List (Int × Int)) (rs : List Int) (S : Arn) : List (Chunk C0) := [.box [.slc 2, .slc 3], .box [.ptr 4 0, .slc 5, .slc 6, vU64 S.reads], .row true EC.u32 l, .map .u32 .u64 pm, .box [.slc 7, .slc 8, .slc 9, vU S.fresh], .row true EC.node S.nodes, .row true EC.int S.counts, .row true EC.bool S.used, .row true EC.u32 S.gen, .row true EC.u32 S.rel, .row false EC.u32 rs]
def exM (H : List (Chunk C0)) (k : List Int → List (Int × Int) → List Int → Arn → Prop) : Prop := match H with
  | [.box [.slc 2, .slc 3], .box [.ptr 4 0, .slc 5, .slc 6, .val (.int .u64 rd)], .row true .u32 l, .map .u32 .u64 pm, .box [.slc 7, .slc 8, .slc 9, .val (.int .u32 fr)], .row true .node nd, .row true .int ct, .row true .bool us, .row true .u32 gn, .row true .u32 rl, .row false .u32 rs] => k l pm rs ⟨us, gn, rl, fr, nd, ct, rd⟩
  | _ => False
structure ExtR (S : Arn) (l rs : List Int) (S' : Arn) (l' : List Int) (pm' : List (Int × Int)) : Prop where
  num : NumsA S rs l l'
  map : ∀ j, lookM pm' j = plcN l' j
  st : S' = rdS S (l'.length - l.length)
def NmB (S : Arn) (rs : List Int) : Prop := exW S ∧ S.reads ≤ 3000000000000000000 ∧ rs.length ≤ 1000000 ∧ allV rs
structure NmR (S : Arn) (rs : List Int) (S' : Arn) (l : List Int) : Prop where
  num : NumsA S rs [] l
  st : S' = rdS S l.length
/-- A numbering's list, and its map. -/
structure NumK (S : Arn) (l : List Int) (pm : List (Int × Int)) : Prop where
  nd : l.Nodup
  us : ∀ j ∈ l, S.us j = true
  map : ∀ j, lookM pm j = plcN l j
/-- What is still to come of a traversal: the steps, the topmost first. -/
inductive StkN (us : Int → Bool) (lf rg : Int → Int) : List PStepT → List Int → List Int → Prop where
  | nil {acc : List Int} : StkN us lf rg [] acc acc
  | open {i : Int} {r : List PStepT} {acc tgt : List Int} : us i = true → i ∉ acc → StkN us lf rg r (acc ++ [i]) tgt → StkN us lf rg (⟨i, true⟩ :: r) acc tgt
  | closed {i : Int} {r : List PStepT} {acc a tgt : List Int} : inU i → NumG us lf rg i acc a → StkN us lf rg r a tgt → StkN us lf rg (⟨i, false⟩ :: r) acc tgt
def opN (w : List PStepT) : Nat := w.countP fun x => x.open_
structure XEa (P : Arn → List Int → List (Int × Int) → Nat → Prop) where
  S : Arn
  l : List Int
  pm : List (Int × Int)
  i : Nat
  h : P S l pm i
structure XEb (P : Arn → List Int → List (Int × Int) → Nat → List PStepT → Prop) where
  S : Arn
  l : List Int
  pm : List (Int × Int)
  i : Nat
  w : List PStepT
  h : P S l pm i w
def wtP (S : Arn) (w : List PStepT) : Nat := (w.map fun x => if x.open_ then 1 else 3 * (S.nd x.index).size.toNat + 1).sum
noncomputable def aExt (P1 : Arn → List Int → List (Int × Int) → Nat → Prop) (P2 : Arn → List Int → List (Int × Int) → Nat → List PStepT → Prop) (rs : List Int) : Ann C0 := { Γ := [(45, frameT [] tNode)], trunc := fun n => n = 34, inv := fun n => match n with
  | 1 => some { X := XEa P1, sl := [14], tf := fun x => [vi .i64 x.i], hf := fun x => chX x.l x.pm rs x.S, μ := fun x => rs.length - x.i, wr := [0, 1, 2, 3] }
  | 4 => some { X := XEb P2, sl := [8], tf := fun _ => [.one (.at (.slc 11))], hf := fun x => chX x.l x.pm rs x.S ++ [.row true EC.pstep x.w], μ := fun x => wtP x.S x.w, wr := [0, 1, 2, 3], rel := fun T _ x => slotI T 14 x.i }
  | _ => none }
def tExt : Tfm C0 := fun args H K => match args with
  | [.at (.ptr 0 0), .at (.ptr 1 0), .at (.slc 10)] => exM H fun l pm rs S => exW S ∧ S.reads ≤ 3000000000000000000 ∧ rs.length ≤ 1000000 ∧ allV rs ∧ NumK S l pm ∧ ∀ S' l' pm', ExtR S l rs S' l' pm' → K (.tup []) (chX l' pm' rs S') [0, 1, 2, 3]
  | _ => False
noncomputable def aNmb : Ann C0 := { Γ := [(41, frameT [] tExt)] }
abbrev nbM (H : List (Chunk C0)) (k : Arn → List Int → Prop) : Prop := arMr H fun S rest => match rest with
  | [.row false .u32 rs] => k S rs
  | _ => False
def tNmb : Tfm C0 := fun args H K => match args with
  | [.at (.ptr 0 0), .at (.slc 7)] => nbM H fun S rs => NmB S rs ∧ ∀ S' l pm, NmR S rs S' l → K (.one (.at (.ptr 8 0))) (chS S' ++ [.row false EC.u32 rs, .box [.slc 9, .slc 10], .row true EC.u32 l, .map .u32 .u64 pm]) [0]
  | _ => False
noncomputable def aNds : Ann C0 := { Γ := [(40, frameT [] tNmb)] }
def tNds : Tfm C0 := fun args H K => match args with
  | [.at (.ptr 0 0), .at (.slc 7)] => nbM H fun S rs => NmB S rs ∧ ∀ S' l, NmR S rs S' l → K (.one (.at (.slc 8))) (chS S' ++ [.row false EC.u32 rs, .row true EC.u32 l]) [0]
  | _ => False
theorem lookM_set : ∀ (l : List (Int × Int)) (k v j : Int), lookM (setM l k v) j = if k = j then v else lookM l j
  | [], k, v, j => rfl
  | p :: r, k, v, j => by
    have ih := lookM_set r k v j
    unfold setM
    by_cases c : p.1 = k
    · rw [if_pos c]
      show (if k = j then v else lookM r j) = if k = j then v else (if p.1 = j then p.2 else lookM r j)
      by_cases d : k = j
      · rw [if_pos d, if_pos d]
      · rw [if_neg d, if_neg d, if_neg (by omega)]
    · rw [if_neg c]
      show (if p.1 = j then p.2 else lookM (setM r k v) j) = if k = j then v else (if p.1 = j then p.2 else lookM r j)
      rw [ih]
      by_cases d : p.1 = j
      · rw [if_pos d, if_pos d, if_neg (by omega)]
      · rw [if_neg d, if_neg d]
theorem opN_snoc (w : List PStepT) (x : PStepT) : opN (w ++ [x]) = opN w + if x.open_ then 1 else 0 := by
  unfold opN; rw [List.countP_append, List.countP_singleton]
theorem opN_app (w v : List PStepT) : opN (w ++ v) = opN w + opN v := by unfold opN; rw [List.countP_append]
theorem wtP_app (S : Arn) (w v : List PStepT) : wtP S (w ++ v) = wtP S w + wtP S v := by unfold wtP; simp
theorem StkN.opens {us : Int → Bool} {lf rg : Int → Int} {w : List PStepT} {acc tgt : List Int} (h : StkN us lf rg w acc tgt) : acc.length + opN w ≤ tgt.length := by
  induction h with
  | nil => exact Nat.le_refl _
  | @«open» i r acc tgt _ _ _ ih =>
    have e : opN (⟨i, true⟩ :: r) = opN r + 1 := by unfold opN; simp
    rw [List.length_append, List.length_singleton] at ih
    omega
  | @closed i r acc a tgt _ k _ ih =>
    have e : opN (⟨i, false⟩ :: r) = opN r := by unfold opN; simp
    obtain ⟨x, rfl⟩ := k.pre
    rw [List.length_append] at ih
    omega
structure InR (S0 : Arn) (l0 rs : List Int) (S : Arn) (l : List Int) (pm : List (Int × Int)) (i : Nat) (w : List PStepT) : Prop where
  lt : i < rs.length
  tgt : ∃ l1 t, NumsA S0 (rs.take i) l0 l1 ∧ NumA S0 (rs.getD i 0) l1 t ∧ StkN S0.us (lfA S0) (rgA S0) w.reverse l t
  map : ∀ j, lookM pm j = plcN l j
  nd : l.Nodup
  us : ∀ j ∈ l, S0.us j = true
  m : ∃ m, S = rdS S0 m ∧ m + l0.length = l.length + opN w ∧ w.length ≤ 3 * m + 1
theorem takeD_one {α : Type} {l : List α} {i : Nat} {dft : α} (h : i < l.length) : l.take (i + 1) = l.take i ++ [l.getD i dft] := by
  rw [List.take_add_one, List.getD_eq_getElem?_getD, List.getElem?_eq_getElem h]; rfl
section
variable {S0 S : Arn} {hs l0 rs l : List Int} {pm : List (Int × Int)} {i : Nat} {w : List PStepT}
theorem InR.bd (hw : Wf S0 hs) (hn : l0.Nodup) (hu : ∀ j ∈ l0, S0.us j = true) (h : InR S0 l0 rs S l pm i w) : l.length ≤ 65536 ∧ ∃ m, S = rdS S0 m ∧ m ≤ 65536 ∧ w.length ≤ 3 * m + 1 := by
  obtain ⟨l1, t, n1, n2, st⟩ := h.tgt
  obtain ⟨m, m1, m2, m3⟩ := h.m
  have q := used_few hw (n2.nodup (szA_kids hw) (n1.nodup (szA_kids hw) hn)) (n2.used (n1.used hu))
  have o := st.opens
  rw [show opN w.reverse = opN w by unfold opN; rw [List.countP_reverse]] at o
  have u2 := hw.n2
  exact ⟨by omega, m, m1, by omega, m3⟩
theorem ExtR.more (hw : Wf S0 hs) (hi : i < rs.length) (hv : allV rs) (hn : l0.Nodup) (hu : ∀ j ∈ l0, S0.us j = true) (h : ExtR S0 l0 (rs.take i) S l pm) : InR S0 l0 rs S l pm i [⟨rs.getD i 0, false⟩] := by
  obtain ⟨t, ht⟩ := numA_ex hw (rs.getD i 0) l
  have hm : rs.getD i 0 ∈ rs := by rw [List.getD_eq_getElem?_getD, List.getElem?_eq_getElem hi]; exact List.getElem_mem hi
  obtain ⟨y, hy⟩ := h.num.pre
  exact ⟨hi, ⟨l, t, h.num, ht, .closed (hv _ hm) ht .nil⟩, h.map, h.num.nodup (szA_kids hw) hn, h.num.used hu, _, h.st, by rw [hy, List.length_append]; show _ = _ + 0; omega, by simp⟩
theorem InR.done (h : InR S0 l0 rs S l pm i []) : ExtR S0 l0 (rs.take (i + 1)) S l pm := by
  obtain ⟨l1, t, n1, n2, st⟩ := h.tgt
  obtain ⟨m, m1, m2, m3⟩ := h.m
  cases st
  refine ⟨?_, h.map, ?_⟩
  · rw [takeD_one (dft := (0 : Int)) h.lt]; exact n1.app (NumsG.one n2)
  · rw [m1]
    have : opN [] = 0 := rfl
    congr 1; omega
theorem InR.pop {j v : Int} (h : InR S0 l0 rs S l pm i (w ++ [⟨j, true⟩])) (hv : v = (l.length : Int) + 1) : InR S0 l0 rs S (l ++ [j]) (setM pm j v) i w := by
  obtain ⟨l1, t, n1, n2, st⟩ := h.tgt
  obtain ⟨m, m1, m2, m3⟩ := h.m
  rw [List.reverse_append] at st
  have st : StkN S0.us (lfA S0) (rgA S0) (⟨j, true⟩ :: w.reverse) l t := st
  cases st with
  | «open» u n st =>
    refine ⟨h.lt, ⟨l1, t, n1, n2, st⟩, fun k => ?_, ?_, ?_, m, m1, ?_, ?_⟩
    · rw [lookM_set, plcN_snoc _ _ _ n, h.map, hv]
    · refine List.nodup_append.2 ⟨h.nd, by simp, fun a ha b hb e => ?_⟩
      rw [List.mem_singleton.1 hb] at e
      exact n (e ▸ ha)
    · intro k hk
      rcases List.mem_append.1 hk with hk | hk
      · exact h.us k hk
      · rw [List.mem_singleton.1 hk]; exact u
    · rw [opN_snoc, if_pos rfl] at m2
      rw [List.length_append, List.length_singleton]; omega
    · rw [List.length_append, List.length_singleton] at m3; omega
theorem InR.inu {j : Int} (h : InR S0 l0 rs S l pm i (w ++ [⟨j, false⟩])) : inU j := by
  obtain ⟨l1, t, n1, n2, st⟩ := h.tgt
  rw [List.reverse_append] at st
  have st : StkN S0.us (lfA S0) (rgA S0) (⟨j, false⟩ :: w.reverse) l t := st
  cases st with
  | closed u _ _ => exact u
theorem InR.skip {j : Int} (h : InR S0 l0 rs S l pm i (w ++ [⟨j, false⟩])) (hj : S0.us j = false ∨ j ∈ l) : InR S0 l0 rs S l pm i w := by
  obtain ⟨l1, t, n1, n2, st⟩ := h.tgt
  obtain ⟨m, m1, m2, m3⟩ := h.m
  rw [List.reverse_append] at st
  have st : StkN S0.us (lfA S0) (rgA S0) (⟨j, false⟩ :: w.reverse) l t := st
  cases st with
  | closed _ n st =>
    have e := n.det (.skip hj)
    rw [e] at st
    refine ⟨h.lt, ⟨l1, t, n1, n2, st⟩, h.map, h.nd, h.us, m, m1, ?_, ?_⟩
    · rw [opN_snoc] at m2
      simpa using m2
    · rw [List.length_append, List.length_singleton] at m3; omega
theorem InR.push {j : Int} (hw : Wf S0 hs) (h : InR S0 l0 rs S l pm i (w ++ [⟨j, false⟩])) (u : S0.us j = true) (hj : j ∉ l) : InR S0 l0 rs (rdS S 1) l pm i (w ++ [⟨j, true⟩, ⟨(S0.nd j).right, false⟩, ⟨(S0.nd j).left, false⟩]) := by
  obtain ⟨l1, t, n1, n2, st⟩ := h.tgt
  obtain ⟨m, m1, m2, m3⟩ := h.m
  rw [List.reverse_append] at st
  have st : StkN S0.us (lfA S0) (rgA S0) (⟨j, false⟩ :: w.reverse) l t := st
  cases st with
  | closed _ n st =>
    cases n with
    | skip q => exact absurd q (by rw [u]; simp [hj])
    | go _ _ k1 k2 =>
      have kd := hw.kid j u
      refine ⟨h.lt, ⟨l1, t, n1, n2, ?_⟩, h.map, h.nd, h.us, m + 1, ?_, ?_, ?_⟩
      · rw [List.reverse_append]
        exact .closed (inU_of hw kd.1) k1 (.closed (inU_of hw kd.2) k2 (.open u (NumG.fresh (szA_kids hw) u hj k1 k2) st))
      · rw [m1, rdS_rdS]
      · rw [opN_snoc] at m2
        rw [opN_app, show opN [⟨j, true⟩, ⟨(S0.nd j).right, false⟩, ⟨(S0.nd j).left, false⟩] = 1 from rfl]
        have : (if (⟨j, false⟩ : PStepT).open_ = true then 1 else 0) = 0 := rfl
        omega
      · rw [List.length_append] at m3 ⊢
        simp at m3 ⊢; omega
end
def PX1 (S0 : Arn) (l0 rs : List Int) : Arn → List Int → List (Int × Int) → Nat → Prop := fun S l pm i => i ≤ rs.length ∧ ExtR S0 l0 (rs.take i) S l pm
theorem vc_ext (l : List Int) (pm : List (Int × Int)) (rs : List Int) (S : Arn) (K : KT) (hx : exW S) (hr : S.reads ≤ 3000000000000000000) (h1 : rs.length ≤ 1000000) (hv : allV rs) (hk : NumK S l pm) (h : ∀ S' l' pm', ExtR S l rs S' l' pm' → K (.tup []) (chX l' pm' rs S') [0, 1, 2, 3]) :
    vc C0 (aExt (PX1 S l rs) (InR S l rs) rs) Try.f41 [.at (.ptr 0 0), .at (.ptr 1 0), .at (.slc 10)] (chX l pm rs S) (normK 11 (wideK [0, 1, 2, 3] K)) := by
  generalize hP1 : PX1 S l rs = P1
  generalize hP2 : InR S l rs = P2
  refine Eq.mp (show ((∃ x : XEa P1, (True ∧ (True ∧ True ∧ True ∧ ((Value.int IntKind.i64 ((↑rs.length : Int))) = (Value.int IntKind.i64 ((↑rs.length : Int)))) ∧ ((Value.int IntKind.i64 0) = (Value.int IntKind.i64 ((↑x.i : Int)))) ∧ True) ∧ (True ∧ True ∧ True) ∧ (True ∧ True ∧ True ∧ ((Value.int IntKind.u64 (S.reads)) = (Value.int IntKind.u64 (x.S.reads))) ∧ True) ∧ ((l) = (x.l)) ∧ ((pm) = (x.pm)) ∧ (True ∧ True ∧ True ∧ ((Value.int IntKind.u32 (S.fresh)) = (Value.int IntKind.u32 (x.S.fresh))) ∧ True) ∧ ((S.nodes) = (x.S.nodes)) ∧ ((S.counts) = (x.S.counts)) ∧ ((S.used) = (x.S.used)) ∧ ((S.gen) = (x.S.gen)) ∧ ((S.rel) = (x.S.rel)) ∧ ((rs) = (rs)) ∧ True)) ∧
(∀ x : XEa P1, (True → (brS (decide ((↑x.i : Int) < (↑rs.length : Int))) (((0 ≤ (↑x.i : Int)) ∧ ((↑x.i : Int) < (↑rs.length : Int)) ∧ (∃ x1 : XEb P2, ((((↑x.i : Int)) = ((↑x1.i : Int))) ∧ (True ∧ True ∧ True ∧ True ∧ ((Value.int IntKind.i64 ((↑rs.length : Int))) = (Value.int IntKind.i64 ((↑rs.length : Int)))) ∧ ((Value.int IntKind.i64 ((↑x.i : Int))) = (Value.int IntKind.i64 ((↑x.i : Int)))) ∧ True) ∧ (True ∧ True ∧ True) ∧ (True ∧ True ∧ True ∧ ((Value.int IntKind.u64 (x.S.reads)) = (Value.int IntKind.u64 (x1.S.reads))) ∧ True) ∧ ((x.l) = (x1.l)) ∧ ((x.pm) = (x1.pm)) ∧ (True ∧ True ∧ True ∧ ((Value.int IntKind.u32 (x.S.fresh)) = (Value.int IntKind.u32 (x1.S.fresh))) ∧ True) ∧ ((x.S.nodes) = (x1.S.nodes)) ∧ ((x.S.counts) = (x1.S.counts)) ∧ ((x.S.used) = (x1.S.used)) ∧ ((x.S.gen) = (x1.S.gen)) ∧ ((x.S.rel) = (x1.S.rel)) ∧ ((rs) = (rs)) ∧
    ([({ index := rs.getD (↑x.i : Int).toNat 0, open_ := false : PStepT })] = (x1.w)) ∧ True)) ∧ (∀ x1 : XEb P2, ((((↑x.i : Int)) = ((↑x1.i : Int))) → (brS (decide ((↑x1.w.length : Int) > 0)) (((0 ≤ IntKind.i64.wrap ((↑x1.w.length : Int) - 1)) ∧ (IntKind.i64.wrap ((↑x1.w.length : Int) - 1) < (↑x1.w.length : Int)) ∧ (0 ≤ IntKind.i64.wrap ((↑x1.w.length : Int) - 1)) ∧ (IntKind.i64.wrap ((↑x1.w.length : Int) - 1) ≤ (↑x1.w.length : Int)) ∧ (brS ((x1.w.getD (IntKind.i64.wrap ((↑x1.w.length : Int) - 1)).toNat { index := 0, open_ := false : PStepT }).open_) (((((x1.l.length + [(x1.w.getD (IntKind.i64.wrap ((↑x1.w.length : Int) - 1)).toNat { index := 0, open_ := false : PStepT }).index].length) * bytesOf C0 EC.u32 ≤ 140737488355328) ∧ (∃ x' : XEb P2, ((((↑x.i : Int)) = ((↑x'.i : Int))) ∧ ((True ∧ True ∧ True ∧ True ∧ ((Value.int IntKind.i64 ((↑rs.length : Int))) = (Value.int IntKind.i64 ((↑rs.length : Int)))) ∧ ((Value.int IntKind.i64 ((↑x.i : Int))) = (Value.int IntKind.i64 ((↑x.i : Int)))) ∧ True) ∧ (True ∧ True ∧ True) ∧ (True ∧ True ∧ True ∧ ((Value.int IntKind.u64 (x1.S.reads)) = (Value.int IntKind.u64 (x'.S.reads))) ∧ True) ∧ ((x1.l ++ [(x1.w.getD (IntKind.i64.wrap ((↑x1.w.length : Int) - 1)).toNat { index := 0, open_ := false : PStepT }).index]) = (x'.l)) ∧
    ((setM x1.pm (x1.w.getD (IntKind.i64.wrap ((↑x1.w.length : Int) - 1)).toNat { index := 0, open_ := false : PStepT }).index (IntKind.u64.wrap (↑(x1.l ++ [(x1.w.getD (IntKind.i64.wrap ((↑x1.w.length : Int) - 1)).toNat { index := 0, open_ := false : PStepT }).index]).length : Int))) = (x'.pm)) ∧ (True ∧ True ∧ True ∧ ((Value.int IntKind.u32 (x1.S.fresh)) = (Value.int IntKind.u32 (x'.S.fresh))) ∧ True) ∧ ((x1.S.nodes) = (x'.S.nodes)) ∧ ((x1.S.counts) = (x'.S.counts)) ∧ ((x1.S.used) = (x'.S.used)) ∧ ((x1.S.gen) = (x'.S.gen)) ∧ ((x1.S.rel) = (x'.S.rel)) ∧ ((rs) = (rs)) ∧ ((List.take (IntKind.i64.wrap ((↑x1.w.length : Int) - 1)).toNat x1.w) = (x'.w)) ∧ True) ∧ (wtP x'.S x'.w < wtP x1.S x1.w)))) ∧ ((x1.l.length + [(x1.w.getD (IntKind.i64.wrap ((↑x1.w.length : Int) - 1)).toNat { index := 0, open_ := false : PStepT }).index].length) * bytesOf C0 EC.u32 ≤ 140737488355328) ∧ (∃ x' : XEb P2, ((((↑x.i : Int)) = ((↑x'.i : Int))) ∧ ((True ∧ True ∧ True ∧ True ∧ ((Value.int IntKind.i64 ((↑rs.length : Int))) = (Value.int IntKind.i64 ((↑rs.length : Int)))) ∧ ((Value.int IntKind.i64 ((↑x.i : Int))) = (Value.int IntKind.i64 ((↑x.i : Int)))) ∧ True) ∧ (True ∧ True ∧ True) ∧ (True ∧ True ∧ True ∧ ((Value.int IntKind.u64 (x1.S.reads)) = (Value.int IntKind.u64 (x'.S.reads))) ∧ True) ∧ ((x1.l ++ [(x1.w.getD (IntKind.i64.wrap ((↑x1.w.length : Int) - 1)).toNat { index := 0, open_ := false : PStepT }).index]) = (x'.l)) ∧
    ((setM x1.pm (x1.w.getD (IntKind.i64.wrap ((↑x1.w.length : Int) - 1)).toNat { index := 0, open_ := false : PStepT }).index (IntKind.u64.wrap (↑(x1.l ++ [(x1.w.getD (IntKind.i64.wrap ((↑x1.w.length : Int) - 1)).toNat { index := 0, open_ := false : PStepT }).index]).length : Int))) = (x'.pm)) ∧ (True ∧ True ∧ True ∧ ((Value.int IntKind.u32 (x1.S.fresh)) = (Value.int IntKind.u32 (x'.S.fresh))) ∧ True) ∧ ((x1.S.nodes) = (x'.S.nodes)) ∧ ((x1.S.counts) = (x'.S.counts)) ∧ ((x1.S.used) = (x'.S.used)) ∧ ((x1.S.gen) = (x'.S.gen)) ∧ ((x1.S.rel) = (x'.S.rel)) ∧ ((rs) = (rs)) ∧ ((List.take (IntKind.i64.wrap ((↑x1.w.length : Int) - 1)).toNat x1.w) = (x'.w)) ∧ True) ∧ (wtP x'.S x'.w < wtP x1.S x1.w))))) ((brS (decide (lookM x1.pm (x1.w.getD (IntKind.i64.wrap ((↑x1.w.length : Int) - 1)).toNat { index := 0, open_ := false : PStepT }).index > 0)) ((∃ x' : XEb P2, ((((↑x.i : Int)) = ((↑x'.i : Int))) ∧ ((True ∧ True ∧ True ∧ True ∧ ((Value.int IntKind.i64 ((↑rs.length : Int))) = (Value.int IntKind.i64 ((↑rs.length : Int)))) ∧ ((Value.int IntKind.i64 ((↑x.i : Int))) = (Value.int IntKind.i64 ((↑x.i : Int)))) ∧ True) ∧ (True ∧ True ∧ True) ∧ (True ∧ True ∧ True ∧ ((Value.int IntKind.u64 (x1.S.reads)) = (Value.int IntKind.u64 (x'.S.reads))) ∧ True) ∧ ((x1.l) = (x'.l)) ∧ ((x1.pm) = (x'.pm)) ∧ (True ∧ True ∧ True ∧ ((Value.int IntKind.u32 (x1.S.fresh)) = (Value.int IntKind.u32 (x'.S.fresh))) ∧ True) ∧ ((x1.S.nodes) = (x'.S.nodes)) ∧ ((x1.S.counts) = (x'.S.counts)) ∧ ((x1.S.used) = (x'.S.used)) ∧
    ((x1.S.gen) = (x'.S.gen)) ∧ ((x1.S.rel) = (x'.S.rel)) ∧ ((rs) = (rs)) ∧ ((List.take (IntKind.i64.wrap ((↑x1.w.length : Int) - 1)).toNat x1.w) = (x'.w)) ∧ True) ∧ (wtP x'.S x'.w < wtP x1.S x1.w)))) (((inU (x1.w.getD (IntKind.i64.wrap ((↑x1.w.length : Int) - 1)).toNat { index := 0, open_ := false : PStepT }).index) ∧ (exW x1.S) ∧ (x1.S.reads < 4000000000000000000) ∧ (∀ S' : Arn, (((S') = (rdS x1.S (x1.S.us (x1.w.getD (IntKind.i64.wrap ((↑x1.w.length : Int) - 1)).toNat { index := 0, open_ := false : PStepT }).index).toNat)) → (brS (x1.S.us (x1.w.getD (IntKind.i64.wrap ((↑x1.w.length : Int) - 1)).toNat { index := 0, open_ := false : PStepT }).index) (((((List.take (IntKind.i64.wrap ((↑x1.w.length : Int) - 1)).toNat x1.w).length + [{ index := (x1.w.getD (IntKind.i64.wrap ((↑x1.w.length : Int) - 1)).toNat { index := 0, open_ := false : PStepT }).index, open_ := true : PStepT }, { index := (x1.S.nd (x1.w.getD (IntKind.i64.wrap ((↑x1.w.length : Int) - 1)).toNat { index := 0, open_ := false : PStepT }).index).right, open_ := false : PStepT }, { index := (x1.S.nd (x1.w.getD (IntKind.i64.wrap ((↑x1.w.length : Int) - 1)).toNat { index := 0, open_ := false : PStepT }).index).left, open_ := false : PStepT }].length) * bytesOf C0 EC.pstep ≤ 140737488355328) ∧ (∃ x' : XEb P2, ((((↑x.i : Int)) = ((↑x'.i : Int))) ∧ ((True ∧ True ∧ True ∧ True ∧ ((Value.int IntKind.i64 ((↑rs.length : Int))) = (Value.int IntKind.i64 ((↑rs.length : Int)))) ∧
    ((Value.int IntKind.i64 ((↑x.i : Int))) = (Value.int IntKind.i64 ((↑x.i : Int)))) ∧ True) ∧ (True ∧ True ∧ True) ∧ (True ∧ True ∧ True ∧ ((Value.int IntKind.u64 (S'.reads)) = (Value.int IntKind.u64 (x'.S.reads))) ∧ True) ∧ ((x1.l) = (x'.l)) ∧ ((x1.pm) = (x'.pm)) ∧ (True ∧ True ∧ True ∧ ((Value.int IntKind.u32 (S'.fresh)) = (Value.int IntKind.u32 (x'.S.fresh))) ∧ True) ∧ ((S'.nodes) = (x'.S.nodes)) ∧ ((S'.counts) = (x'.S.counts)) ∧ ((S'.used) = (x'.S.used)) ∧ ((S'.gen) = (x'.S.gen)) ∧ ((S'.rel) = (x'.S.rel)) ∧ ((rs) = (rs)) ∧ ((List.take (IntKind.i64.wrap ((↑x1.w.length : Int) - 1)).toNat x1.w ++ [{ index := (x1.w.getD (IntKind.i64.wrap ((↑x1.w.length : Int) - 1)).toNat { index := 0, open_ := false : PStepT }).index, open_ := true : PStepT }, { index := (x1.S.nd (x1.w.getD (IntKind.i64.wrap ((↑x1.w.length : Int) - 1)).toNat { index := 0, open_ := false : PStepT }).index).right, open_ := false : PStepT }, { index := (x1.S.nd (x1.w.getD (IntKind.i64.wrap ((↑x1.w.length : Int) - 1)).toNat { index := 0, open_ := false : PStepT }).index).left, open_ := false : PStepT }]) = (x'.w)) ∧ True) ∧ (wtP x'.S x'.w < wtP x1.S x1.w))))) ((∃ x' : XEb P2, ((((↑x.i : Int)) = ((↑x'.i : Int))) ∧ ((True ∧ True ∧ True ∧ True ∧ ((Value.int IntKind.i64 ((↑rs.length : Int))) = (Value.int IntKind.i64 ((↑rs.length : Int)))) ∧ ((Value.int IntKind.i64 ((↑x.i : Int))) = (Value.int IntKind.i64 ((↑x.i : Int)))) ∧ True) ∧ (True ∧ True ∧ True) ∧ (True ∧ True ∧ True ∧
    ((Value.int IntKind.u64 (S'.reads)) = (Value.int IntKind.u64 (x'.S.reads))) ∧ True) ∧ ((x1.l) = (x'.l)) ∧ ((x1.pm) = (x'.pm)) ∧ (True ∧ True ∧ True ∧ ((Value.int IntKind.u32 (S'.fresh)) = (Value.int IntKind.u32 (x'.S.fresh))) ∧ True) ∧ ((S'.nodes) = (x'.S.nodes)) ∧ ((S'.counts) = (x'.S.counts)) ∧ ((S'.used) = (x'.S.used)) ∧ ((S'.gen) = (x'.S.gen)) ∧ ((S'.rel) = (x'.S.rel)) ∧ ((rs) = (rs)) ∧ ((List.take (IntKind.i64.wrap ((↑x1.w.length : Int) - 1)).toNat x1.w) = (x'.w)) ∧ True) ∧ (wtP x'.S x'.w < wtP x1.S x1.w)))))))))))))) ((∃ x' : XEa P1, (True ∧ ((True ∧ True ∧ True ∧ ((Value.int IntKind.i64 ((↑rs.length : Int))) = (Value.int IntKind.i64 ((↑rs.length : Int)))) ∧ ((Value.int IntKind.i64 (IntKind.i64.wrap ((↑x.i : Int) + 1))) = (Value.int IntKind.i64 ((↑x'.i : Int)))) ∧ True) ∧ (True ∧ True ∧ True) ∧ (True ∧ True ∧ True ∧ ((Value.int IntKind.u64 (x1.S.reads)) = (Value.int IntKind.u64 (x'.S.reads))) ∧ True) ∧ ((x1.l) = (x'.l)) ∧ ((x1.pm) = (x'.pm)) ∧ (True ∧ True ∧ True ∧ ((Value.int IntKind.u32 (x1.S.fresh)) = (Value.int IntKind.u32 (x'.S.fresh))) ∧ True) ∧ ((x1.S.nodes) = (x'.S.nodes)) ∧ ((x1.S.counts) = (x'.S.counts)) ∧ ((x1.S.used) = (x'.S.used)) ∧ ((x1.S.gen) = (x'.S.gen)) ∧ ((x1.S.rel) = (x'.S.rel)) ∧ ((rs) = (rs)) ∧ True) ∧ (rs.length - x'.i < rs.length - x.i)))))))))
    ((K (SV.tup []) [(Chunk.box [(At.slc 2), (At.slc 3)]), (Chunk.box [(At.ptr 4 0), (At.slc 5), (At.slc 6), (At.val (Value.int IntKind.u64 (x.S.reads)))]), (Chunk.row true (EC.u32) (x.l)), (Chunk.map IntKind.u32 IntKind.u64 (x.pm)), (Chunk.box [(At.slc 7), (At.slc 8), (At.slc 9), (At.val (Value.int IntKind.u32 (x.S.fresh)))]), (Chunk.row true (EC.node) (x.S.nodes)), (Chunk.row true (EC.int) (x.S.counts)), (Chunk.row true (EC.bool) (x.S.used)), (Chunk.row true (EC.u32) (x.S.gen)), (Chunk.row true (EC.u32) (x.S.rel)), (Chunk.row false (EC.u32) (rs))] [0, 1, 2, 3])))))) = _ by kernel_rfl) ?_
  subst hP1 hP2
  obtain ⟨hs, hw⟩ := hx
  obtain ⟨hn, hu, hm⟩ := hk
  refine ⟨⟨⟨S, l, pm, 0, Nat.zero_le _, .nil, hm, ?_⟩, ?_⟩, fun x _ => brS_of (fun c => ?_) fun c => ?_⟩
  · rw [Nat.sub_self, rdS_zero]
  · (repeat' first | exact trivial | exact rfl | refine And.intro ?_ ?_)
  · obtain ⟨Sa, la, pa, i, hi, ha⟩ := x
    dsimp only at c ⊢
    have c : i < rs.length := by have := of_decide_eq_true c; omega
    refine ⟨by omega, by omega, ⟨⟨Sa, la, pa, i, _, ha.more hw c hv hn hu⟩, rfl, ?_⟩, fun x ex => brS_of (fun d => ?_) fun d => ?_⟩
    · (repeat' first | exact trivial | exact rfl | refine And.intro ?_ ?_)
    · skip
      obtain ⟨Sb, lb, pb, i', w, hb⟩ := x
      dsimp only at d ex ⊢
      obtain rfl : i = i' := by omega
      have d : 0 < w.length := by have := of_decide_eq_true d; omega
      obtain ⟨w', x, rfl⟩ : ∃ w' x, w = w' ++ [x] := by
        rcases List.eq_nil_or_concat w with e | ⟨w', x, e⟩
        · rw [e] at d; exact absurd d (by decide)
        · exact ⟨w', x, by rw [e, List.concat_eq_append]⟩
      obtain ⟨b1, m, b2, b3, b4⟩ := hb.bd hw hn hu
      have e1 : IntKind.i64.wrap (((w' ++ [x]).length : Int) - 1) = (w'.length : Int) := by
        rw [wrap_id (by omega) (by omega), List.length_append, List.length_singleton]; omega
      rw [e1]
      have e2 : (w' ++ [x]).getD ((w'.length : Int)).toNat { index := 0, open_ := false : PStepT } = x := by
        show (w' ++ [x]).getD w'.length _ = x
        simp [List.getD_eq_getElem?_getD]
      have e3 : List.take ((w'.length : Int)).toNat (w' ++ [x]) = w' := by
        show List.take w'.length (w' ++ [x]) = w'
        simp
      rw [e2, e3]
      have e4 : (w' ++ [x]).length = w'.length + 1 := by simp
      obtain ⟨j, o⟩ := x
      dsimp only
      refine ⟨by omega, by omega, by omega, by omega, brS_of (fun z => ?_) fun z => brS_of (fun y => ?_) fun y => ⟨?_, ⟨hs, ?_⟩, ?_, fun S' es => brS_of (fun v => ?_) fun v => ?_⟩⟩
      · subst z
        have hp := hb.pop (v := IntKind.u64.wrap ((lb ++ [j]).length : Int)) (by rw [wrap_u64 (by omega) (by rw [List.length_append, List.length_singleton]; omega), List.length_append, List.length_singleton]; omega)
        have hz : (lb.length + [j].length) * bytesOf C0 EC.u32 ≤ 140737488355328 := by rw [bytes_u32, List.length_singleton]; omega
        have hμ : wtP Sb w' < wtP Sb (w' ++ [⟨j, true⟩]) := by rw [wtP_app]; show _ < _ + 1; omega
        refine ⟨⟨hz, ⟨⟨Sb, lb ++ [j], _, i, w', hp⟩, rfl, ?_, hμ⟩⟩, hz, ⟨⟨Sb, lb ++ [j], _, i, w', hp⟩, rfl, ?_, hμ⟩⟩
        · (repeat' first | exact trivial | exact rfl | refine And.intro ?_ ?_)
        · (repeat' first | exact trivial | exact rfl | refine And.intro ?_ ?_)
      · subst z
        have y : j ∈ lb := plcN_mem.1 (by rw [← hb.map]; exact of_decide_eq_true y)
        refine ⟨⟨Sb, lb, pb, i, w', hb.skip (.inr y)⟩, rfl, ?_, ?_⟩
        · (repeat' first | exact trivial | exact rfl | refine And.intro ?_ ?_)
        · rw [wtP_app]; show wtP Sb w' < _ + (3 * _ + 1 + 0); omega
      · subst z; exact hb.inu
      · rw [b2]; exact hw.rd (by omega)
      · rw [b2]; show S.reads + (m : Int) < _; omega
      · subst z
        have y : j ∉ lb := fun q => by
          have q := plcN_mem.2 q
          rw [← hb.map] at q
          exact of_decide_eq_false y q
        rw [b2] at v
        have v : S.us j = true := v
        have hp := hb.push hw v y
        have es : S' = rdS Sb 1 := by rw [es, b2]; show rdS _ (S.us j).toNat = _; rw [v]; rfl
        subst es
        have en : ∀ k, Sb.nd k = S.nd k := fun k => by rw [b2]; rfl
        refine ⟨by rw [bytes_pstep]; simp; omega, ⟨⟨rdS Sb 1, lb, pb, i, _, hp⟩, rfl, ?_, ?_⟩⟩
        · rw [en]
          (repeat' first | exact trivial | exact rfl | refine And.intro ?_ ?_)
        · rw [wtP_app, wtP_app]
          have k := sz_kids hw j v
          unfold lfA rgA at k
          show _ + (1 + (3 * ((rdS Sb 1).nd (S.nd j).right).size.toNat + 1 + (3 * ((rdS Sb 1).nd (S.nd j).left).size.toNat + 1 + 0))) < _ + (3 * (Sb.nd j).size.toNat + 1 + 0)
          have f1 : wtP (rdS Sb 1) w' = wtP Sb w' := rfl
          have f2 : ∀ k, (rdS Sb 1).nd k = S.nd k := fun k => en k
          rw [f1, f2, f2, en]
          have s0 := hw.siz j v
          have s1 := hw.size_nonneg (S.nd j).left
          have s2 := hw.size_nonneg (S.nd j).right
          omega
      · subst z
        rw [b2] at v
        have v : S.us j = false := v
        have es : S' = Sb := by rw [es, b2]; show rdS _ (S.us j).toNat = _; rw [v]; exact rdS_zero _
        subst es
        refine ⟨⟨S', lb, pb, i, w', hb.skip (.inl v)⟩, rfl, ?_, ?_⟩
        · (repeat' first | exact trivial | exact rfl | refine And.intro ?_ ?_)
        · rw [wtP_app]; show wtP S' w' < _ + (3 * _ + 1 + 0); omega
    · obtain ⟨Sb, lb, pb, i', w, hb⟩ := x
      dsimp only at d ex ⊢
      obtain rfl : i = i' := by omega
      have d : w = [] := List.eq_nil_of_length_eq_zero (by have := of_decide_eq_false d; omega)
      subst d
      rw [wrap_id (by omega) (by omega)]
      refine ⟨⟨Sb, lb, pb, i + 1, c, hb.done⟩, trivial, ?_, Nat.sub_lt_sub_left c (Nat.lt_succ_self i)⟩
      (repeat' first | exact trivial | exact rfl | refine And.intro ?_ ?_)
  · obtain ⟨Sa, la, pa, i, hi, ha⟩ := x
    dsimp only at c
    have c : i = rs.length := by have := of_decide_eq_false c; omega
    rw [c, List.take_length] at ha
    exact h _ _ _ ha
theorem s_ext : SoundT C0 41 tExt := by
  refine .ofW [0, 1, 2, 3] Try.func41 (by decide) rfl fun args H K h hB => ?_
  unfold tExt at h
  split at h <;> try exact h.elim
  unfold exM at h
  split at h <;> try exact h.elim
  rename_i _ rd l pm fr nd ct us gn rl rs
  refine ⟨_, ?_, vc_ext l pm rs ⟨us, gn, rl, fr, nd, ct, rd⟩ K h.1 h.2.1 h.2.2.1 h.2.2.2.1 h.2.2.2.2.1 h.2.2.2.2.2⟩
  exact ⟨frame C0.ok s_node _, trivial⟩
theorem NmR.of {S S' : Arn} {rs l : List Int} {pm : List (Int × Int)} (h : ExtR S [] rs S' l pm) : NmR S rs S' l := ⟨h.num, by rw [h.st]; rfl⟩
theorem vc_nmb (S : Arn) (rs : List Int) (K : KT) (hb : NmB S rs) (h : ∀ S' l pm, NmR S rs S' l → K (.one (.at (.ptr 8 0))) (chS S' ++ [.row false EC.u32 rs, .box [.slc 9, .slc 10], .row true EC.u32 l, .map .u32 .u64 pm]) [0]) :
    vc C0 aNmb Try.f40 [.at (.ptr 0 0), .at (.slc 7)] (chS S ++ [.row false EC.u32 rs]) (normK 8 (wideK [0] K)) := by
  refine Eq.mp (show ((exW S) ∧
(S.reads ≤ 3000000000000000000) ∧
(rs.length ≤ 1000000) ∧
(allV rs) ∧
(NumK S [] []) ∧
(∀ S' : Arn, (∀ l' : List Int, (∀ pm' : List (Int × Int), ((ExtR S [] rs S' l' pm') → (K (SV.one (TV.at (At.ptr 8 0))) [(Chunk.box [(At.ptr 1 0), (At.slc 2), (At.slc 3), (At.val (Value.int IntKind.u64 (S'.reads)))]), (Chunk.box [(At.slc 4), (At.slc 5), (At.slc 6), (At.val (Value.int IntKind.u32 (S'.fresh)))]), (Chunk.row true (EC.node) (S'.nodes)), (Chunk.row true (EC.int) (S'.counts)), (Chunk.row true (EC.bool) (S'.used)), (Chunk.row true (EC.u32) (S'.gen)), (Chunk.row true (EC.u32) (S'.rel)), (Chunk.row false (EC.u32) (rs)), (Chunk.box [(At.slc 9), (At.slc 10)]), (Chunk.row true (EC.u32) (l')), (Chunk.map IntKind.u32 IntKind.u64 (pm'))] [0])))))) = _ by kernel_rfl) ?_
  obtain ⟨h1, h2, h3, h4⟩ := hb
  exact ⟨h1, h2, h3, h4, ⟨List.nodup_nil, by simp, fun _ => rfl⟩, fun S' l pm e => h S' l pm (.of e)⟩
theorem s_nmb : SoundT C0 40 tNmb := by
  refine .ofW [0] Try.func40 (by decide) rfl fun args H K h hB => ?_
  unfold tNmb at h
  split at h <;> try exact h.elim
  unfold nbM arMr at h
  split at h <;> try exact h.elim
  split at h <;> try exact h.elim
  rename_i _ rd fr nd ct us gn rl _ rs
  refine ⟨_, ?_, vc_nmb ⟨us, gn, rl, fr, nd, ct, rd⟩ rs K h.1 h.2⟩
  exact ⟨frame C0.ok s_ext _, trivial⟩
theorem vc_nds (S : Arn) (rs : List Int) (K : KT) (hb : NmB S rs) (h : ∀ S' l, NmR S rs S' l → K (.one (.at (.slc 8))) (chS S' ++ [.row false EC.u32 rs, .row true EC.u32 l]) [0]) :
    vc C0 aNds Try.f53 [.at (.ptr 0 0), .at (.slc 7)] (chS S ++ [.row false EC.u32 rs]) (normK 8 (wideK [0] K)) := by
  refine Eq.mp (show ((NmB S rs) ∧
(∀ S' : Arn, (∀ l : List Int, (∀ pm : List (Int × Int), ((NmR S rs S' l) → (K (SV.one (TV.at (At.slc 8))) [(Chunk.box [(At.ptr 1 0), (At.slc 2), (At.slc 3), (At.val (Value.int IntKind.u64 (S'.reads)))]), (Chunk.box [(At.slc 4), (At.slc 5), (At.slc 6), (At.val (Value.int IntKind.u32 (S'.fresh)))]), (Chunk.row true (EC.node) (S'.nodes)), (Chunk.row true (EC.int) (S'.counts)), (Chunk.row true (EC.bool) (S'.used)), (Chunk.row true (EC.u32) (S'.gen)), (Chunk.row true (EC.u32) (S'.rel)), (Chunk.row false (EC.u32) (rs)), (Chunk.row true (EC.u32) (l))] [0])))))) = _ by kernel_rfl) ?_
  exact ⟨hb, fun S' l pm e => h S' l e⟩
theorem s_nds : SoundT C0 53 tNds := by
  refine .ofW [0] Try.func53 (by decide) rfl fun args H K h hB => ?_
  unfold tNds at h
  split at h <;> try exact h.elim
  unfold nbM arMr at h
  split at h <;> try exact h.elim
  split at h <;> try exact h.elim
  rename_i _ rd fr nd ct us gn rl _ rs
  refine ⟨_, ?_, vc_nds ⟨us, gn, rl, fr, nd, ct, rd⟩ rs K h.1 h.2⟩
  exact ⟨frame C0.ok s_nmb _, trivial⟩
end Go.Proofs.Ytedfbafngmicpaa.Sx
end
section
/- packwork: Write, Digest. -/
namespace Go.Proofs.Ytedfbafngmicpaa.Sx
open Go

/-KEEP Wf exW inU allV live rdS NumsA NumA ExtR NmB NmR NumK vE vsE frE kB kyA zz wB crc encN hdE pkE rcE magB allB allU uvA plcN getB DgR WrR NmK-/
def rngI (x : Int) : Prop := -9223372036854775808 ≤ x ∧ x ≤ 9223372036854775807
def InA (S : Arn) (l : List Int) : Prop := ∀ i ∈ l, rngI (S.nd i).key ∧ rngI (S.nd i).value
def KyN (S : Arn) (rs : List Int) : Prop := ∀ l, NumsA S rs [] l → InA S l
def magB : List Int := [86, 77, 80, 49]
def encN (x : PNT) : List Int := vsE (kB x.key) [zz x.value, x.left, x.right]
def hdE (k m r D : Int) : List Int := vsE [] [k, m, r] ++ wB 4 D
def pkE (k D : Int) (nodes : List PNT) (rts : List Int) : List Int := rcE (nodes.foldl (fun o x => rcE o (encN x)) (rcE magB (hdE k nodes.length rts.length D))) (vsE [] rts)
def nodP (S : Arn) (la : List Int) (i : Int) : PNT := ⟨(S.nd i).key, (S.nd i).value, plcN la (lfA S i), plcN la (rgA S i)⟩
def pkS (S : Arn) (lk la rs : List Int) (D : Int) : List Int := pkE lk.length D ((la.drop lk.length).map (nodP S la)) (rs.map (plcN la))
def DgR (S : Arn) (rs : List Int) (D : Int) : Prop := (rs = [] ∧ D = 0) ∨ (rs ≠ [] ∧ ∃ l, NumsA S rs [] l ∧ D = crc (pkS S [] l rs 0))
structure WrR (S : Arn) (rs ks : List Int) (n : Nat) (S' : Arn) (o : List Int) : Prop where
  ex : ∃ lk la D, NumsA S ks [] lk ∧ NumsA S rs lk la ∧ DgR S ks D ∧ o = pkS S lk la rs D
  st : ∃ m, S' = rdS S m ∧ m ≤ n
  ab : allB o ∧ o.length ≤ 8000000
structure NmK (S : Arn) (rs : List Int) (S' : Arn) (l : List Int) (pm : List (Int × Int)) : Prop where
  num : NumsA S rs [] l
  st : S' = rdS S l.length
  map : ∀ j, lookM pm j = plcN l j
def tNmk : Tfm C0 := fun args H K => match args with
  | [.at (.ptr 0 0), .at (.slc 7)] => nbM H fun S rs => NmB S rs ∧ ∀ S' l pm, NmK S rs S' l pm → K (.one (.at (.ptr 8 0))) (chS S' ++ [.row false EC.u32 rs, .box [.slc 9, .slc 10], .row true EC.u32 l, .map .u32 .u64 pm]) [0]
  | _ => False
def tDgq (Q : Arn → List Int → Prop) (R : Arn → List Int → Arn → Int → Prop) : Tfm C0 := fun args H K => match args with
  | [.at (.ptr 0 0), .at (.slc 7)] => nbM H fun S rs => Q S rs ∧ ∀ S' D, R S rs S' D → K (.one (.at (vU D))) (chS S' ++ [.row false EC.u32 rs]) [0]
  | _ => False
structure XWa (P : Arn → List Int → List (Int × Int) → List Int → Nat → Prop) where
  S : Arn
  l : List Int
  pm : List (Int × Int)
  o : List Int
  k : Nat
  h : P S l pm o k
structure XWb (P : Arn → List Int → List (Int × Int) → List Int → Nat → Nat → Prop) where
  S : Arn
  l : List Int
  pm : List (Int × Int)
  o : List Int
  k : Nat
  i : Nat
  h : P S l pm o k i
structure XWc (P : Arn → List Int → List (Int × Int) → List Int → List Int → Nat → Prop) where
  S : Arn
  l : List Int
  pm : List (Int × Int)
  o : List Int
  z : List Int
  i : Nat
  h : P S l pm o z i
abbrev hfW (rs ks : List Int) (S : Arn) (l : List Int) (own : Bool) (pm : List (Int × Int)) : List (Chunk C0) := chS S ++ [.row false EC.u32 rs, .row false EC.u32 ks, .box [.slc 10, .slc 11], .row own EC.u32 l, .map .u32 .u64 pm]
noncomputable def aWr (Q : Arn → List Int → Prop) (R : Arn → List Int → Arn → Int → Prop) (P0 P3 : Arn → List Int → List (Int × Int) → List Int → Nat → Prop) (P1 : Arn → List Int → List (Int × Int) → List Int → Nat → Nat → Prop) (P2 : Arn → List Int → List (Int × Int) → List Int → List Int → Nat → Prop) (rs ks : List Int) : Ann C0 := { quiet := [9999999, 47], Γ := [(40, frameT [] tNmk), (41, frameT [] tExt), (42, frameT [true] tVs), (43, frameT [] (tDgq Q R)), (44, frameT [true] tRc), (45, frameT [] tNode), (46, frameT [] tKe), (47, frameT [] tZz)], inv := fun n => match n with
  | 1007 => some { X := XWa P0, sl := [7, 8, 11], tf := fun x => [.one (.at (.ptr 9 0)), vi .i64 x.k, .one (.at (.slc 12))], hf := fun x => hfW rs ks x.S x.l true x.pm ++ [.row true EC.u8 x.o], wr := [0] }
  | 8 => some { X := XWb P1, sl := [7, 11, 72, 73, 74], tf := fun x => [.one (.at (.ptr 9 0)), .one (.at (.slc 12)), .one (.at (.slc 13)), vi .i64 ((x.l.drop x.k).length : Int), vi .i64 x.i], hf := fun x => hfW rs ks x.S x.l false x.pm ++ [.row true EC.u8 x.o, .row false EC.u32 (x.l.drop x.k)], μ := fun x => (x.l.drop x.k).length - x.i, wr := [0] }
  | 1014 => some { X := XWa P3, sl := [7, 11], tf := fun _ => [.one (.at (.ptr 9 0)), .one (.at (.slc 12))], hf := fun x => hfW rs ks x.S x.l false x.pm ++ [.row true EC.u8 x.o], wr := [0] }
  | 16 => some { X := XWc P2, sl := [7, 11, 17, 112], tf := fun x => [.one (.at (.ptr 9 0)), .one (.at (.slc 12)), .one (.at (.slc 13)), vi .i64 x.i], hf := fun x => hfW rs ks x.S x.l false x.pm ++ [.row true EC.u8 x.o, .row true EC.u8 x.z], μ := fun x => rs.length - x.i, wr := [0] }
  | _ => none }
abbrev wrM (H : List (Chunk C0)) (k : Arn → List Int → List Int → Prop) : Prop := arMr H fun S rest => match rest with
  | [.row false .u32 rs, .row false .u32 ks] => k S rs ks
  | _ => False
def WrB (S : Arn) (rs ks : List Int) : Prop := exW S ∧ S.reads ≤ 2000000000000000000 ∧ rs.length ≤ 90000 ∧ ks.length ≤ 90000 ∧ allV rs ∧ allV ks ∧ KyN S (ks ++ rs)
theorem vc_nmk (S : Arn) (rs : List Int) (K : KT) (hb : NmB S rs) (h : ∀ S' l pm, NmK S rs S' l pm → K (.one (.at (.ptr 8 0))) (chS S' ++ [.row false EC.u32 rs, .box [.slc 9, .slc 10], .row true EC.u32 l, .map .u32 .u64 pm]) [0]) :
    vc C0 aNmb Try.f40 [.at (.ptr 0 0), .at (.slc 7)] (chS S ++ [.row false EC.u32 rs]) (normK 8 (wideK [0] K)) := by
  refine Eq.mp (show ((exW S) ∧
(S.reads ≤ 3000000000000000000) ∧
(rs.length ≤ 1000000) ∧
(allV rs) ∧
(NumK S [] []) ∧
(∀ S' : Arn, (∀ l' : List Int, (∀ pm' : List (Int × Int), ((ExtR S [] rs S' l' pm') → (K (SV.one (TV.at (At.ptr 8 0))) [(Chunk.box [(At.ptr 1 0), (At.slc 2), (At.slc 3), (At.val (Value.int IntKind.u64 (S'.reads)))]), (Chunk.box [(At.slc 4), (At.slc 5), (At.slc 6), (At.val (Value.int IntKind.u32 (S'.fresh)))]), (Chunk.row true (EC.node) (S'.nodes)), (Chunk.row true (EC.int) (S'.counts)), (Chunk.row true (EC.bool) (S'.used)), (Chunk.row true (EC.u32) (S'.gen)), (Chunk.row true (EC.u32) (S'.rel)), (Chunk.row false (EC.u32) (rs)), (Chunk.box [(At.slc 9), (At.slc 10)]), (Chunk.row true (EC.u32) (l')), (Chunk.map IntKind.u32 IntKind.u64 (pm'))] [0])))))) = _ by kernel_rfl) ?_
  obtain ⟨h1, h2, h3, h4⟩ := hb
  exact ⟨h1, h2, h3, h4, ⟨List.nodup_nil, by simp, fun _ => rfl⟩, fun S' l pm e => h S' l pm ⟨e.num, by rw [e.st]; rfl, e.map⟩⟩
theorem s_nmk : SoundT C0 40 tNmk := by
  refine .ofW [0] Try.func40 (by decide) rfl fun args H K h hB => ?_
  unfold tNmk at h
  split at h <;> try exact h.elim
  unfold nbM arMr at h
  split at h <;> try exact h.elim
  split at h <;> try exact h.elim
  rename_i _ rd fr nd ct us gn rl _ rs
  refine ⟨_, ?_, vc_nmk ⟨us, gn, rl, fr, nd, ct, rd⟩ rs K h.1 h.2⟩
  exact ⟨frame C0.ok s_ext _, trivial⟩
theorem encN_len (x : PNT) : (encN x).length ≤ 41 := by
  have := vsE_len [zz x.value, x.left, x.right]
  unfold encN vsE kB
  rw [List.length_append, wB_len]
  simp only [List.length_cons, List.length_nil] at this
  omega
theorem rcE_len (o p : List Int) : (rcE o p).length ≤ o.length + p.length + 15 := by
  have := frE_len p
  unfold rcE
  rw [List.length_append]; omega
theorem foldE_len : ∀ (xs : List PNT) (o : List Int), (xs.foldl (fun o x => rcE o (encN x)) o).length ≤ o.length + 56 * xs.length
  | [], o => by show o.length ≤ _; omega
  | x :: xs, o => by
    have h1 := foldE_len xs (rcE o (encN x))
    have h2 := rcE_len o (encN x)
    have h3 := encN_len x
    rw [List.foldl_cons, List.length_cons]; omega
theorem vsE_allB {b l : List Int} (hb : allB b) (hl : allU l) : allB (vsE b l) := by
  refine allB_app hb fun c hc => ?_
  obtain ⟨u, hu, hc⟩ := List.mem_flatMap.1 hc
  have := hl u hu
  exact allB_vE this.1 this.2 c hc
theorem allB_nil : allB [] := fun c hc => by simp at hc
def okP (x : PNT) : Prop := rngI x.key ∧ rngI x.value ∧ (0 ≤ x.left ∧ x.left < 18446744073709551616) ∧ 0 ≤ x.right ∧ x.right < 18446744073709551616
theorem okP.us {x : PNT} (h : okP x) : allU [zz x.value, x.left, x.right] := by
  intro u hu
  have z := zz_rng h.2.1.1 h.2.1.2
  simp only [List.mem_cons, List.not_mem_nil, or_false] at hu
  rcases hu with rfl | rfl | rfl
  · omega
  · exact h.2.2.1
  · exact h.2.2.2
theorem encN_allB {x : PNT} (h : okP x) : allB (encN x) := vsE_allB (allB_wB _ _) h.us
theorem hdE_len (k m r D : Int) : (hdE k m r D).length ≤ 37 := by
  have := vsE_len [k, m, r]
  unfold hdE vsE
  rw [List.length_append, List.length_append, wB_len]
  simp only [List.length_cons, List.length_nil] at this ⊢
  omega
theorem hdE_allB {k m r D : Int} (h : allU [k, m, r]) : allB (hdE k m r D) := allB_app (vsE_allB allB_nil h) (allB_wB _ _)
theorem vsE_snoc (l : List Int) (u : Int) : vsE (vsE [] l) [u] = vsE [] (l ++ [u]) := by
  unfold vsE
  rw [List.flatMap_append, List.append_assoc]
def headS (k m r D : Int) : List Int := rcE magB (hdE k m r D)
/-- What is written when i new nodes are through. -/
def wo (S : Arn) (l : List Int) (D : Int) (k nr i : Nat) : List Int := (((l.drop k).take i).map (nodP S l)).foldl (fun o x => rcE o (encN x)) (headS k ((l.drop k).length : Nat) nr D)
theorem headS_len (k m r D : Int) : (headS k m r D).length ≤ 56 := by
  have h1 := rcE_len magB (hdE k m r D)
  have h2 := hdE_len k m r D
  have h3 : magB.length = 4 := rfl
  unfold headS; omega
theorem wo_len (S : Arn) (l : List Int) (D : Int) (k nr i : Nat) : (wo S l D k nr i).length ≤ 56 + 56 * l.length := by
  have h1 := foldE_len (((l.drop k).take i).map (nodP S l)) (headS k ((l.drop k).length : Nat) nr D)
  have h2 := headS_len k ((l.drop k).length : Nat) nr D
  have h3 : (((l.drop k).take i).map (nodP S l)).length ≤ l.length := by rw [List.length_map, List.length_take, List.length_drop]; omega
  unfold wo; omega
theorem wo_go (S : Arn) {l : List Int} (D : Int) {k nr i : Nat} (h : i < (l.drop k).length) : wo S l D k nr (i + 1) = rcE (wo S l D k nr i) (encN (nodP S l (getB (l.drop k) i))) := by
  unfold wo
  rw [take_getB h, List.map_append, List.foldl_append]; rfl
theorem nodP_ok {S : Arn} {l : List Int} (hk : InA S l) (hl : l.length ≤ 65536) {i : Int} (hi : i ∈ l) : okP (nodP S l i) := by
  have a := plcN_rng l (lfA S i)
  have b := plcN_rng l (rgA S i)
  exact ⟨(hk i hi).1, (hk i hi).2, ⟨a.1, by show plcN l (lfA S i) < _; omega⟩, b.1, by show plcN l (rgA S i) < _; omega⟩
theorem frE_allB' {p : List Int} (h : allB p) (hl : p.length ≤ 1048576) {o : List Int} (ho : allB o) : allB (rcE o p) := allB_app ho (frE_allB h hl)
theorem foldE_allB : ∀ (xs : List PNT) (o : List Int), allB o → (∀ x ∈ xs, okP x) → allB (xs.foldl (fun o x => rcE o (encN x)) o)
  | [], o, ho, _ => ho
  | x :: xs, o, ho, hx => by
    have l2 := encN_len x
    exact foldE_allB xs _ (frE_allB' (encN_allB (hx x List.mem_cons_self)) (by omega) ho) fun y hy => hx y (List.mem_cons_of_mem _ hy)
theorem magB_allB : allB magB := by unfold allB magB; decide
theorem headS_allB {k m r : Nat} (D : Int) (hk : k ≤ 1000000) (hm : m ≤ 1000000) (hr : r ≤ 1000000) : allB (headS k m r D) := by
  have := hdE_len k m r D
  refine frE_allB' (hdE_allB fun u hu => ?_) (by omega) magB_allB
  simp only [List.mem_cons, List.not_mem_nil, or_false] at hu
  rcases hu with rfl | rfl | rfl <;> omega
theorem wo_allB {S : Arn} {l : List Int} {D : Int} {k nr i : Nat} (hk : InA S l) (hl : l.length ≤ 65536) (h1 : k ≤ 1000000) (h2 : nr ≤ 1000000) : allB (wo S l D k nr i) := by
  refine foldE_allB _ _ (headS_allB D h1 (by rw [List.length_drop]; omega) h2) fun x hx => ?_
  obtain ⟨j, hj, rfl⟩ := List.mem_map.1 hx
  exact nodP_ok hk hl (List.mem_of_mem_drop (List.mem_of_mem_take hj))
structure WrF (S0 : Arn) (rs ks lk la : List Int) (D : Int) : Prop where
  nk : NumsA S0 ks [] lk
  na : NumsA S0 rs lk la
  dg : DgR S0 ks D
  kin : InA S0 la
  len : la.length ≤ 65536
  us : ∀ j ∈ la, S0.us j = true
  le : lk.length ≤ la.length
def PW0 (S0 : Arn) (rs ks : List Int) (n : Nat) : Arn → List Int → List (Int × Int) → List Int → Nat → Prop := fun S l pm o k => ∃ lk D m, WrF S0 rs ks lk l D ∧ k = lk.length ∧ S = rdS S0 m ∧ m ≤ n ∧ (∀ j, lookM pm j = plcN l j) ∧ o = wo S0 l D k rs.length 0
def PW1 (S0 : Arn) (rs ks : List Int) (n : Nat) : Arn → List Int → List (Int × Int) → List Int → Nat → Nat → Prop := fun S l pm o k i => ∃ lk D m, WrF S0 rs ks lk l D ∧ k = lk.length ∧ S = rdS S0 m ∧ m ≤ n + i ∧ (∀ j, lookM pm j = plcN l j) ∧ i ≤ (l.drop k).length ∧ o = wo S0 l D k rs.length i
def PW3 (S0 : Arn) (rs ks : List Int) (n : Nat) : Arn → List Int → List (Int × Int) → List Int → Nat → Prop := fun S l pm o _ => ∃ lk D m, WrF S0 rs ks lk l D ∧ S = rdS S0 m ∧ m ≤ n + 65536 ∧ (∀ j, lookM pm j = plcN l j) ∧ o = wo S0 l D lk.length rs.length (l.drop lk.length).length
def PW2 (S0 : Arn) (rs ks : List Int) (n : Nat) : Arn → List Int → List (Int × Int) → List Int → List Int → Nat → Prop := fun S l pm o z i => i ≤ rs.length ∧ PW3 S0 rs ks n S l pm o 0 ∧ z = vsE [] ((rs.take i).map (plcN l))
theorem KyN.sub {S : Arn} {ks rs : List Int} (h : KyN S (ks ++ rs)) {lk la : List Int} (nk : NumsA S ks [] lk) (na : NumsA S rs lk la) : InA S la := h la (nk.app na)
theorem KyN.left {S : Arn} {hs ks rs : List Int} (hw : Wf S hs) (h : KyN S (ks ++ rs)) : KyN S ks := fun l nl => by
  obtain ⟨la, na⟩ := numsA_ex hw rs l
  intro i hi
  exact h la (nl.app na) i (na.sub hi)
theorem vc_wr (Q : Arn → List Int → Prop) (R : Arn → List Int → Arn → Int → Prop) (nD : Nat) (S : Arn) (rs ks : List Int) (K : KT) (hb : WrB S rs ks) (hD : nD ≤ 1000000)
    (hQ : ∀ m, m ≤ 200000 → Q (rdS S m) ks) (hR : ∀ m S' D, R (rdS S m) ks S' D → DgR S ks D ∧ 0 ≤ D ∧ D < 4294967296 ∧ ∃ n, S' = rdS S (m + n) ∧ n ≤ nD)
    (h : ∀ S' o, WrR S rs ks (nD + 200000) S' o → K (.one (.at (.slc 9))) (chS S' ++ [.row false EC.u32 rs, .row false EC.u32 ks, .row true EC.u8 o]) [0]) :
    vc C0 (aWr Q R (PW0 S rs ks (nD + 65536)) (PW3 S rs ks (nD + 65536)) (PW1 S rs ks (nD + 65536)) (PW2 S rs ks (nD + 65536)) rs ks) Try.f21 [.at (.ptr 0 0), .at (.slc 7), .at (.slc 8)] (chS S ++ [.row false EC.u32 rs, .row false EC.u32 ks]) (normK 9 (wideK [0] K)) := by
  generalize hP0 : PW0 S rs ks (nD + 65536) = P0
  generalize hP1 : PW1 S rs ks (nD + 65536) = P1
  generalize hP2 : PW2 S rs ks (nD + 65536) = P2
  generalize hP3 : PW3 S rs ks (nD + 65536) = P3
  refine Eq.mp (show ((NmB S ks) ∧
(∀ S' : Arn, (∀ l : List Int, (∀ pm : List (Int × Int), ((NmK S ks S' l pm) → ((exW S') ∧ (S'.reads ≤ 3000000000000000000) ∧ (rs.length ≤ 1000000) ∧ (allV rs) ∧ (NumK S' l pm) ∧ (∀ S'1 : Arn, (∀ l' : List Int, (∀ pm' : List (Int × Int), ((ExtR S' l rs S'1 l' pm') → ((allU [IntKind.u64.wrap (↑l.length : Int), IntKind.u64.wrap (IntKind.i64.wrap ((↑l'.length : Int) - (↑l.length : Int))), IntKind.u64.wrap (↑rs.length : Int)]) ∧ ([IntKind.u64.wrap (↑l.length : Int), IntKind.u64.wrap (IntKind.i64.wrap ((↑l'.length : Int) - (↑l.length : Int))), IntKind.u64.wrap (↑rs.length : Int)].length ≤ 1000000) ∧ (([] : List Ent).length ≤ 1000000000) ∧ (∀ o : List Int, (((o) = (vsE [] [IntKind.u64.wrap (↑l.length : Int), IntKind.u64.wrap (IntKind.i64.wrap ((↑l'.length : Int) - (↑l.length : Int))), IntKind.u64.wrap (↑rs.length : Int)])) → ((Q (S'1) (ks)) ∧ (∀ S'2 : Arn, (∀ D : Int, ((R (S'1) (ks) (S'2) (D)) → (((0 < [86, 77, 80, 49].length) ∧ ((o.length + [IntKind.u8.wrap (D.fdiv (2 ^ min (Int.toNat 24) IntKind.u32.bits)), IntKind.u8.wrap (D.fdiv (2 ^ min (Int.toNat 16) IntKind.u32.bits)), IntKind.u8.wrap (D.fdiv (2 ^ min (Int.toNat 8) IntKind.u32.bits)), IntKind.u8.wrap D].length) * bytesOf C0 EC.u8 ≤ 140737488355328) ∧ (allB (o ++ [IntKind.u8.wrap (D.fdiv (2 ^ min (Int.toNat 24) IntKind.u32.bits)), IntKind.u8.wrap (D.fdiv (2 ^ min (Int.toNat 16) IntKind.u32.bits)), IntKind.u8.wrap (D.fdiv (2 ^ min (Int.toNat 8) IntKind.u32.bits)), IntKind.u8.wrap D])) ∧
    ((o ++ [IntKind.u8.wrap (D.fdiv (2 ^ min (Int.toNat 24) IntKind.u32.bits)), IntKind.u8.wrap (D.fdiv (2 ^ min (Int.toNat 16) IntKind.u32.bits)), IntKind.u8.wrap (D.fdiv (2 ^ min (Int.toNat 8) IntKind.u32.bits)), IntKind.u8.wrap D]).length ≤ 1048576) ∧ ([86, 77, 80, 49].length ≤ 1000000000) ∧ (∀ o1 : List Int, (((o1) = (rcE [86, 77, 80, 49] (o ++ [IntKind.u8.wrap (D.fdiv (2 ^ min (Int.toNat 24) IntKind.u32.bits)), IntKind.u8.wrap (D.fdiv (2 ^ min (Int.toNat 16) IntKind.u32.bits)), IntKind.u8.wrap (D.fdiv (2 ^ min (Int.toNat 8) IntKind.u32.bits)), IntKind.u8.wrap D]))) → (∃ x : XWa P0, (True ∧ (True ∧ True ∧ True ∧ ((Value.int IntKind.i64 ((↑l.length : Int))) = (Value.int IntKind.i64 ((↑x.k : Int)))) ∧ True ∧ True) ∧ (True ∧ True ∧ True ∧ ((Value.int IntKind.u64 (S'2.reads)) = (Value.int IntKind.u64 (x.S.reads))) ∧ True) ∧ (True ∧ True ∧ True ∧ ((Value.int IntKind.u32 (S'2.fresh)) = (Value.int IntKind.u32 (x.S.fresh))) ∧ True) ∧ ((S'2.nodes) = (x.S.nodes)) ∧ ((S'2.counts) = (x.S.counts)) ∧ ((S'2.used) = (x.S.used)) ∧ ((S'2.gen) = (x.S.gen)) ∧ ((S'2.rel) = (x.S.rel)) ∧ ((rs) = (rs)) ∧ ((ks) = (ks)) ∧ (True ∧ True ∧ True) ∧ ((l') = (x.l)) ∧ ((pm') = (x.pm)) ∧ ((o1) = (x.o)) ∧ True))))) ∧ (∀ x : XWa P0, (True → (((0 ≤ (↑x.k : Int)) ∧ ((↑x.k : Int) ≤ (↑x.l.length : Int)) ∧ ((↑x.l.length : Int) ≤ (↑x.l.length : Int)) ∧ (∃ x1 : XWb P1, (True ∧ (True ∧ True ∧ True ∧ True ∧ True ∧
    ((Value.int IntKind.i64 ((↑(List.drop (↑x.k : Int).toNat (List.take (↑x.l.length : Int).toNat x.l)).length : Int))) = (Value.int IntKind.i64 ((↑(List.drop x1.k x1.l).length : Int)))) ∧ ((Value.int IntKind.i64 0) = (Value.int IntKind.i64 ((↑x1.i : Int)))) ∧ True) ∧ (True ∧ True ∧ True ∧ ((Value.int IntKind.u64 (x.S.reads)) = (Value.int IntKind.u64 (x1.S.reads))) ∧ True) ∧ (True ∧ True ∧ True ∧ ((Value.int IntKind.u32 (x.S.fresh)) = (Value.int IntKind.u32 (x1.S.fresh))) ∧ True) ∧ ((x.S.nodes) = (x1.S.nodes)) ∧ ((x.S.counts) = (x1.S.counts)) ∧ ((x.S.used) = (x1.S.used)) ∧ ((x.S.gen) = (x1.S.gen)) ∧ ((x.S.rel) = (x1.S.rel)) ∧ ((rs) = (rs)) ∧ ((ks) = (ks)) ∧ (True ∧ True ∧ True) ∧ ((x.l) = (x1.l)) ∧ ((x.pm) = (x1.pm)) ∧ ((x.o) = (x1.o)) ∧ ((List.drop (↑x.k : Int).toNat (List.take (↑x.l.length : Int).toNat x.l)) = (List.drop x1.k x1.l)) ∧ True)) ∧ (∀ x1 : XWb P1, (True → (brS (decide ((↑x1.i : Int) < (↑(List.drop x1.k x1.l).length : Int))) (((0 ≤ (↑x1.i : Int)) ∧ ((↑x1.i : Int) < (↑(List.drop x1.k x1.l).length : Int)) ∧ (inU (getB (List.drop x1.k x1.l) (↑x1.i : Int).toNat)) ∧ (exW x1.S) ∧ (x1.S.reads < 4000000000000000000) ∧ (∀ S'3 : Arn, (((S'3) = (rdS x1.S (x1.S.us (getB (List.drop x1.k x1.l) (↑x1.i : Int).toNat)).toNat)) → ((-9223372036854775808 ≤ (x1.S.nd (getB (List.drop x1.k x1.l) (↑x1.i : Int).toNat)).key) ∧ ((x1.S.nd (getB (List.drop x1.k x1.l) (↑x1.i : Int).toNat)).key ≤ 9223372036854775807) ∧ (([] : List Ent).length ≤ 1000000000) ∧ (∀ o1 : List Int,
    (((o1) = (kyA [] (x1.S.nd (getB (List.drop x1.k x1.l) (↑x1.i : Int).toNat)).key)) → ((-9223372036854775808 ≤ (x1.S.nd (getB (List.drop x1.k x1.l) (↑x1.i : Int).toNat)).value) ∧ ((x1.S.nd (getB (List.drop x1.k x1.l) (↑x1.i : Int).toNat)).value ≤ 9223372036854775807) ∧ (∀ u : Int, (((u) = (zz (x1.S.nd (getB (List.drop x1.k x1.l) (↑x1.i : Int).toNat)).value)) → ((allU [u, lookM x1.pm (x1.S.nd (getB (List.drop x1.k x1.l) (↑x1.i : Int).toNat)).left, lookM x1.pm (x1.S.nd (getB (List.drop x1.k x1.l) (↑x1.i : Int).toNat)).right]) ∧ ([u, lookM x1.pm (x1.S.nd (getB (List.drop x1.k x1.l) (↑x1.i : Int).toNat)).left, lookM x1.pm (x1.S.nd (getB (List.drop x1.k x1.l) (↑x1.i : Int).toNat)).right].length ≤ 1000000) ∧ (o1.length ≤ 1000000000) ∧ (∀ o2 : List Int, (((o2) = (vsE o1 [u, lookM x1.pm (x1.S.nd (getB (List.drop x1.k x1.l) (↑x1.i : Int).toNat)).left, lookM x1.pm (x1.S.nd (getB (List.drop x1.k x1.l) (↑x1.i : Int).toNat)).right])) → ((allB o2) ∧ (o2.length ≤ 1048576) ∧ (x1.o.length ≤ 1000000000) ∧ (∀ o3 : List Int, (((o3) = (rcE x1.o o2)) → (∃ x' : XWb P1, (True ∧ ((True ∧ True ∧ True ∧ True ∧ True ∧ ((Value.int IntKind.i64 ((↑(List.drop x1.k x1.l).length : Int))) = (Value.int IntKind.i64 ((↑(List.drop x'.k x'.l).length : Int)))) ∧ ((Value.int IntKind.i64 (IntKind.i64.wrap ((↑x1.i : Int) + 1))) = (Value.int IntKind.i64 ((↑x'.i : Int)))) ∧ True) ∧ (True ∧ True ∧ True ∧ ((Value.int IntKind.u64 (S'3.reads)) = (Value.int IntKind.u64 (x'.S.reads))) ∧ True) ∧ (True ∧ True ∧ True ∧
    ((Value.int IntKind.u32 (S'3.fresh)) = (Value.int IntKind.u32 (x'.S.fresh))) ∧ True) ∧ ((S'3.nodes) = (x'.S.nodes)) ∧ ((S'3.counts) = (x'.S.counts)) ∧ ((S'3.used) = (x'.S.used)) ∧ ((S'3.gen) = (x'.S.gen)) ∧ ((S'3.rel) = (x'.S.rel)) ∧ ((rs) = (rs)) ∧ ((ks) = (ks)) ∧ (True ∧ True ∧ True) ∧ ((x1.l) = (x'.l)) ∧ ((x1.pm) = (x'.pm)) ∧ ((o3) = (x'.o)) ∧ ((List.drop x1.k x1.l) = (List.drop x'.k x'.l)) ∧ True) ∧ ((List.drop x'.k x'.l).length - x'.i < (List.drop x1.k x1.l).length - x1.i))))))))))))))))))) ((∃ x2 : XWa P3, (True ∧ (True ∧ True ∧ True ∧ True) ∧ (True ∧ True ∧ True ∧ ((Value.int IntKind.u64 (x1.S.reads)) = (Value.int IntKind.u64 (x2.S.reads))) ∧ True) ∧ (True ∧ True ∧ True ∧ ((Value.int IntKind.u32 (x1.S.fresh)) = (Value.int IntKind.u32 (x2.S.fresh))) ∧ True) ∧ ((x1.S.nodes) = (x2.S.nodes)) ∧ ((x1.S.counts) = (x2.S.counts)) ∧ ((x1.S.used) = (x2.S.used)) ∧ ((x1.S.gen) = (x2.S.gen)) ∧ ((x1.S.rel) = (x2.S.rel)) ∧ ((rs) = (rs)) ∧ ((ks) = (ks)) ∧ (True ∧ True ∧ True) ∧ ((x1.l) = (x2.l)) ∧ ((x1.pm) = (x2.pm)) ∧ ((x1.o) = (x2.o)) ∧ True))))))) ∧ (∀ x1 : XWa P3, (True → ((∃ x2 : XWc P2, (True ∧ (True ∧ True ∧ True ∧ True ∧ ((Value.int IntKind.i64 ((↑rs.length : Int))) = (Value.int IntKind.i64 ((↑rs.length : Int)))) ∧ ((Value.int IntKind.i64 0) = (Value.int IntKind.i64 ((↑x2.i : Int)))) ∧ True) ∧ (True ∧ True ∧ True ∧ ((Value.int IntKind.u64 (x1.S.reads)) = (Value.int IntKind.u64 (x2.S.reads))) ∧ True) ∧ (True ∧ True ∧ True ∧
    ((Value.int IntKind.u32 (x1.S.fresh)) = (Value.int IntKind.u32 (x2.S.fresh))) ∧ True) ∧ ((x1.S.nodes) = (x2.S.nodes)) ∧ ((x1.S.counts) = (x2.S.counts)) ∧ ((x1.S.used) = (x2.S.used)) ∧ ((x1.S.gen) = (x2.S.gen)) ∧ ((x1.S.rel) = (x2.S.rel)) ∧ ((rs) = (rs)) ∧ ((ks) = (ks)) ∧ (True ∧ True ∧ True) ∧ ((x1.l) = (x2.l)) ∧ ((x1.pm) = (x2.pm)) ∧ ((x1.o) = (x2.o)) ∧ ([] = (x2.z)) ∧ True)) ∧ (∀ x2 : XWc P2, (True → (brS (decide ((↑x2.i : Int) < (↑rs.length : Int))) (((0 ≤ (↑x2.i : Int)) ∧ ((↑x2.i : Int) < (↑rs.length : Int)) ∧ (allU [lookM x2.pm (getB rs (↑x2.i : Int).toNat)]) ∧ ([lookM x2.pm (getB rs (↑x2.i : Int).toNat)].length ≤ 1000000) ∧ (x2.z.length ≤ 1000000000) ∧ (∀ o1 : List Int, (((o1) = (vsE x2.z [lookM x2.pm (getB rs (↑x2.i : Int).toNat)])) → (∃ x' : XWc P2, (True ∧ ((True ∧ True ∧ True ∧ True ∧ ((Value.int IntKind.i64 ((↑rs.length : Int))) = (Value.int IntKind.i64 ((↑rs.length : Int)))) ∧ ((Value.int IntKind.i64 (IntKind.i64.wrap ((↑x2.i : Int) + 1))) = (Value.int IntKind.i64 ((↑x'.i : Int)))) ∧ True) ∧ (True ∧ True ∧ True ∧ ((Value.int IntKind.u64 (x2.S.reads)) = (Value.int IntKind.u64 (x'.S.reads))) ∧ True) ∧ (True ∧ True ∧ True ∧ ((Value.int IntKind.u32 (x2.S.fresh)) = (Value.int IntKind.u32 (x'.S.fresh))) ∧ True) ∧ ((x2.S.nodes) = (x'.S.nodes)) ∧ ((x2.S.counts) = (x'.S.counts)) ∧ ((x2.S.used) = (x'.S.used)) ∧ ((x2.S.gen) = (x'.S.gen)) ∧ ((x2.S.rel) = (x'.S.rel)) ∧ ((rs) = (rs)) ∧ ((ks) = (ks)) ∧ (True ∧ True ∧ True) ∧ ((x2.l) = (x'.l)) ∧ ((x2.pm) = (x'.pm)) ∧
    ((x2.o) = (x'.o)) ∧ ((o1) = (x'.z)) ∧ True) ∧ (rs.length - x'.i < rs.length - x2.i))))))) (((allB x2.z) ∧ (x2.z.length ≤ 1048576) ∧ (x2.o.length ≤ 1000000000) ∧ (∀ o1 : List Int, (((o1) = (rcE x2.o x2.z)) → (K (SV.one (TV.at (At.slc 9))) [(Chunk.box [(At.ptr 1 0), (At.slc 2), (At.slc 3), (At.val (Value.int IntKind.u64 (x2.S.reads)))]), (Chunk.box [(At.slc 4), (At.slc 5), (At.slc 6), (At.val (Value.int IntKind.u32 (x2.S.fresh)))]), (Chunk.row true (EC.node) (x2.S.nodes)), (Chunk.row true (EC.int) (x2.S.counts)), (Chunk.row true (EC.bool) (x2.S.used)), (Chunk.row true (EC.u32) (x2.S.gen)), (Chunk.row true (EC.u32) (x2.S.rel)), (Chunk.row false (EC.u32) (rs)), (Chunk.row false (EC.u32) (ks)), (Chunk.row true (EC.u8) (o1))] [0])))))))))))))))))))))))))))))))) = _ by kernel_rfl) ?_
  subst hP0 hP1 hP2 hP3
  obtain ⟨⟨hs, hw⟩, hr, hrs, hks, vr, vk, ky⟩ := hb
  refine ⟨⟨⟨hs, hw⟩, by omega, by omega, vk⟩, fun S1 lk pm1 nk => ?_⟩
  have ndk := nk.num.nodup (szA_kids hw) List.nodup_nil
  have usk := nk.num.used (by simp)
  have ukl := used_few hw ndk usk
  have n2 := hw.n2
  have e1 := nk.st
  subst e1
  have hw1 : Wf (rdS S lk.length) hs := hw.rd (by omega)
  refine ⟨⟨hs, hw1⟩, by show S.reads + (lk.length : Int) ≤ _; omega, by omega, vr, ⟨ndk, usk, nk.map⟩, fun S2 la pm ex => ?_⟩
  have nn : NumsA S rs lk la := ex.num
  have nda := nn.nodup (szA_kids hw) ndk
  have usa := nn.used usk
  have ual := used_few hw nda usa
  have kin := ky.sub nk.num nn
  obtain ⟨yy, hyy⟩ := nn.pre
  have lle : lk.length ≤ la.length := by rw [hyy, List.length_append]; omega
  have e2 := ex.st
  rw [rdS_rdS, show lk.length + (la.length - lk.length) = la.length by omega] at e2
  subst e2
  have us3 : allU [IntKind.u64.wrap (lk.length : Int), IntKind.u64.wrap (IntKind.i64.wrap ((la.length : Int) - (lk.length : Int))), IntKind.u64.wrap (rs.length : Int)] ∧ [IntKind.u64.wrap (lk.length : Int), IntKind.u64.wrap (IntKind.i64.wrap ((la.length : Int) - (lk.length : Int))), IntKind.u64.wrap (rs.length : Int)] = [(lk.length : Int), ((la.drop lk.length).length : Nat), (rs.length : Int)] := by
    rw [wrap_id (x := (la.length : Int) - (lk.length : Int)) (by omega) (by omega), wrap_u64 (x := (lk.length : Int)) (by omega) (by omega), wrap_u64 (x := (la.length : Int) - (lk.length : Int)) (by omega) (by omega), wrap_u64 (x := (rs.length : Int)) (by omega) (by omega)]
    refine ⟨fun u hu => ?_, ?_⟩
    · simp only [List.mem_cons, List.not_mem_nil, or_false] at hu
      rcases hu with rfl | rfl | rfl <;> omega
    · rw [List.length_drop]
      congr 2
      omega
  obtain ⟨us3, ue3⟩ := us3
  rw [ue3] at us3
  rw [ue3]
  refine ⟨us3, by simp, by simp, fun o eo => ⟨hQ _ (by omega), fun S3 D hRD => ?_⟩⟩
  obtain ⟨dg, D0, D1, n, e3, hn⟩ := hR _ _ _ hRD
  subst e3
  have ew : o ++ wB 4 D = hdE lk.length ((la.drop lk.length).length : Nat) rs.length D := by rw [eo]; rfl
  rw [w4_num D0, ew]
  have hl := hdE_len lk.length ((la.drop lk.length).length : Nat) rs.length D
  have ol : o.length ≤ 37 := by rw [← ew, List.length_append] at hl; omega
  refine ⟨⟨by decide, by rw [wB_len, bytes_u8]; omega, hdE_allB us3, by omega, by decide, fun o1 eo1 => ⟨⟨_, la, pm, o1, lk.length, lk, D, la.length + n, ⟨nk.num, nn, dg, kin, by omega, usa, lle⟩, rfl, rfl, by omega, ex.map, ?_⟩, ?_⟩⟩, fun x _ => ?_⟩
  · rw [eo1]; rfl
  · (repeat' first | exact trivial | exact rfl | refine And.intro ?_ ?_)
  obtain ⟨S4, l, pm, o, k, lk, D, m, F, ek, es, hm, mp, eo⟩ := x
  dsimp only
  have ll := F.len
  have lk' := F.le
  have tk : List.take (l.length : Int).toNat l = l := by rw [Int.toNat_natCast]; exact List.take_length
  rw [tk]
  refine ⟨⟨by omega, by omega, by omega, ⟨⟨S4, l, pm, o, k, 0, lk, D, m, F, ek, es, hm, mp, Nat.zero_le _, eo⟩, ?_⟩, fun x1 _ => brS_of (fun z => ?_) fun z => ?_⟩, fun x1 _ => ?_⟩
  · (repeat' first | exact trivial | exact rfl | refine And.intro ?_ ?_)
  · obtain ⟨S5, l, pm, o, k, i, lk, D, m, F, ek, es, hm, mp, hi, eo⟩ := x1
    dsimp only at z ⊢
    have zi : i < (l.drop k).length := by have := of_decide_eq_true z; omega
    clear z
    have ll := F.len
    have il : i ≤ 65536 := by rw [List.length_drop] at zi; omega
    rw [show ((i : Int)).toNat = i from rfl, wrap_id (x := (i : Int) + 1) (by omega) (by omega)]
    have jm : getB (l.drop k) i ∈ l := List.mem_of_mem_drop (getB_mem zi)
    have eg := wo_go S (nr := rs.length) D zi
    generalize getB (l.drop k) i = j at *
    have uj := F.us j jm
    have ok := nodP_ok F.kin ll jm
    subst es
    have ol := wo_len S l D k rs.length i
    rw [← eo] at ol
    refine ⟨by omega, by omega, inU_of hw (.inr uj), ⟨hs, hw.rd (by omega)⟩, by show S.reads + (m : Int) < _; omega, fun S6 es6 => ?_⟩
    have es6 : S6 = rdS S (m + 1) := by rw [es6]; show rdS _ (S.us j).toNat = _; rw [uj, rdS_rdS]; rfl
    subst es6
    have kj := F.kin j jm
    rw [mp, mp]
    show -9223372036854775808 ≤ (S.nd j).key ∧ (S.nd j).key ≤ 9223372036854775807 ∧ _
    refine ⟨kj.1.1, kj.1.2, by simp, fun q1 eq1 => ⟨kj.2.1, kj.2.2, fun u eu => ?_⟩⟩
    have eq1 : q1 = kB (S.nd j).key := eq1.trans (List.nil_append _)
    have eu : u = zz (S.nd j).value := eu
    rw [eq1, eu]
    refine ⟨ok.us, by simp, by unfold kB; rw [wB_len]; decide, fun q2 eq2 => ?_⟩
    have eq2 : q2 = encN (nodP S l j) := eq2
    have l2 := encN_len (nodP S l j)
    rw [eq2]
    refine ⟨encN_allB ok, by omega, by omega, fun q3 eq3 => ⟨⟨rdS S (m + 1), l, pm, q3, k, i + 1, lk, D, m + 1, F, ek, rfl, by omega, mp, zi, by rw [eq3, eo]; exact eg.symm⟩, trivial, ?_, Nat.sub_lt_sub_left zi (Nat.lt_succ_self i)⟩⟩
    (repeat' first | exact trivial | exact rfl | refine And.intro ?_ ?_)
  · obtain ⟨S5, l, pm, o, k, i, lk, D, m, F, ek, es, hm, mp, hi, eo⟩ := x1
    dsimp only at z ⊢
    have z : i = (l.drop k).length := by have := of_decide_eq_false z; omega
    have ll := F.len
    have il : i ≤ 65536 := by rw [z, List.length_drop]; omega
    refine ⟨⟨S5, l, pm, o, k, lk, D, m, F, es, by omega, mp, by rw [eo, z, ek]⟩, trivial, ?_⟩
    (repeat' first | exact trivial | exact rfl | refine And.intro ?_ ?_)
  · obtain ⟨S5, l, pm, o, k, lk, D, m, F, es, hm, mp, eo⟩ := x1
    dsimp only
    refine ⟨⟨⟨S5, l, pm, o, [], 0, Nat.zero_le _, ⟨lk, D, m, F, es, hm, mp, eo⟩, rfl⟩, ?_⟩, fun x2 _ => brS_of (fun z => ?_) fun z => ?_⟩
    · (repeat' first | exact trivial | exact rfl | refine And.intro ?_ ?_)
    · obtain ⟨S6, l, pm, o, zl, i, hi, ⟨lk, D, m, F, es, hm, mp, eo⟩, ez⟩ := x2
      dsimp only at z ⊢
      have z : i < rs.length := by have := of_decide_eq_true z; omega
      rw [show ((i : Int)).toNat = i from rfl, wrap_id (x := (i : Int) + 1) (by omega) (by omega), mp]
      have zlen : zl.length ≤ 11 * rs.length := by
        have := vsE_len ((rs.take i).map (plcN l))
        rw [List.length_map, List.length_take] at this
        rw [ez]
        unfold vsE
        rw [List.nil_append]; omega
      have pr := plcN_rng l (getB rs i)
      have ll := F.len
      refine ⟨by omega, by omega, fun u hu => ?_, by simp, by omega, fun q1 eq1 => ⟨⟨S6, l, pm, o, q1, i + 1, z, ⟨lk, D, m, F, es, hm, mp, eo⟩, ?_⟩, trivial, ?_, Nat.sub_lt_sub_left z (Nat.lt_succ_self i)⟩⟩
      · rw [List.mem_singleton.1 hu]; omega
      · rw [eq1, ez, vsE_snoc, take_getB z, List.map_append]; rfl
      · (repeat' first | exact trivial | exact rfl | refine And.intro ?_ ?_)
    · obtain ⟨S6, l, pm, o, zl, i, hi, ⟨lk, D, m, F, es, hm, mp, eo⟩, ez⟩ := x2
      dsimp only at z ⊢
      have z : i = rs.length := by have := of_decide_eq_false z; omega
      rw [z, List.take_length] at ez
      have ll := F.len
      have zlen : zl.length ≤ 11 * rs.length := by
        have := vsE_len (rs.map (plcN l))
        rw [List.length_map] at this
        rw [ez]
        unfold vsE
        rw [List.nil_append]; omega
      have ol := wo_len S l D lk.length rs.length (l.drop lk.length).length
      rw [← eo] at ol
      refine ⟨?_, by omega, by omega, fun q eq => h _ _ ⟨⟨lk, l, D, F.nk, F.na, F.dg, ?_⟩, ⟨m, es, by omega⟩, ?_⟩⟩
      · rw [ez]
        refine vsE_allB allB_nil fun u hu => ?_
        obtain ⟨r, _, rfl⟩ := List.mem_map.1 hu
        have pr := plcN_rng l r
        omega
      · rw [eq, eo, ez]
        unfold pkS pkE wo headS
        rw [List.take_length, List.length_map, List.length_map]
      · have zb : allB zl := by
          rw [ez]
          refine vsE_allB allB_nil fun u hu => ?_
          obtain ⟨r, _, rfl⟩ := List.mem_map.1 hu
          have pr := plcN_rng l r
          omega
        have := rcE_len o zl
        refine ⟨?_, by rw [eq]; omega⟩
        rw [eq]
        refine frE_allB' zb (by omega) ?_
        rw [eo]
        exact wo_allB F.kin ll (by have := F.le; omega) (by omega)
def tWrq (B : Arn → List Int → List Int → Prop) (n : Nat) : Tfm C0 := fun args H K => match args with
  | [.at (.ptr 0 0), .at (.slc 7), .at (.slc 8)] => wrM H fun S rs ks => B S rs ks ∧ ∀ S' o, WrR S rs ks n S' o → K (.one (.at (.slc 9))) (chS S' ++ [.row false EC.u32 rs, .row false EC.u32 ks, .row true EC.u8 o]) [0]
  | _ => False
theorem s_wrq (Q : Arn → List Int → Prop) (R : Arn → List Int → Arn → Int → Prop) (nD : Nat) (hD : nD ≤ 1000000) (sD : SoundT C0 43 (tDgq Q R)) (B : Arn → List Int → List Int → Prop)
    (hQ : ∀ S rs ks, B S rs ks → WrB S rs ks ∧ (∀ m, m ≤ 200000 → Q (rdS S m) ks) ∧ ∀ m S' D, R (rdS S m) ks S' D → DgR S ks D ∧ 0 ≤ D ∧ D < 4294967296 ∧ ∃ n, S' = rdS S (m + n) ∧ n ≤ nD) :
    SoundT C0 21 (tWrq B (nD + 200000)) := by
  refine .ofW [0] Try.func21 (by decide) rfl fun args H K h hB => ?_
  unfold tWrq at h
  split at h <;> try exact h.elim
  unfold wrM arMr at h
  split at h <;> try exact h.elim
  split at h <;> try exact h.elim
  rename_i _ rd fr nd ct us gn rl _ rs ks
  obtain ⟨h1, h2, h3⟩ := hQ _ _ _ h.1
  refine ⟨_, ?_, vc_wr Q R nD ⟨us, gn, rl, fr, nd, ct, rd⟩ rs ks K h1 hD h2 h3 h.2⟩
  exact ⟨frame C0.ok s_nmk _, frame C0.ok s_ext _, frame C0.ok s_vs _, frame C0.ok sD _, frame C0.ok s_rc _, frame C0.ok s_node _, frame C0.ok s_ke _, frame C0.ok s_zz _, trivial⟩
end Go.Proofs.Ytedfbafngmicpaa.Sx
end
section
/- packwork: the parts of Read. -/
namespace Go.Proofs.Ytedfbafngmicpaa.Sx
open Go

/-KEEP allB allU rvD ryD hdD ndD tlG getB uz wD orI-/
def hdD (b : List Int) : Option (Int × Int × Int × Int) := match rvD b 0 false with
  | (k, n1, f1) => match rvD b n1 f1 with
    | (m, n2, f2) => match rvD b n2 f2 with
      | (r, n3, f3) => if f3 = true ∨ (b.length : Int) - n3 ≠ 4 ∨ 65536 < k ∨ 65536 < m ∨ 4096 < r then none else some (k, m, r, wD (b.drop n3.toNat))
def ndD (own : Int) (b : List Int) : Option PNT := match ryD b 0 false with
  | (k, n1, f1) => match rvD b n1 f1 with
    | (v, n2, f2) => match rvD b n2 f2 with
      | (l, n3, f3) => match rvD b n3 f3 with
        | (r, n4, f4) => if f4 = true ∨ n4 ≠ (b.length : Int) ∨ own ≤ l ∨ own ≤ r then none else some ⟨k, uz v, l, r⟩
def tlG (top : Int) (b : List Int) : Nat → Int → Option (List Int × Int)
  | 0, at_ => some ([], at_)
  | n + 1, at_ => match rvD b at_ false with
    | (u, n1, f) => if f = true ∨ top < u then none else (tlG top b n n1).map fun q => (u :: q.1, q.2)
def tlD (top : Int) (n : Nat) (b : List Int) : Option (List Int) := match tlG top b n 0 with
  | some (l, at_) => if at_ = (b.length : Int) then some l else none
  | none => none
abbrev chP (k D : Int) (ns : List PNT) (rs : List Int) (b : List Int) : List (Chunk C0) := [.box [vU64 k, vU D, .slc 1, .slc 2], .row true EC.pn ns, .row true EC.u64 rs, .row false EC.u8 b]
abbrev pkM (H : List (Chunk C0)) (k : Int → Int → List PNT → List Int → List Int → Prop) : Prop := match H with
  | [.box [.val (.int .u64 kn), .val (.int .u32 D), .slc 1, .slc 2], .row true .pn ns, .row true .u64 rs, .row false .u8 b] => k kn D ns rs b
  | _ => False
structure XHd (P : Nat → Int → Prop) where
  i : Nat
  D : Int
  h : P i D
structure XHe (P : Int → Int → Int → Int → Prop) where
  k : Int
  m : Int
  r : Int
  n : Int
  h : P k m r n
noncomputable def aHd (P0 : Int → Int → Int → Int → Prop) (P : Nat → Int → Prop) (k n : Int) (ns : List PNT) (rs b : List Int) : Ann C0 := { Γ := [(74, frameT [] tRv)], inv := fun j => match j with
  | 1006 => some { X := XHe P0, sl := [7, 8, 9], tf := fun x => [.one (.at (.ptr 4 0)), vi .u64 x.m, vi .u64 x.r], hf := fun x => chP x.k 0 ns rs b ++ [.box [.slc 3, vI x.n, vB false]], wr := [0] }
  | 7 => some { X := XHd P, sl := [58, 60], tf := fun x => [.one (.at (.slc 4)), vi .i64 x.i], hf := fun x => chP k x.D ns rs b ++ [.row false EC.u8 (b.drop n.toNat)], μ := fun x => 4 - x.i, wr := [0] }
  | _ => none }
def tHd : Tfm C0 := fun args H K => match args with
  | [.at (.ptr 0 0), .at (.slc 3)] => pkM H fun _ D0 ns rs b => D0 = 0 ∧ allB b ∧ b.length ≤ 1000000000 ∧ (hdD b = none → ∀ kk, K (.tup [.at (vU64 0), .at (vU64 0), .at (vB false)]) (chP kk 0 ns rs b) [0]) ∧
      ∀ k m r D, hdD b = some (k, m, r, D) → K (.tup [.at (vU64 m), .at (vU64 r), .at (vB true)]) (chP k D ns rs b) [0]
  | _ => False
noncomputable def aNo : Ann C0 := { quiet := [9999999], Γ := [(74, frameT [] tRv), (75, frameT [] tRy), (77, frameT [] tRd), (76, frameT [] tUz)] }
def tNo : Tfm C0 := fun args H K => match args with
  | [.at (.ptr 0 0), .at (.slc 3)] => pkM H fun k D ns rs b => 0 ≤ k ∧ k ≤ 65536 ∧ ns.length ≤ 65536 ∧ allB b ∧ b.length ≤ 1000000000 ∧ (ndD (k + ns.length + 1) b = none → K (.one (.at (vB false))) (chP k D ns rs b) [0, 1]) ∧
      ∀ x, ndD (k + ns.length + 1) b = some x → K (.one (.at (vB true))) (chP k D (ns ++ [x]) rs b) [0, 1]
  | _ => False
structure XTl (P : Nat → List Int → Int → Prop) where
  i : Nat
  rs : List Int
  n : Int
  h : P i rs n
noncomputable def aTl (P : Nat → List Int → Int → Prop) (c : Nat) (k D : Int) (ns : List PNT) (b : List Int) : Ann C0 := { quiet := [9999999], Γ := [(74, frameT [] tRv), (77, frameT [] tRd)], inv := fun j => match j with
  | 3 => some { X := XTl P, sl := [7, 8], tf := fun x => [.one (.at (.ptr 4 0)), vi .u64 x.i], hf := fun x => chP k D ns x.rs b ++ [.box [.slc 3, vI x.n, vB false]], μ := fun x => c - x.i, wr := [0, 2] }
  | _ => none }
def tTl : Tfm C0 := fun args H K => match args with
  | [.at (.ptr 0 0), .at (.slc 3), .at (.val (.int .u64 c))] => pkM H fun k D ns rs b => rs = [] ∧ 0 ≤ k ∧ k ≤ 65536 ∧ ns.length ≤ 65536 ∧ 0 ≤ c ∧ c ≤ 1000000 ∧ allB b ∧ b.length ≤ 1000000000 ∧ (tlD (k + ns.length) c.toNat b = none → ∀ r, K (.one (.at (vB false))) (chP k D ns r b) [0, 2]) ∧
      ∀ r, tlD (k + ns.length) c.toNat b = some r → K (.one (.at (vB true))) (chP k D ns r b) [0, 2]
  | _ => False
theorem vD_lt : ∀ (l : List Int) (i : Nat) (a u k : Int), allB l → i ≤ 9 → 0 ≤ a → a < 128 ^ i → vD 12 13 i l a = (u, k, 0) → u < 18446744073709551616
  | [], _, _, _, _, _, _, _, _, h => by simp [vD] at h
  | c :: r, i, a, u, k, hb, hi, h0, h1, h => by
    obtain ⟨c0, c1⟩ := hb c List.mem_cons_self
    have pp : (1 : Int) ≤ 128 ^ i := Int.pow_pos (by decide)
    have q9 : (128 : Int) ^ i * 2 ≤ 18446744073709551616 ∧ (i ≤ 8 → (128 : Int) ^ i * 256 ≤ 18446744073709551616) := by
      have : i = 0 ∨ i = 1 ∨ i = 2 ∨ i = 3 ∨ i = 4 ∨ i = 5 ∨ i = 6 ∨ i = 7 ∨ i = 8 ∨ i = 9 := by omega
      rcases this with e | e | e | e | e | e | e | e | e | e <;> subst e <;> decide +kernel
    unfold vD at h
    split at h
    · simp at h
    · rename_i hc
      have w1 := Int.mul_le_mul_of_nonneg_right (a := c % 128) (b := 127) (c := 128 ^ i) (by omega) (by omega)
      split at h
      · rename_i c8
        simp only [Prod.mk.injEq] at h
        obtain ⟨h1, h2, _⟩ := h
        by_cases i8 : i ≤ 8
        · have := q9.2 i8; omega
        · obtain rfl : i = 9 := by omega
          have c2 : ¬ 1 < c := fun q => hc (.inl ⟨rfl, q⟩)
          have := Int.mul_le_mul_of_nonneg_right (a := c % 128) (b := 1) (c := 128 ^ 9) (by omega) (by omega)
          have := q9.1
          omega
      · rename_i c8
        refine vD_lt r (i + 1) _ u k (fun x hx => hb x (List.mem_cons_of_mem _ hx)) ?_ ?_ ?_ h
        · apply Classical.byContradiction
          intro n
          obtain rfl : i = 9 := by omega
          exact hc (.inl ⟨rfl, by omega⟩)
        · have := Int.mul_nonneg (a := c % 128) (b := 128 ^ i) (by omega) (by omega)
          omega
        · rw [Int.pow_succ]; omega
theorem uvD_rng {b : List Int} {at_ u n e : Int} (hb : allB b) (h : uvD b at_ = (u, n, e)) : (0 ≤ u ∧ u < 18446744073709551616) ∧ (e = 0 → 0 ≤ at_ ∧ at_ + 1 ≤ n ∧ n ≤ b.length) ∧ (e ≠ 0 → u = 0 ∧ n = 0) ∧ 0 ≤ n ∧ n ≤ b.length := by
  by_cases c : at_ < 0 ∨ (b.length : Int) < at_
  · unfold uvD at h
    rw [if_pos c] at h
    simp only [Prod.mk.injEq] at h
    obtain ⟨rfl, rfl, rfl⟩ := h
    exact ⟨by decide, fun e => absurd e (by decide), fun _ => ⟨rfl, rfl⟩, Int.le_refl 0, by omega⟩
  · obtain ⟨v, k, e', hv⟩ : ∃ v k e', vD 12 13 0 (b.drop at_.toNat) 0 = (v, k, e') := ⟨_, _, _, rfl⟩
    have ue := uvD_eq (by omega) (by omega) hv
    rw [h] at ue
    by_cases q : e' = 0
    · rw [if_pos q] at ue
      simp only [Prod.mk.injEq] at ue
      obtain ⟨rfl, rfl, rfl⟩ := ue
      rw [q] at hv
      have hr := allB_drop hb at_.toNat
      have a := vD_ok _ 0 0 _ k hr (Int.le_refl 0) hv
      have b' := vD_lt _ 0 0 _ k hr (by decide) (Int.le_refl 0) (by decide) hv
      rw [List.length_drop] at a
      exact ⟨⟨a.1, b'⟩, fun _ => ⟨by omega, by omega, by omega⟩, fun e => absurd rfl e, by omega, by omega⟩
    · rw [if_neg q] at ue
      simp only [Prod.mk.injEq] at ue
      obtain ⟨rfl, rfl, rfl⟩ := ue
      exact ⟨by decide, fun e => absurd e q, fun _ => ⟨rfl, rfl⟩, Int.le_refl 0, by omega⟩
theorem rvD_rng {b : List Int} {at_ u n : Int} {f g : Bool} (hb : allB b) (h : rvD b at_ g = (u, n, f)) : (0 ≤ u ∧ u < 18446744073709551616) ∧ (f = false → g = false ∧ 0 ≤ at_ ∧ at_ + 1 ≤ n ∧ n ≤ b.length) ∧ (0 ≤ at_ → at_ ≤ b.length → 0 ≤ n ∧ n ≤ b.length) := by
  unfold rvD at h
  cases g with
  | true =>
    simp only [if_true, Prod.mk.injEq] at h
    obtain ⟨rfl, rfl, rfl⟩ := h
    exact ⟨by decide, fun e => (by cases e), fun a b => ⟨a, b⟩⟩
  | false =>
    obtain ⟨u', n', e, he⟩ : ∃ u n e, uvD b at_ = (u, n, e) := ⟨_, _, _, rfl⟩
    rw [he] at h
    simp only [Bool.false_eq_true, if_false, Prod.mk.injEq] at h
    obtain ⟨rfl, rfl, rfl⟩ := h
    have r := uvD_rng hb he
    refine ⟨r.1, fun e => ⟨rfl, r.2.1 (by simpa using e)⟩, fun _ _ => r.2.2.2⟩
theorem ryD_rng {b : List Int} {u n : Int} {f : Bool} (hb : allB b) (h : ryD b 0 false = (u, n, f)) : rngI u ∧ 0 ≤ n ∧ n ≤ b.length := by
  obtain ⟨x, y, z, he⟩ : ∃ x y z, kyD b 0 = (x, y, z) := ⟨_, _, _, rfl⟩
  unfold ryD at h
  rw [he] at h
  simp only [Bool.false_eq_true, if_false, Prod.mk.injEq] at h
  obtain ⟨rfl, rfl, rfl⟩ := h
  unfold kyD at he
  rw [if_neg (by omega)] at he
  split at he
  · simp only [Prod.mk.injEq] at he
    obtain ⟨rfl, rfl, rfl⟩ := he
    exact ⟨by unfold rngI; decide, Int.le_refl 0, by omega⟩
  · simp only [Prod.mk.injEq] at he
    obtain ⟨rfl, rfl, rfl⟩ := he
    refine ⟨?_, by omega, by omega⟩
    have w : ∀ (l : List Int), allB l → 0 ≤ wD l ∧ wD l < 256 ^ l.length := by
      intro l
      have : ∀ (l : List Int) (a : Int) (m : Nat), allB l → 0 ≤ a → a < 256 ^ m → 0 ≤ l.foldl (fun a c => 256 * a + c) a ∧ l.foldl (fun a c => 256 * a + c) a < 256 ^ (m + l.length) := by
        intro l
        induction l with
        | nil => intro a m _ h0 h1; exact ⟨h0, h1⟩
        | cons c l ih =>
          intro a m hb h0 h1
          obtain ⟨c0, c1⟩ := hb c List.mem_cons_self
          have := ih (256 * a + c) (m + 1) (fun x hx => hb x (List.mem_cons_of_mem _ hx)) (by omega) (by rw [Int.pow_succ]; omega)
          rw [List.length_cons, show m + (l.length + 1) = m + 1 + l.length by omega]
          exact this
      intro hb
      have := this l 0 0 hb (Int.le_refl 0) (by decide)
      rw [Nat.zero_add] at this
      exact this
    have h8 := w _ (allB_take (allB_drop hb (Int.toNat 0)) 8)
    have l8 : ((b.drop (Int.toNat 0)).take 8).length = 8 := by rw [List.length_take, List.length_drop]; simp; omega
    rw [l8, show (256 : Int) ^ 8 = 18446744073709551616 from by decide +kernel] at h8
    unfold rngI
    omega
theorem orI32_low {D c : Int} (D0 : 0 ≤ D) (D1 : D < 16777216) (c0 : 0 ≤ c) (c1 : c < 256) : orI .u32 (IntKind.u32.wrap (D * 2 ^ min (Int.toNat 8) IntKind.u32.bits)) (IntKind.u32.wrap c) = 256 * D + c := by
  rw [show (2 : Int) ^ min (Int.toNat 8) IntKind.u32.bits = 256 from rfl, wrap_u32 (x := D * 256) (by omega) (by omega), wrap_u32 (x := c) c0 (by omega)]
  show IntKind.u32.wrap ((BitVec.ofInt 32 (D * 256) ||| BitVec.ofInt 32 c).toNat : Int) = _
  rw [wrap_nat32 (BitVec.isLt _), BitVec.toNat_or, toNat_of 32 (by omega) (by omega), toNat_of 32 c0 (by omega)]
  have e : (D * 256).toNat = 2 ^ 8 * D.toNat := by omega
  rw [e, ← Nat.two_pow_add_eq_or_of_lt (show c.toNat < 2 ^ 8 by omega)]
  omega
def PHd0 (b : List Int) : Int → Int → Int → Int → Prop := fun k m r n => k = (rvD b 0 false).1 ∧ n = (rvD b (rvD b (rvD b 0 false).2.1 (rvD b 0 false).2.2).2.1 (rvD b (rvD b 0 false).2.1 (rvD b 0 false).2.2).2.2).2.1 ∧ 0 ≤ n ∧ n + 4 = b.length ∧ hdD b = some (k, m, r, wD (b.drop n.toNat))
def PHd (b : List Int) (n : Int) : Nat → Int → Prop := fun i D => i ≤ 4 ∧ D = wD ((b.drop n.toNat).take i) ∧ 0 ≤ D ∧ D < 256 ^ i
theorem vc_hd (kn : Int) (ns : List PNT) (rs b : List Int) (K : KT) (hb : allB b) (hl : b.length ≤ 1000000000) (hf : hdD b = none → ∀ kk, K (.tup [.at (vU64 0), .at (vU64 0), .at (vB false)]) (chP kk 0 ns rs b) [0])
    (h : ∀ k m r D, hdD b = some (k, m, r, D) → K (.tup [.at (vU64 m), .at (vU64 r), .at (vB true)]) (chP k D ns rs b) [0]) :
    vc C0 (aHd (PHd0 b) (PHd b (rvD b (rvD b (rvD b 0 false).2.1 (rvD b 0 false).2.2).2.1 (rvD b (rvD b 0 false).2.1 (rvD b 0 false).2.2).2.2).2.1) (rvD b 0 false).1 (rvD b (rvD b (rvD b 0 false).2.1 (rvD b 0 false).2.2).2.1 (rvD b (rvD b 0 false).2.1 (rvD b 0 false).2.2).2.2).2.1 ns rs b) Try.f50 [.at (.ptr 0 0), .at (.slc 3)] (chP kn 0 ns rs b) (normK 4 (wideK [0] K)) := by
  obtain ⟨k, n1, f1, e1⟩ : ∃ k n f, rvD b 0 false = (k, n, f) := ⟨_, _, _, rfl⟩
  obtain ⟨m, n2, f2, e2⟩ : ∃ k n f, rvD b n1 f1 = (k, n, f) := ⟨_, _, _, rfl⟩
  obtain ⟨r, n, f3, e3⟩ : ∃ k n f, rvD b n2 f2 = (k, n, f) := ⟨_, _, _, rfl⟩
  have hP0 : PHd0 b = fun k' m' r' n' => k' = k ∧ n' = n ∧ 0 ≤ n' ∧ n' + 4 = b.length ∧ hdD b = some (k', m', r', wD (b.drop n'.toNat)) := by
    unfold PHd0; simp only [e1, e2, e3]
  rw [hP0]
  simp only [e1, e2, e3]
  have hD : hdD b = if f3 = true ∨ (b.length : Int) - n ≠ 4 ∨ 65536 < k ∨ 65536 < m ∨ 4096 < r then none else some (k, m, r, wD (b.drop n.toNat)) := by
    unfold hdD; simp only [e1, e2, e3]
  have g1 := rvD_rng hb e1
  have g2 := rvD_rng hb e2
  have g3 := rvD_rng hb e3
  have i1 := g1.2.2 (Int.le_refl 0) (by omega)
  have i2 := g2.2.2 i1.1 i1.2
  have i3 := g3.2.2 i2.1 i2.2
  generalize hP : PHd b n = P
  generalize hQ : (fun k' m' r' n' : Int => k' = k ∧ n' = n ∧ 0 ≤ n' ∧ n' + 4 = b.length ∧ hdD b = some (k', m', r', wD (b.drop n'.toNat))) = P0
  refine Eq.mp (show ((allB b) ∧
(b.length ≤ 1000000000000) ∧
(∀ u : Int, (∀ n1 : Int, (∀ f : Bool, (((rvD b 0 false) = (Prod.mk (u) (Prod.mk (n1) (f)))) → ((allB b) ∧ (b.length ≤ 1000000000000) ∧ (∀ u1 : Int, (∀ n2 : Int, (∀ f1 : Bool, (((rvD b n1 f) = (Prod.mk (u1) (Prod.mk (n2) (f1)))) → ((allB b) ∧ (b.length ≤ 1000000000000) ∧ (∀ u2 : Int, (∀ n3 : Int, (∀ f2 : Bool, (((rvD b n2 f1) = (Prod.mk (u2) (Prod.mk (n3) (f2)))) → ((brS (f2) ((K (SV.tup [(TV.at (At.val (Value.int IntKind.u64 0))), (TV.at (At.val (Value.int IntKind.u64 0))), (TV.at (At.val (Value.bool false)))]) [(Chunk.box [(At.val (Value.int IntKind.u64 (u))), (At.val (Value.int IntKind.u32 0)), (At.slc 1), (At.slc 2)]), (Chunk.row true (EC.pn) (ns)), (Chunk.row true (EC.u64) (rs)), (Chunk.row false (EC.u8) (b))] [0])) ((brS (IntKind.i64.wrap ((↑b.length : Int) - n3) != 4) ((K (SV.tup [(TV.at (At.val (Value.int IntKind.u64 0))), (TV.at (At.val (Value.int IntKind.u64 0))), (TV.at (At.val (Value.bool false)))]) [(Chunk.box [(At.val (Value.int IntKind.u64 (u))), (At.val (Value.int IntKind.u32 0)), (At.slc 1), (At.slc 2)]), (Chunk.row true (EC.pn) (ns)), (Chunk.row true (EC.u64) (rs)), (Chunk.row false (EC.u8) (b))] [0])) ((brS (decide (u > 65536))
    ((K (SV.tup [(TV.at (At.val (Value.int IntKind.u64 0))), (TV.at (At.val (Value.int IntKind.u64 0))), (TV.at (At.val (Value.bool false)))]) [(Chunk.box [(At.val (Value.int IntKind.u64 (u))), (At.val (Value.int IntKind.u32 0)), (At.slc 1), (At.slc 2)]), (Chunk.row true (EC.pn) (ns)), (Chunk.row true (EC.u64) (rs)), (Chunk.row false (EC.u8) (b))] [0])) ((brS (decide (u1 > 65536)) ((K (SV.tup [(TV.at (At.val (Value.int IntKind.u64 0))), (TV.at (At.val (Value.int IntKind.u64 0))), (TV.at (At.val (Value.bool false)))]) [(Chunk.box [(At.val (Value.int IntKind.u64 (u))), (At.val (Value.int IntKind.u32 0)), (At.slc 1), (At.slc 2)]), (Chunk.row true (EC.pn) (ns)), (Chunk.row true (EC.u64) (rs)), (Chunk.row false (EC.u8) (b))] [0])) ((brS (decide (u2 > 4096)) ((K (SV.tup [(TV.at (At.val (Value.int IntKind.u64 0))), (TV.at (At.val (Value.int IntKind.u64 0))), (TV.at (At.val (Value.bool false)))]) [(Chunk.box [(At.val (Value.int IntKind.u64 (u))), (At.val (Value.int IntKind.u32 0)), (At.slc 1), (At.slc 2)]), (Chunk.row true (EC.pn) (ns)), (Chunk.row true (EC.u64) (rs)), (Chunk.row false (EC.u8) (b))] [0])) ((∃ x : XHe P0, (True ∧ (True ∧ True ∧ True ∧ ((Value.int IntKind.u64 (u1)) = (Value.int IntKind.u64 (x.m))) ∧ ((Value.int IntKind.u64 (u2)) = (Value.int IntKind.u64 (x.r))) ∧ True) ∧ (((Value.int IntKind.u64 (u)) = (Value.int IntKind.u64 (x.k))) ∧ ((Value.int IntKind.u32 0) = (Value.int IntKind.u32 0)) ∧ True ∧ True ∧ True) ∧ ((ns) = (ns)) ∧ ((rs) = (rs)) ∧ ((b) = (b)) ∧ (True ∧
    ((Value.int IntKind.i64 (n3)) = (Value.int IntKind.i64 (x.n))) ∧ ((Value.bool (f2)) = (Value.bool false)) ∧ True) ∧ True)))))))))))) ∧ (∀ x : XHe P0, (True → ((0 ≤ x.n) ∧ (x.n ≤ (↑b.length : Int)) ∧ ((↑b.length : Int) ≤ (↑b.length : Int)) ∧ (∃ x1 : XHd P, (True ∧ (True ∧ ((Value.int IntKind.u64 (x.m)) = (Value.int IntKind.u64 (x.m))) ∧ ((Value.int IntKind.u64 (x.r)) = (Value.int IntKind.u64 (x.r))) ∧ True ∧ ((Value.int IntKind.i64 ((↑(List.drop x.n.toNat (List.take (↑b.length : Int).toNat b)).length : Int))) = (Value.int IntKind.i64 ((↑(List.drop x.n.toNat (List.take (↑b.length : Int).toNat b)).length : Int)))) ∧ ((Value.int IntKind.i64 0) = (Value.int IntKind.i64 ((↑x1.i : Int)))) ∧ True) ∧ (((Value.int IntKind.u64 (x.k)) = (Value.int IntKind.u64 (k))) ∧ ((Value.int IntKind.u32 0) = (Value.int IntKind.u32 (x1.D))) ∧ True ∧ True ∧ True) ∧ ((ns) = (ns)) ∧ ((rs) = (rs)) ∧ ((b) = (b)) ∧ ((List.drop x.n.toNat (List.take (↑b.length : Int).toNat b)) = (List.drop n.toNat b)) ∧ True)) ∧ (∀ x1 : XHd P, (True → (brS (decide ((↑x1.i : Int) < (↑(List.drop x.n.toNat (List.take (↑b.length : Int).toNat b)).length : Int))) (((0 ≤ (↑x1.i : Int)) ∧ ((↑x1.i : Int) < (↑(List.drop n.toNat b).length : Int)) ∧ (∃ x' : XHd P, (True ∧ ((True ∧ ((Value.int IntKind.u64 (x.m)) = (Value.int IntKind.u64 (x.m))) ∧ ((Value.int IntKind.u64 (x.r)) = (Value.int IntKind.u64 (x.r))) ∧ True ∧
    ((Value.int IntKind.i64 ((↑(List.drop x.n.toNat (List.take (↑b.length : Int).toNat b)).length : Int))) = (Value.int IntKind.i64 ((↑(List.drop x.n.toNat (List.take (↑b.length : Int).toNat b)).length : Int)))) ∧ ((Value.int IntKind.i64 (IntKind.i64.wrap ((↑x1.i : Int) + 1))) = (Value.int IntKind.i64 ((↑x'.i : Int)))) ∧ True) ∧ (((Value.int IntKind.u64 (k)) = (Value.int IntKind.u64 (k))) ∧ ((Value.int IntKind.u32 (orI IntKind.u32 (IntKind.u32.wrap (x1.D * 2 ^ min (Int.toNat 8) IntKind.u32.bits)) (IntKind.u32.wrap (getB (List.drop n.toNat b) (↑x1.i : Int).toNat)))) = (Value.int IntKind.u32 (x'.D))) ∧ True ∧ True ∧ True) ∧ ((ns) = (ns)) ∧ ((rs) = (rs)) ∧ ((b) = (b)) ∧ ((List.drop n.toNat b) = (List.drop n.toNat b)) ∧ True) ∧ (4 - x'.i < 4 - x1.i))))) ((K (SV.tup [(TV.at (At.val (Value.int IntKind.u64 (x.m)))), (TV.at (At.val (Value.int IntKind.u64 (x.r)))), (TV.at (At.val (Value.bool true)))]) [(Chunk.box [(At.val (Value.int IntKind.u64 (k))), (At.val (Value.int IntKind.u32 (x1.D))), (At.slc 1), (At.slc 2)]), (Chunk.row true (EC.pn) (ns)), (Chunk.row true (EC.u64) (rs)), (Chunk.row false (EC.u8) (b))] [0])))))))))))))))))))))))) = _ by kernel_rfl) ?_
  subst hP hQ
  have tk : List.take (b.length : Int).toNat b = b := by rw [Int.toNat_natCast]; exact List.take_length
  refine ⟨hb, by omega, fun u y1 y2 ye1 => ?_⟩
  rw [e1] at ye1
  simp only [Prod.mk.injEq] at ye1
  obtain ⟨rfl, rfl, rfl⟩ := ye1
  refine ⟨hb, by omega, fun u y1 y2 ye2 => ?_⟩
  rw [e2] at ye2
  simp only [Prod.mk.injEq] at ye2
  obtain ⟨rfl, rfl, rfl⟩ := ye2
  refine ⟨hb, by omega, fun u y1 y2 ye3 => ?_⟩
  rw [e3] at ye3
  simp only [Prod.mk.injEq] at ye3
  obtain ⟨rfl, rfl, rfl⟩ := ye3
  rw [wrap_id (x := (b.length : Int) - n) (by omega) (by omega)]
  have ne_of : ∀ {x y : Int}, (x != y) = true → x ≠ y := fun {x y} q e => by rw [e] at q; simp at q
  have eq_of : ∀ {x y : Int}, (x != y) = false → x = y := fun {x y} q => by simpa using q
  have bad : (f3 = true ∨ (b.length : Int) - n ≠ 4 ∨ 65536 < k ∨ 65536 < m ∨ 4096 < r) → K (.tup [.at (vU64 0), .at (vU64 0), .at (vB false)]) (chP k 0 ns rs b) [0] := fun q => hf (by rw [hD, if_pos q]) k
  refine ⟨brS_of (fun z1 => bad (.inl z1)) fun z1 => brS_of (fun z2 => bad (.inr (.inl (ne_of z2)))) fun z2 => brS_of (fun z3 => bad (.inr (.inr (.inl (of_decide_eq_true z3))))) fun z3 => brS_of (fun z4 => bad (.inr (.inr (.inr (.inl (of_decide_eq_true z4)))))) fun z4 => brS_of (fun z5 => bad (.inr (.inr (.inr (.inr (of_decide_eq_true z5)))))) fun z5 => ?_, fun x _ => ?_⟩
  · have q2 := eq_of z2
    have q3 := of_decide_eq_false z3
    have q4 := of_decide_eq_false z4
    have q5 := of_decide_eq_false z5
    refine ⟨⟨k, m, r, n, rfl, rfl, i3.1, by omega, ?_⟩, trivial, ?_⟩
    · rw [hD, if_neg]
      rintro (q | q | q | q | q)
      · rw [z1] at q; cases q
      · exact q q2
      · exact q3 q
      · exact q4 q
      · exact q5 q
    · (repeat' first | exact trivial | exact rfl | exact congrArg Value.bool z1 | refine And.intro ?_ ?_)
  · obtain ⟨k', m', r', n', rfl, rfl, h0, h4, hd⟩ := x
    dsimp only
    rw [tk]
    have hr := allB_drop hb n'.toNat
    have rl : (b.drop n'.toNat).length = 4 := by rw [List.length_drop]; omega
    refine ⟨h0, by omega, by omega, ⟨⟨0, 0, by decide, rfl, by decide, by decide⟩, ?_⟩, fun x1 _ => brS_of (fun z => ?_) fun z => ?_⟩
    · (repeat' first | exact trivial | exact rfl | refine And.intro ?_ ?_)
    · obtain ⟨i, D, hi, hDi, d0, d1⟩ := x1
      dsimp only at z ⊢
      have z : i < (b.drop n'.toNat).length := by have := of_decide_eq_true z; omega
      rw [show ((i : Int)).toNat = i from rfl, wrap_id (x := (i : Int) + 1) (by omega) (by omega)]
      obtain ⟨c0, c1⟩ := hr _ (getB_mem z)
      have p3 : (256 : Int) ^ i ≤ 16777216 := by
        have : i = 0 ∨ i = 1 ∨ i = 2 ∨ i = 3 := by omega
        rcases this with e | e | e | e <;> subst e <;> decide
      rw [orI32_low d0 (by omega) c0 c1]
      refine ⟨by omega, by omega, ⟨i + 1, 256 * D + getB (b.drop n'.toNat) i, by omega, ?_, by omega, by rw [Int.pow_succ]; omega⟩, trivial, ?_, by show 4 - (i + 1) < 4 - i; omega⟩
      · rw [take_getB z, wD_snoc, ← hDi]
      · (repeat' first | exact trivial | exact rfl | refine And.intro ?_ ?_)
    · obtain ⟨i, D, hi, hDi, d0, d1⟩ := x1
      dsimp only at z ⊢
      have z : i = 4 := by have := of_decide_eq_false z; omega
      rw [z, List.take_of_length_le (by omega)] at hDi
      rw [hDi]
      exact h _ _ _ _ hd
theorem s_hd : SoundT C0 50 tHd := by
  refine .ofW [0] Try.func50 (by decide) rfl fun args H K h hB => ?_
  unfold tHd pkM at h
  split at h <;> try exact h.elim
  split at h <;> try exact h.elim
  rename_i _ kn D ns rs b
  obtain ⟨rfl, h1, h2, h3, h4⟩ := h
  refine ⟨_, ?_, vc_hd kn ns rs b K h1 h2 h3 h4⟩
  exact ⟨frame C0.ok s_rv _, trivial⟩
theorem vc_no (k D : Int) (ns : List PNT) (rs b : List Int) (K : KT) (k0 : 0 ≤ k) (k1 : k ≤ 65536) (hn : ns.length ≤ 65536) (hb : allB b) (hl : b.length ≤ 1000000000)
    (hf : ndD (k + ns.length + 1) b = none → K (.one (.at (vB false))) (chP k D ns rs b) [0, 1]) (h : ∀ x, ndD (k + ns.length + 1) b = some x → K (.one (.at (vB true))) (chP k D (ns ++ [x]) rs b) [0, 1]) :
    vc C0 aNo Try.f51 [.at (.ptr 0 0), .at (.slc 3)] (chP k D ns rs b) (normK 4 (wideK [0, 1] K)) := by
  refine Eq.mp (show ((allB b) ∧
(b.length ≤ 1000000000000) ∧
(∀ u : Int, (∀ n : Int, (∀ f : Bool, (((ryD b 0 false) = (Prod.mk (u) (Prod.mk (n) (f)))) → ((allB b) ∧ (b.length ≤ 1000000000000) ∧ (∀ u1 : Int, (∀ n1 : Int, (∀ f1 : Bool, (((rvD b n f) = (Prod.mk (u1) (Prod.mk (n1) (f1)))) → ((0 ≤ u1) ∧ (u1 < 18446744073709551616) ∧ (∀ n2 : Int, (((n2) = (uz u1)) → ((allB b) ∧ (b.length ≤ 1000000000000) ∧ (∀ u2 : Int, (∀ n3 : Int, (∀ f2 : Bool, (((rvD b n1 f1) = (Prod.mk (u2) (Prod.mk (n3) (f2)))) → ((allB b) ∧ (b.length ≤ 1000000000000) ∧ (∀ u3 : Int, (∀ n4 : Int, (∀ f3 : Bool, (((rvD b n3 f2) = (Prod.mk (u3) (Prod.mk (n4) (f3)))) → (∀ r : Bool, (((r) = (!f3 && n4 == (↑b.length : Int))) → (brS (!r) ((K (SV.one (TV.at (At.val (Value.bool false)))) [(Chunk.box [(At.val (Value.int IntKind.u64 (k))), (At.val (Value.int IntKind.u32 (D))), (At.slc 1), (At.slc 2)]), (Chunk.row true (EC.pn) (ns)), (Chunk.row true (EC.u64) (rs)), (Chunk.row false (EC.u8) (b))] [0, 1])) ((brS (decide (u2 ≥ IntKind.u64.wrap (IntKind.u64.wrap (k + IntKind.u64.wrap (↑ns.length : Int)) + 1))) ((K (SV.one (TV.at (At.val (Value.bool false)))) [(Chunk.box [(At.val (Value.int IntKind.u64 (k))), (At.val (Value.int IntKind.u32 (D))), (At.slc 1), (At.slc 2)]), (Chunk.row true (EC.pn) (ns)), (Chunk.row true (EC.u64) (rs)), (Chunk.row false (EC.u8) (b))] [0, 1])) ((brS (decide (u3 ≥ IntKind.u64.wrap (IntKind.u64.wrap (k + IntKind.u64.wrap (↑ns.length : Int)) + 1)))
    ((K (SV.one (TV.at (At.val (Value.bool false)))) [(Chunk.box [(At.val (Value.int IntKind.u64 (k))), (At.val (Value.int IntKind.u32 (D))), (At.slc 1), (At.slc 2)]), (Chunk.row true (EC.pn) (ns)), (Chunk.row true (EC.u64) (rs)), (Chunk.row false (EC.u8) (b))] [0, 1])) ((((ns.length + [{ key := u, value := n2, left := u2, right := u3 : PNT }].length) * bytesOf C0 EC.pn ≤ 140737488355328) ∧ (K (SV.one (TV.at (At.val (Value.bool true)))) [(Chunk.box [(At.val (Value.int IntKind.u64 (k))), (At.val (Value.int IntKind.u32 (D))), (At.slc 1), (At.slc 2)]), (Chunk.row true (EC.pn) (ns ++ [{ key := u, value := n2, left := u2, right := u3 : PNT }])), (Chunk.row true (EC.u64) (rs)), (Chunk.row false (EC.u8) (b))] [0, 1]))))))))))))))))))))))))))))))))) = _ by kernel_rfl) ?_
  refine ⟨hb, by omega, fun q1 n1 f1 e1 => ⟨hb, by omega, fun q2 n2 f2 e2 => ?_⟩⟩
  have g1 := ryD_rng hb e1
  have g2 := rvD_rng hb e2
  refine ⟨g2.1.1, g2.1.2, fun q2' e2' => ⟨hb, by omega, fun q3 n3 f3 e3 => ⟨hb, by omega, fun q4 n4 f4 e4 => fun r er => ?_⟩⟩⟩
  have i2 := g2.2.2 g1.2.1 g1.2.2
  have hD : ndD (k + ns.length + 1) b = if f4 = true ∨ n4 ≠ (b.length : Int) ∨ k + ns.length + 1 ≤ q3 ∨ k + ns.length + 1 ≤ q4 then none else some ⟨q1, uz q2, q3, q4⟩ := by
    unfold ndD; simp only [e1, e2, e3, e4]
  rw [wrap_u64 (x := (ns.length : Int)) (by omega) (by omega), wrap_u64 (x := k + (ns.length : Int)) (by omega) (by omega), wrap_u64 (by omega) (by omega)]
  refine brS_of (fun z => hf ?_) fun z1 => brS_of (fun z => hf ?_) fun z2 => brS_of (fun z => hf ?_) fun z3 => ⟨?_, h _ ?_⟩
  · rw [hD, if_pos]
    rw [er] at z
    cases f4 with
    | true => exact .inl rfl
    | false =>
      refine .inr (.inl fun e => ?_)
      rw [e] at z
      simp at z
  · rw [hD, if_pos (.inr (.inr (.inl (of_decide_eq_true z))))]
  · rw [hD, if_pos (.inr (.inr (.inr (of_decide_eq_true z))))]
  · rw [bytes_pn, List.length_singleton]; omega
  · rw [hD, if_neg, e2']
    rw [er] at z1
    rintro (q | q | q | q)
    · rw [q] at z1; simp at z1
    · cases f4 <;> simp at z1
      exact q z1
    · exact of_decide_eq_false z2 q
    · exact of_decide_eq_false z3 q
theorem s_no : SoundT C0 51 tNo := by
  refine .ofW [0, 1] Try.func51 (by decide) rfl fun args H K h hB => ?_
  unfold tNo pkM at h
  split at h <;> try exact h.elim
  split at h <;> try exact h.elim
  rename_i _ k D ns rs b
  obtain ⟨h1, h2, h3, h4, h5, h6, h7⟩ := h
  refine ⟨_, ?_, vc_no k D ns rs b K h1 h2 h3 h4 h5 h6 h7⟩
  exact ⟨frame C0.ok s_rv _, frame C0.ok s_ry _, frame C0.ok s_rd _, frame C0.ok s_uz _, trivial⟩
/-- What is read so far, and what is still to come. -/
def PTl (top : Int) (c : Nat) (b : List Int) : Nat → List Int → Int → Prop := fun i rs n => i ≤ c ∧ rs.length = i ∧ tlG top b c 0 = (tlG top b (c - i) n).map fun q => (rs ++ q.1, q.2)
theorem vc_tl (c : Nat) (k D : Int) (ns : List PNT) (b : List Int) (K : KT) (k0 : 0 ≤ k) (k1 : k ≤ 65536) (hn : ns.length ≤ 65536) (hc : c ≤ 1000000) (hb : allB b) (hl : b.length ≤ 1000000000)
    (hf : tlD (k + ns.length) c b = none → ∀ r, K (.one (.at (vB false))) (chP k D ns r b) [0, 2]) (h : ∀ r, tlD (k + ns.length) c b = some r → K (.one (.at (vB true))) (chP k D ns r b) [0, 2]) :
    vc C0 (aTl (PTl (k + ns.length) c b) c k D ns b) Try.f52 [.at (.ptr 0 0), .at (.slc 3), .at (vU64 c)] (chP k D ns [] b) (normK 4 (wideK [0, 2] K)) := by
  generalize hP : PTl (k + ns.length) c b = P
  refine Eq.mp (show ((∃ x : XTl P, (True ∧ (True ∧ ((Value.int IntKind.u64 ((↑c : Int))) = (Value.int IntKind.u64 ((↑c : Int)))) ∧ True ∧ ((Value.int IntKind.u64 0) = (Value.int IntKind.u64 ((↑x.i : Int)))) ∧ True) ∧ (((Value.int IntKind.u64 (k)) = (Value.int IntKind.u64 (k))) ∧ ((Value.int IntKind.u32 (D)) = (Value.int IntKind.u32 (D))) ∧ True ∧ True ∧ True) ∧ ((ns) = (ns)) ∧ ([] = (x.rs)) ∧ ((b) = (b)) ∧ (True ∧ ((Value.int IntKind.i64 0) = (Value.int IntKind.i64 (x.n))) ∧ ((Value.bool false) = (Value.bool false)) ∧ True) ∧ True)) ∧
(∀ x : XTl P, (True → (brS (decide ((↑x.i : Int) < (↑c : Int))) (((allB b) ∧ (b.length ≤ 1000000000000) ∧ (∀ u : Int, (∀ n : Int, (∀ f : Bool, (((rvD b x.n false) = (Prod.mk (u) (Prod.mk (n) (f)))) → (((x.rs.length + [u].length) * bytesOf C0 EC.u64 ≤ 140737488355328) ∧ (brS (f) ((K (SV.one (TV.at (At.val (Value.bool false)))) [(Chunk.box [(At.val (Value.int IntKind.u64 (k))), (At.val (Value.int IntKind.u32 (D))), (At.slc 1), (At.slc 2)]), (Chunk.row true (EC.pn) (ns)), (Chunk.row true (EC.u64) (x.rs ++ [u])), (Chunk.row false (EC.u8) (b))] [0, 2])) (((0 ≤ (↑x.i : Int)) ∧ ((↑x.i : Int) < (↑(x.rs ++ [u]).length : Int)) ∧ (brS (decide (getB (x.rs ++ [u]) (↑x.i : Int).toNat > IntKind.u64.wrap (k + IntKind.u64.wrap (↑ns.length : Int))))
    ((K (SV.one (TV.at (At.val (Value.bool false)))) [(Chunk.box [(At.val (Value.int IntKind.u64 (k))), (At.val (Value.int IntKind.u32 (D))), (At.slc 1), (At.slc 2)]), (Chunk.row true (EC.pn) (ns)), (Chunk.row true (EC.u64) (x.rs ++ [u])), (Chunk.row false (EC.u8) (b))] [0, 2])) ((∃ x' : XTl P, (True ∧ ((True ∧ ((Value.int IntKind.u64 ((↑c : Int))) = (Value.int IntKind.u64 ((↑c : Int)))) ∧ True ∧ ((Value.int IntKind.u64 (IntKind.u64.wrap ((↑x.i : Int) + 1))) = (Value.int IntKind.u64 ((↑x'.i : Int)))) ∧ True) ∧ (((Value.int IntKind.u64 (k)) = (Value.int IntKind.u64 (k))) ∧ ((Value.int IntKind.u32 (D)) = (Value.int IntKind.u32 (D))) ∧ True ∧ True ∧ True) ∧ ((ns) = (ns)) ∧ ((x.rs ++ [u]) = (x'.rs)) ∧ ((b) = (b)) ∧ (True ∧ ((Value.int IntKind.i64 (n)) = (Value.int IntKind.i64 (x'.n))) ∧ ((Value.bool (f)) = (Value.bool false)) ∧ True) ∧ True) ∧ (c - x'.i < c - x.i))))))))))))))) ((∀ r : Bool, (((r) = (!false && x.n == (↑b.length : Int))) → (K (SV.one (TV.at (At.val (Value.bool (r))))) [(Chunk.box [(At.val (Value.int IntKind.u64 (k))), (At.val (Value.int IntKind.u32 (D))), (At.slc 1), (At.slc 2)]), (Chunk.row true (EC.pn) (ns)), (Chunk.row true (EC.u64) (x.rs)), (Chunk.row false (EC.u8) (b))] [0, 2])))))))) = _ by kernel_rfl) ?_
  subst hP
  refine ⟨⟨⟨0, [], 0, Nat.zero_le _, rfl, ?_⟩, ?_⟩, fun x _ => brS_of (fun z => ?_) fun z => ?_⟩
  · rw [Nat.sub_zero]
    cases tlG (k + ns.length) b c 0 <;> rfl
  · (repeat' first | exact trivial | exact rfl | refine And.intro ?_ ?_)
  · obtain ⟨i, rs, n, hi, hr, hp⟩ := x
    dsimp only at z ⊢
    have z : i < c := by have := of_decide_eq_true z; omega
    obtain ⟨d, ed⟩ : ∃ d, c - i = d + 1 := ⟨c - i - 1, by omega⟩
    refine ⟨hb, by omega, fun u n1 f e => ⟨by rw [bytes_u64, List.length_singleton]; omega, ?_⟩⟩
    rw [wrap_u64 (x := (ns.length : Int)) (by omega) (by omega), wrap_u64 (x := k + (ns.length : Int)) (by omega) (by omega), wrap_u64 (x := (i : Int) + 1) (by omega) (by omega), show ((i : Int)).toNat = i from rfl]
    have gi : getB (rs ++ [u]) i = u := by unfold getB; rw [← hr]; simp
    have hs : tlG (k + ns.length) b (d + 1) n = if f = true ∨ k + ns.length < u then none else (tlG (k + ns.length) b d n1).map fun q => (u :: q.1, q.2) := by
      conv => lhs; unfold tlG
      simp only [e]
    rw [ed, hs] at hp
    have bad : (f = true ∨ k + ns.length < u) → K (.one (.at (vB false))) (chP k D ns (rs ++ [u]) b) [0, 2] := fun q => by
      rw [if_pos q] at hp
      exact hf (by unfold tlD; rw [hp]; rfl) _
    rw [gi]
    refine brS_of (fun q => bad (.inl q)) fun q1 => ⟨by omega, by rw [List.length_append, List.length_singleton]; omega, brS_of (fun q => bad (.inr (of_decide_eq_true q))) fun q2 => ?_⟩
    have q2 := of_decide_eq_false q2
    rw [if_neg (by rintro (q | q); (rw [q1] at q; cases q); exact q2 q)] at hp
    refine ⟨⟨i + 1, rs ++ [u], n1, z, by rw [List.length_append, hr]; rfl, ?_⟩, trivial, ?_, Nat.sub_lt_sub_left z (Nat.lt_succ_self i)⟩
    · rw [hp, show c - (i + 1) = d by omega]
      cases tlG (k + ns.length) b d n1 with
      | none => rfl
      | some v => simp
    · (repeat' first | exact trivial | exact rfl | exact congrArg Value.bool q1 | refine And.intro ?_ ?_)
  · obtain ⟨i, rs, n, hi, hr, hp⟩ := x
    dsimp only at z ⊢
    have z : i = c := by have := of_decide_eq_false z; omega
    intro r er
    rw [z, Nat.sub_self] at hp
    have hp : tlG (k + ns.length) b c 0 = some (rs, n) := by rw [hp]; simp [tlG]
    by_cases q : n = (b.length : Int)
    · rw [show r = true by rw [er, q]; simp]
      exact h _ (by unfold tlD; rw [hp]; simp [q])
    · rw [show r = false by rw [er]; simp [q]]
      exact hf (by unfold tlD; rw [hp]; simp [q]) _
theorem s_tl : SoundT C0 52 tTl := by
  refine .ofW [0, 2] Try.func52 (by decide) rfl fun args H K h hB => ?_
  unfold tTl pkM at h
  split at h <;> try exact h.elim
  split at h <;> try exact h.elim
  rename_i c _ k D ns rs b
  obtain ⟨rfl, h1, h2, h3, c0, c1, h4, h5, h6, h7⟩ := h
  obtain ⟨c, rfl⟩ := Int.eq_ofNat_of_zero_le c0
  refine ⟨_, ?_, vc_tl c k D ns b K h1 h2 h3 (by omega) h4 h5 h6 h7⟩
  exact ⟨frame C0.ok s_rv _, frame C0.ok s_rd _, trivial⟩
end Go.Proofs.Ytedfbafngmicpaa.Sx
end
