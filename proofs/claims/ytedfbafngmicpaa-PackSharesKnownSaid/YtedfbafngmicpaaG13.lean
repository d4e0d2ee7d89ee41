/- A part of the proof. -/
import Derived.Test.YtedfbafngmicpaaG11
import Derived.Test.YtedfbafngmicpaaG12
import Derived.Test.YtedfbafngmicpaaG6
import Derived.Test.YtedfbafngmicpaaG8
import Derived.Test.YtedfbafngmicpaaG5
import Derived.Test.YtedfbafngmicpaaProg
import Derived.Test.YtedfbafngmicpaaChecked
import Derived.WalkKit
import Derived.ProofKit
import Derived.OpenShut
import Derived.SizedLaws
import Derived.Carry
import Derived.Test.YtedfbafngmicpaaG4
import Derived.Deep.Slices
import Derived.Lib.SmallJoins
import Derived.Deep.Strs
import Derived.Test.YtedfbafngmicpaaRows
section
/- The trees of the laws of pack: forest. -/
namespace Go.Proofs.Ytedfbafngmicpaa.Sx
open Go

/-KEEP Wf exW inU allV live rdS Arn.cap Arn.free Rep Tr.size Tr.list Tr.Bal Asc Kin listE insE outE getE TrR UpdR Got Hn ht upM PlantR newS Hld RngS FoR RngL stpG enG rowG-/
abbrev stpG (l : List StpT) (i : Nat) : StpT := l.getD i ⟨0, (0, 0), false, false⟩
abbrev enG (l : List Ent) (i : Nat) : Ent := l.getD i (0, 0)
abbrev rowG (l : List (List Ent)) (i : Nat) : List Ent := l.getD i []
def RngS (l : List StpT) : Prop := ∀ s ∈ l, rngI s.at_ ∧ rngI s.ent.1 ∧ rngI s.ent.2
structure FoR (sp : Int) (S : Arn) (rs : List Int) (ll : List (List Ent)) : Prop where
  hld : Hld S (rs.zip ll)
  len : rs.length = ll.length
  one : 1 ≤ rs.length ∧ rs.length ≤ 7
  ls : ∀ L ∈ ll, L.length ≤ 36 ∧ RngL L
  rd : S.reads ≤ 1000000
  fr : sp ≤ S.free
structure XFo (P : Arn → List Int → List (List Ent) → Nat → Prop) where
  S : Arn
  rs : List Int
  ll : List (List Ent)
  k : Nat
  h : P S rs ll k
abbrev hfO (raw : List Ent) (l : List StpT) (L0 : List Ent) (S : Arn) (rs : List Int) (ll : List (List Ent)) : List (Chunk C0) := [.row false EC.ent raw, .row false EC.stp l] ++ chSk 2 S ++ [.row false EC.ent L0, .row true EC.u32 rs, .rows EC.hent EC.ent ll]
noncomputable def aFo (P : Arn → List Int → List (List Ent) → Nat → Prop) (raw : List Ent) (l : List StpT) (L0 : List Ent) (n : Nat) : Ann C0 := { quiet := [9999999, 14, 17, 19], Γ := [(11, frameT [] tLst), (13, frameT [] (tRes1 4 1)), (12, frameT [] tGrow), (14, frameT [] tMod), (15, frameT [] tPlantA), (16, frameT [] tUpDx), (17, frameT [] tDel), (18, frameT [] tUpIn), (19, frameT [] tIns)], inv := fun m => match m with
  | 8 => some { X := XFo P, sl := [12, 14, 17, 18, 19], tf := fun x => [.one (.at (.slc 9)), .one (.at (.ptr 2 0)), .one (.at (.slc 10)), .one (.at (.slc 11)), vi .i64 x.k], hf := fun x => hfO raw l L0 x.S x.rs x.ll, μ := fun x => n - x.k }
  | _ => none }
abbrev chF (raw : List Ent) (l : List StpT) (S : Arn) (rs : List Int) (ll : List (List Ent)) : List (Chunk C0) := [.row false EC.ent raw, .row false EC.stp l, .box [.ptr 5 0, .slc 6, .slc 7, vU64 S.reads], .row true EC.u32 rs, .rows EC.hent EC.ent ll, .box [.slc 8, .slc 9, .slc 10, vU S.fresh], .row true EC.node S.nodes, .row true EC.int S.counts, .row true EC.bool S.used, .row true EC.u32 S.gen, .row true EC.u32 S.rel]
def tFo : Tfm C0 := fun args H K => match args, H with
  | [.at (.slc 0), .at (.val (.int .u64 t)), .at (.slc 1), .at (.val (.int .i64 sp))], [.row false .ent raw, .row false .stp l] => 0 ≤ t ∧ 1 ≤ sp ∧ sp ≤ 1000 ∧ RngL raw ∧ RngS l ∧ ∀ S rs ll, FoR sp S rs ll → K (.tup [.at (.ptr 2 0), .at (.slc 3), .at (.slc 4), .at (vB true)]) (chF raw l S rs ll) []
  | _, _ => False

theorem ht_sz8 : ∀ t : Tr, ht t ≤ t.size
  | .nil => Nat.le_refl _
  | .node l k v r => by
    have := ht_sz8 l; have := ht_sz8 r
    rw [ht]
    show _ ≤ 1 + l.size + r.size
    split <;> omega
theorem Hn_up (n : Nat) : ∀ d : Nat, Hn (n : Int) ≤ Hn ((n + d : Nat) : Int)
  | 0 => Int.le_refl _
  | d + 1 => by
    have a := Hn_up n d
    have b := Hn_mono1 (n + d)
    rw [show ((n + (d + 1) : Nat) : Int) = ((n + d : Nat) : Int) + 1 by omega]
    omega
theorem Hn_leq {n m : Nat} (h : n ≤ m) : Hn (n : Int) ≤ Hn (m : Int) := by
  have := Hn_up n (m - n)
  rwa [show n + (m - n) = m by omega] at this
theorem outE_flt8 (l : List Ent) (k : Int) : outE l k k = flt (neK k) l := by
  unfold outE flt neK
  congr 1
  funext x
  by_cases h : x.1 = k
  · simp [h]
  · rw [decide_eq_true (show x.1 ≠ k from h)]
    simp; omega
theorem listE_sub8 (raw : List Ent) (n : Nat) : ∀ x ∈ listE raw n, x ∈ raw := by
  have key : ∀ (l acc : List Ent), Asc acc → ∀ x ∈ l.foldl insE acc, x ∈ acc ∨ x ∈ l := by
    intro l
    induction l with
    | nil => intro acc _ x hx; exact .inl hx
    | cons a l ih =>
      intro acc ha x hx
      rcases ih (insE acc a) (insE_asc a ha) x hx with h | h
      · rcases insE_mem ha h with h | h
        · exact .inr (by simp [h])
        · exact .inl h
      · exact .inr (by simp [h])
  intro x hx
  unfold listE at hx
  rcases key (raw.take n) [] (by simp [Srt]) x hx with h | h
  · simp at h
  · exact List.mem_of_mem_take h
/-- The loop of forest. -/
structure FoI (sp : Int) (L0 : List Ent) (n : Nat) (p : Int) (S : Arn) (rs : List Int) (ll : List (List Ent)) (k : Nat) : Prop where
  kn : k ≤ n
  n6 : n ≤ 6
  l30 : L0.length ≤ 30
  lr : rs.length = k + 1
  lL : ll.length = k + 1
  hld : Hld S (rs.zip ll)
  ls : ∀ L ∈ ll, L.length ≤ L0.length + k ∧ RngL L
  rd : S.reads ≤ 20000 * k
  cap : S.cap = (L0.length : Int) + 1 + ((n : Int) + 1) * (p + ((L0.length : Int) + n)) + sp
section
variable {sp p : Int} {L0 : List Ent} {n : Nat} {S S' : Arn} {rs : List Int} {ll : List (List Ent)} {k : Nat}
theorem zip_fst (h : rs.length = ll.length) : (rs.zip ll).map Prod.fst = rs := List.map_fst_zip (by omega)
theorem sumL_zip {c : Nat} : ∀ {rs : List Int} {ll : List (List Ent)}, (∀ L ∈ ll, L.length ≤ c) → sumL (rs.zip ll) ≤ ll.length * c
  | [], ll, _ => by simp [sumL]
  | r :: rs, [], _ => by simp [sumL]
  | r :: rs, L :: ll, h => by
    have a := sumL_zip (rs := rs) fun x hx => h x (List.mem_cons_of_mem L hx)
    have b := h L (by simp)
    rw [List.zip_cons_cons, sumL_cons, List.length_cons, Nat.succ_mul]
    show L.length + _ ≤ _
    omega
theorem FoI.eq (h : FoI sp L0 n p S rs ll k) : rs.length = ll.length := by have := h.lr; have := h.lL; omega
theorem FoI.mem (h : FoI sp L0 n p S rs ll k) {i : Nat} (hi : i < rs.length) : (rs.getD i 0, rowG ll i) ∈ rs.zip ll := by
  have e := h.eq
  refine List.mem_iff_getElem?.2 ⟨i, ?_⟩
  rw [List.getElem?_zip_eq_some]
  refine ⟨?_, ?_⟩
  · rw [List.getD_eq_getElem?_getD, List.getElem?_eq_getElem hi]; rfl
  · show ll[i]? = some (ll.getD i [])
    rw [List.getD_eq_getElem?_getD, List.getElem?_eq_getElem (e ▸ hi)]; rfl
theorem FoI.row (h : FoI sp L0 n p S rs ll k) {i : Nat} (hi : i < rs.length) : rowG ll i ∈ ll := by
  have e := h.eq
  show ll.getD i [] ∈ ll
  rw [List.getD_eq_getElem?_getD, List.getElem?_eq_getElem (e ▸ hi)]
  exact List.getElem_mem _
theorem FoI.room (h : FoI sp L0 n p S rs ll k) : (sumL (rs.zip ll) : Int) ≤ ((k : Int) + 1) * ((L0.length : Int) + k) ∧ S.cap ≤ S.free + sumL (rs.zip ll) := by
  have a := sumL_zip (rs := rs) (ll := ll) (c := L0.length + k) fun L hL => (h.ls L hL).1
  rw [h.lL] at a
  refine ⟨?_, h.hld.room⟩
  have b : ((sumL (rs.zip ll) : Nat) : Int) ≤ (((k + 1) * (L0.length + k) : Nat) : Int) := by exact_mod_cast a
  rw [Int.natCast_mul] at b
  exact_mod_cast b
theorem FoI.space (h : FoI sp L0 n p S rs ll k) (hp : 0 ≤ p) (hk : k < n) : p + ((L0.length : Int) + n) + 1 + sp ≤ S.free := by
  obtain ⟨a, b⟩ := h.room
  have c := h.cap
  have d : ((k : Int) + 1) * ((L0.length : Int) + k) ≤ (n : Int) * ((L0.length : Int) + n) := Int.mul_le_mul (by omega) (by omega) (by omega) (by omega)
  have e : ((n : Int) + 1) * (p + ((L0.length : Int) + n)) = (n : Int) * p + p + ((n : Int) * ((L0.length : Int) + n) + ((L0.length : Int) + n)) := by
    rw [Int.mul_add, Int.add_mul, Int.add_mul, Int.one_mul, Int.one_mul]
  have f : 0 ≤ (n : Int) * p := Int.mul_nonneg (by omega) hp
  omega
theorem FoI.done (h : FoI sp L0 n p S rs ll n) (hp : 0 ≤ p) (_ : 0 ≤ sp) : FoR sp S rs ll := by
  obtain ⟨a, b⟩ := h.room
  have c := h.cap
  have e : ((n : Int) + 1) * (p + ((L0.length : Int) + n)) = ((n : Int) + 1) * p + ((n : Int) + 1) * ((L0.length : Int) + n) := Int.mul_add _ _ _
  have f : 0 ≤ ((n : Int) + 1) * p := Int.mul_nonneg (by omega) hp
  have := h.n6; have := h.lr; have := h.l30; have := h.rd
  exact ⟨h.hld, h.eq, by omega, fun L hL => ⟨by have := (h.ls L hL).1; omega, (h.ls L hL).2⟩, by omega, by omega⟩
theorem FoI.go (h : FoI sp L0 n p S rs ll k) (hk : k < n) {L : List Ent} {m r : Nat} {j : Int} (tr : TrR S rs L m r S' j) (asc : Asc L) (hl : L.length ≤ L0.length + (k + 1)) (rg : RngL L) (hr : r ≤ 20000) : FoI sp L0 n p S' (rs ++ [j]) (ll ++ [L]) (k + 1) := by
  have tr' : TrR S ((rs.zip ll).map Prod.fst) L m r S' j := by rw [zip_fst h.eq]; exact tr
  have hh := h.hld.step tr' asc fun x hx => (rg x hx).1
  refine ⟨hk, h.n6, h.l30, by rw [List.length_append, h.lr]; rfl, by rw [List.length_append, h.lL]; rfl, ?_, fun M hM => ?_, ?_, ?_⟩
  · rw [List.zip_append h.eq]
    exact hh.perm (List.perm_append_singleton _ _).symm
  · rcases List.mem_append.1 hM with c | c
    · have := h.ls M c
      exact ⟨by omega, this.2⟩
    · rw [List.mem_singleton.1 c]; exact ⟨hl, rg⟩
  · have a := tr.got.rd
    have := h.rd
    omega
  · rw [tr_cap tr]; exact h.cap
theorem FoI.up (h : FoI sp L0 n p S rs ll k) {i : Nat} (hi : i < rs.length) : ∃ t, upM S rs t (rs.getD i 0) ∧ t.list = rowG ll i ∧ t.size = (rowG ll i).length ∧ t.size ≤ L0.length + k := by
  have hm := h.mem hi
  have hl := h.ls _ (h.row hi)
  obtain ⟨t, r, e, b⟩ := h.hld.rep _ hm
  have sz : t.size = (rowG ll i).length := by rw [← t.list_len, e]
  have n6 := h.n6; have kn := h.kn; have l30 := h.l30; have rd := h.rd; have lr := h.lr
  have w := h.hld.wf
  rw [zip_fst h.eq] at w
  refine ⟨t, ⟨w, r, b, by rw [e]; exact h.hld.asc _ hm, by omega, by omega, by omega⟩, e, sz, by omega⟩
end
theorem getE_in {l : List Ent} (h : Asc l) {e : Ent} (he : e ∈ l) : getE l e.1 = some e.2 := by
  obtain ⟨a, b, rfl⟩ := List.append_of_mem he
  exact getE_at h
theorem iB_fit {n q : Nat} (h : n ≤ q) : 4 * (Hn ((n : Int) + 1) + 2) ≤ 4 * (Hn ((q : Int) + 1) + 2) := by
  have := Hn_leq (show n + 1 ≤ q + 1 by omega)
  rw [show ((n + 1 : Nat) : Int) = (n : Int) + 1 by omega, show ((q + 1 : Nat) : Int) = (q : Int) + 1 by omega] at this
  omega
theorem vc_fo (raw : List Ent) (l : List StpT) (t sp : Int) (K : KT) (ht0 : 0 ≤ t) (s1 : 1 ≤ sp) (s2 : sp ≤ 1000) (hraw : RngL raw) (hl : RngS l) (h : ∀ S rs ll, FoR sp S rs ll → K (.tup [.at (.ptr 2 0), .at (.slc 3), .at (.slc 4), .at (vB true)]) (chF raw l S rs ll) []) :
    vc C0 (aFo (FoI sp (listE raw 30) (min l.length 6) (4 * (Hn (((listE raw 30).length : Int) + (min l.length 6 : Nat) + 1) + 2))) raw l (listE raw 30) (min l.length 6)) Try.f4 [.at (.slc 0), .at (vU64 t), .at (.slc 1), .at (vI sp)] [.row false EC.ent raw, .row false EC.stp l] (normK 2 K) := by
  generalize hP : FoI sp (listE raw 30) (min l.length 6) (4 * (Hn (((listE raw 30).length : Int) + (min l.length 6 : Nat) + 1) + 2)) = P
  generalize hL0 : listE raw 30 = L0
  generalize hn : min l.length 6 = n
  refine Eq.mp (show (((0 : Int) ≤ 30) ∧
((30 : Int) ≤ 1000000) ∧
(0 ≤ IntKind.i64.wrap ((↑(listE raw (Int.toNat 30)).length : Int) + if 6 < (↑l.length : Int) then 6 else (↑l.length : Int))) ∧
(IntKind.i64.wrap ((↑(listE raw (Int.toNat 30)).length : Int) + if 6 < (↑l.length : Int) then 6 else (↑l.length : Int)) ≤ 65536) ∧
(∀ p : Int, (((p) = (4 * (Hn (IntKind.i64.wrap ((↑(listE raw (Int.toNat 30)).length : Int) + if 6 < (↑l.length : Int) then 6 else (↑l.length : Int)) + 1) + 2))) → ((0 ≤ t) ∧ (1 ≤ IntKind.i64.wrap (IntKind.i64.wrap (1 + IntKind.i64.wrap (IntKind.i64.wrap ((if 6 < (↑l.length : Int) then 6 else (↑l.length : Int)) + 1) * IntKind.i64.wrap (IntKind.i64.wrap (p + (↑(listE raw (Int.toNat 30)).length : Int)) + if 6 < (↑l.length : Int) then 6 else (↑l.length : Int)))) + sp)) ∧ (IntKind.i64.wrap (IntKind.i64.wrap (1 + IntKind.i64.wrap (IntKind.i64.wrap ((if 6 < (↑l.length : Int) then 6 else (↑l.length : Int)) + 1) * IntKind.i64.wrap (IntKind.i64.wrap (p + (↑(listE raw (Int.toNat 30)).length : Int)) + if 6 < (↑l.length : Int) then 6 else (↑l.length : Int)))) + sp) ≤ 30000) ∧ ((listE raw (Int.toNat 30)).length ≤ 30000) ∧ (∀ S' : Arn, (∀ i : Int,
    ((PlantR (newS ((↑(listE raw (Int.toNat 30)).length : Int) + IntKind.i64.wrap (IntKind.i64.wrap (1 + IntKind.i64.wrap (IntKind.i64.wrap ((if 6 < (↑l.length : Int) then 6 else (↑l.length : Int)) + 1) * IntKind.i64.wrap (IntKind.i64.wrap (p + (↑(listE raw (Int.toNat 30)).length : Int)) + if 6 < (↑l.length : Int) then 6 else (↑l.length : Int)))) + sp)).toNat) [] (listE raw (Int.toNat 30)) S' i) → ((∃ x : XFo P, (True ∧ (((Value.int IntKind.u64 (t)) = (Value.int IntKind.u64 (t))) ∧ True ∧ True ∧ ((Value.int IntKind.i64 (if 6 < (↑l.length : Int) then 6 else (↑l.length : Int))) = (Value.int IntKind.i64 (if 6 < (↑l.length : Int) then 6 else (↑l.length : Int)))) ∧ True ∧ True ∧ True ∧ ((Value.int IntKind.i64 0) = (Value.int IntKind.i64 ((↑x.k : Int)))) ∧ True) ∧ ((raw) = (raw)) ∧ ((l) = (l)) ∧ (True ∧ True ∧ True ∧ ((Value.int IntKind.u64 (S'.reads)) = (Value.int IntKind.u64 (x.S.reads))) ∧ True) ∧ (True ∧ True ∧ True ∧ ((Value.int IntKind.u32 (S'.fresh)) = (Value.int IntKind.u32 (x.S.fresh))) ∧ True) ∧ ((S'.nodes) = (x.S.nodes)) ∧ ((S'.counts) = (x.S.counts)) ∧ ((S'.used) = (x.S.used)) ∧ ((S'.gen) = (x.S.gen)) ∧ ((S'.rel) = (x.S.rel)) ∧ ((listE raw (Int.toNat 30)) = (L0)) ∧ ([(i)] = (x.rs)) ∧ ([(listE raw (Int.toNat 30))] = (x.ll)) ∧ True)) ∧ (∀ x : XFo P, (True → (brS (decide ((↑x.k : Int) < if 6 < (↑l.length : Int) then 6 else (↑l.length : Int))) (((0 ≤ (↑x.k : Int)) ∧ ((↑x.k : Int) < (↑l.length : Int)) ∧ (0 < (↑x.rs.length : Int)) ∧ ((↑x.rs.length : Int) ≤ 9223372036854775807) ∧
    (∀ x1 : Int, (((x1) = ((stpG l (↑x.k : Int).toNat).at_ % (↑x.rs.length : Int))) → ((0 ≤ x1) ∧ (x1 < (↑x.ll.length : Int)) ∧ (0 ≤ (↑x.k : Int)) ∧ ((↑x.k : Int) < (↑l.length : Int)) ∧ (brS ((stpG l (↑x.k : Int).toNat).fresh) ((∃ hs : List Int, ((Wf x.S hs) ∧ ((rowG x.ll x1.toNat).length ≤ 100000) ∧ ((↑(rowG x.ll x1.toNat).length : Int) ≤ x.S.free) ∧ (hs.length + (rowG x.ll x1.toNat).length ≤ 900000000) ∧ (0 ≤ IntKind.u64.wrap (IntKind.u64.wrap (t * 5) + IntKind.u64.wrap (↑x.k : Int))) ∧ (∀ S'1 : Arn, (∀ i1 : Int, ((PlantR x.S hs (rowG x.ll x1.toNat) S'1 i1) → (((x.rs.length + [i1].length) * bytesOf C0 EC.u32 ≤ 140737488355328) ∧ ((x.ll.length + [rowG x.ll x1.toNat].length) * bytesOf C0 EC.hent ≤ 140737488355328) ∧ (∃ x' : XFo P, (True ∧ ((((Value.int IntKind.u64 (t)) = (Value.int IntKind.u64 (t))) ∧ True ∧ True ∧ ((Value.int IntKind.i64 (if 6 < (↑l.length : Int) then 6 else (↑l.length : Int))) = (Value.int IntKind.i64 (if 6 < (↑l.length : Int) then 6 else (↑l.length : Int)))) ∧ True ∧ True ∧ True ∧ ((Value.int IntKind.i64 (IntKind.i64.wrap ((↑x.k : Int) + 1))) = (Value.int IntKind.i64 ((↑x'.k : Int)))) ∧ True) ∧ ((raw) = (raw)) ∧ ((l) = (l)) ∧ (True ∧ True ∧ True ∧ ((Value.int IntKind.u64 (S'1.reads)) = (Value.int IntKind.u64 (x'.S.reads))) ∧ True) ∧ (True ∧ True ∧ True ∧ ((Value.int IntKind.u32 (S'1.fresh)) = (Value.int IntKind.u32 (x'.S.fresh))) ∧ True) ∧ ((S'1.nodes) = (x'.S.nodes)) ∧ ((S'1.counts) = (x'.S.counts)) ∧ ((S'1.used) = (x'.S.used)) ∧ ((S'1.gen) = (x'.S.gen)) ∧
    ((S'1.rel) = (x'.S.rel)) ∧ ((L0) = (L0)) ∧ ((x.rs ++ [i1]) = (x'.rs)) ∧ ((x.ll ++ [rowG x.ll x1.toNat]) = (x'.ll)) ∧ True) ∧ (n - x'.k < n - x.k)))))))))) (((0 ≤ (↑x.k : Int)) ∧ ((↑x.k : Int) < (↑l.length : Int)) ∧ (brS ((stpG l (↑x.k : Int).toNat).del) ((brS (decide ((↑(rowG x.ll x1.toNat).length : Int) > 0)) (((0 ≤ (↑x.k : Int)) ∧ ((↑x.k : Int) < (↑l.length : Int)) ∧ (0 < (↑(rowG x.ll x1.toNat).length : Int)) ∧ ((↑(rowG x.ll x1.toNat).length : Int) ≤ 9223372036854775807) ∧ (∀ x2 : Int, (((x2) = ((stpG l (↑x.k : Int).toNat).at_ % (↑(rowG x.ll x1.toNat).length : Int))) → ((0 ≤ x2) ∧ (x2 < (↑(rowG x.ll x1.toNat).length : Int)) ∧ (0 ≤ x1) ∧ (x1 < (↑x.rs.length : Int)) ∧ (∃ hs : List Int, (∃ t1 : Tr, ((upM x.S hs t1 (x.rs.getD x1.toNat 0)) ∧ (4 * (Hn (↑t1.size : Int) + 2) ≤ x.S.free) ∧ (∀ S'1 : Arn, (∀ j : Int, (∀ v : Int, (∀ f : Int, ((UpdR x.S hs t1 (enG (rowG x.ll x1.toNat) x2.toNat).fst S'1 j f) → (((rowG x.ll x1.toNat).length ≤ 1000000) ∧ (brS (f != 0) ((K (SV.tup [(TV.at (At.val (Value.pointer none))), (TV.at (At.slc 2)), (TV.at (At.slc 3)), (TV.at (At.val (Value.bool false)))]) [(Chunk.row false (EC.ent) (raw)), (Chunk.row false (EC.stp) (l)), (Chunk.row true (EC.u32) []), (Chunk.rows (EC.hent) (EC.ent) [])] [])) ((((x.rs.length + [j].length) * bytesOf C0 EC.u32 ≤ 140737488355328) ∧ ((x.ll.length + [outE (rowG x.ll x1.toNat) (enG (rowG x.ll x1.toNat) x2.toNat).fst (enG (rowG x.ll x1.toNat) x2.toNat).fst].length) * bytesOf C0 EC.hent ≤ 140737488355328) ∧ (∃ x' : XFo P,
    (True ∧ ((((Value.int IntKind.u64 (t)) = (Value.int IntKind.u64 (t))) ∧ True ∧ True ∧ ((Value.int IntKind.i64 (if 6 < (↑l.length : Int) then 6 else (↑l.length : Int))) = (Value.int IntKind.i64 (if 6 < (↑l.length : Int) then 6 else (↑l.length : Int)))) ∧ True ∧ True ∧ True ∧ ((Value.int IntKind.i64 (IntKind.i64.wrap ((↑x.k : Int) + 1))) = (Value.int IntKind.i64 ((↑x'.k : Int)))) ∧ True) ∧ ((raw) = (raw)) ∧ ((l) = (l)) ∧ (True ∧ True ∧ True ∧ ((Value.int IntKind.u64 (S'1.reads)) = (Value.int IntKind.u64 (x'.S.reads))) ∧ True) ∧ (True ∧ True ∧ True ∧ ((Value.int IntKind.u32 (S'1.fresh)) = (Value.int IntKind.u32 (x'.S.fresh))) ∧ True) ∧ ((S'1.nodes) = (x'.S.nodes)) ∧ ((S'1.counts) = (x'.S.counts)) ∧ ((S'1.used) = (x'.S.used)) ∧ ((S'1.gen) = (x'.S.gen)) ∧ ((S'1.rel) = (x'.S.rel)) ∧ ((L0) = (L0)) ∧ ((x.rs ++ [j]) = (x'.rs)) ∧ ((x.ll ++ [outE (rowG x.ll x1.toNat) (enG (rowG x.ll x1.toNat) x2.toNat).fst (enG (rowG x.ll x1.toNat) x2.toNat).fst]) = (x'.ll)) ∧ True) ∧ (n - x'.k < n - x.k)))))))))))))))))))) (((0 ≤ x1) ∧ (x1 < (↑x.rs.length : Int)) ∧ (0 ≤ (↑x.k : Int)) ∧ ((↑x.k : Int) < (↑l.length : Int)) ∧ (∃ hs : List Int, (∃ t1 : Tr, ((upM x.S hs t1 (x.rs.getD x1.toNat 0)) ∧ (4 * (Hn ((↑t1.size : Int) + 1) + 2) ≤ x.S.free) ∧ (∀ S'1 : Arn, (∀ j : Int, (∀ o : Option Int, (((o) = (getE t1.list (stpG l (↑x.k : Int).toNat).ent.fst)) → ((TrR x.S hs (insE t1.list (stpG l (↑x.k : Int).toNat).ent) (iB t1.size) (5 * iB t1.size + ht t1 + 1) S'1 j) → ((0 ≤ (↑x.k : Int)) ∧
    ((↑x.k : Int) < (↑l.length : Int)) ∧ ((rowG x.ll x1.toNat).length ≤ 1000000) ∧ ((x.rs.length + [j].length) * bytesOf C0 EC.u32 ≤ 140737488355328) ∧ ((x.ll.length + [insE (rowG x.ll x1.toNat) (stpG l (↑x.k : Int).toNat).ent].length) * bytesOf C0 EC.hent ≤ 140737488355328) ∧ (∃ x' : XFo P, (True ∧ ((((Value.int IntKind.u64 (t)) = (Value.int IntKind.u64 (t))) ∧ True ∧ True ∧ ((Value.int IntKind.i64 (if 6 < (↑l.length : Int) then 6 else (↑l.length : Int))) = (Value.int IntKind.i64 (if 6 < (↑l.length : Int) then 6 else (↑l.length : Int)))) ∧ True ∧ True ∧ True ∧ ((Value.int IntKind.i64 (IntKind.i64.wrap ((↑x.k : Int) + 1))) = (Value.int IntKind.i64 ((↑x'.k : Int)))) ∧ True) ∧ ((raw) = (raw)) ∧ ((l) = (l)) ∧ (True ∧ True ∧ True ∧ ((Value.int IntKind.u64 (S'1.reads)) = (Value.int IntKind.u64 (x'.S.reads))) ∧ True) ∧ (True ∧ True ∧ True ∧ ((Value.int IntKind.u32 (S'1.fresh)) = (Value.int IntKind.u32 (x'.S.fresh))) ∧ True) ∧ ((S'1.nodes) = (x'.S.nodes)) ∧ ((S'1.counts) = (x'.S.counts)) ∧ ((S'1.used) = (x'.S.used)) ∧ ((S'1.gen) = (x'.S.gen)) ∧ ((S'1.rel) = (x'.S.rel)) ∧ ((L0) = (L0)) ∧ ((x.rs ++ [j]) = (x'.rs)) ∧ ((x.ll ++ [insE (rowG x.ll x1.toNat) (stpG l (↑x.k : Int).toNat).ent]) = (x'.ll)) ∧ True) ∧ (n - x'.k < n - x.k)))))))))))))))) (((0 ≤ x1) ∧ (x1 < (↑x.rs.length : Int)) ∧ (0 ≤ (↑x.k : Int)) ∧ ((↑x.k : Int) < (↑l.length : Int)) ∧ (∃ hs : List Int, (∃ t1 : Tr, ((upM x.S hs t1 (x.rs.getD x1.toNat 0)) ∧ (4 * (Hn ((↑t1.size : Int) + 1) + 2) ≤ x.S.free) ∧ (∀ S'1 : Arn, (∀ j : Int,
    (∀ o : Option Int, (((o) = (getE t1.list (stpG l (↑x.k : Int).toNat).ent.fst)) → ((TrR x.S hs (insE t1.list (stpG l (↑x.k : Int).toNat).ent) (iB t1.size) (5 * iB t1.size + ht t1 + 1) S'1 j) → ((0 ≤ (↑x.k : Int)) ∧ ((↑x.k : Int) < (↑l.length : Int)) ∧ ((rowG x.ll x1.toNat).length ≤ 1000000) ∧ ((x.rs.length + [j].length) * bytesOf C0 EC.u32 ≤ 140737488355328) ∧ ((x.ll.length + [insE (rowG x.ll x1.toNat) (stpG l (↑x.k : Int).toNat).ent].length) * bytesOf C0 EC.hent ≤ 140737488355328) ∧ (∃ x' : XFo P, (True ∧ ((((Value.int IntKind.u64 (t)) = (Value.int IntKind.u64 (t))) ∧ True ∧ True ∧ ((Value.int IntKind.i64 (if 6 < (↑l.length : Int) then 6 else (↑l.length : Int))) = (Value.int IntKind.i64 (if 6 < (↑l.length : Int) then 6 else (↑l.length : Int)))) ∧ True ∧ True ∧ True ∧ ((Value.int IntKind.i64 (IntKind.i64.wrap ((↑x.k : Int) + 1))) = (Value.int IntKind.i64 ((↑x'.k : Int)))) ∧ True) ∧ ((raw) = (raw)) ∧ ((l) = (l)) ∧ (True ∧ True ∧ True ∧ ((Value.int IntKind.u64 (S'1.reads)) = (Value.int IntKind.u64 (x'.S.reads))) ∧ True) ∧ (True ∧ True ∧ True ∧ ((Value.int IntKind.u32 (S'1.fresh)) = (Value.int IntKind.u32 (x'.S.fresh))) ∧ True) ∧ ((S'1.nodes) = (x'.S.nodes)) ∧ ((S'1.counts) = (x'.S.counts)) ∧ ((S'1.used) = (x'.S.used)) ∧ ((S'1.gen) = (x'.S.gen)) ∧ ((S'1.rel) = (x'.S.rel)) ∧ ((L0) = (L0)) ∧ ((x.rs ++ [j]) = (x'.rs)) ∧ ((x.ll ++ [insE (rowG x.ll x1.toNat) (stpG l (↑x.k : Int).toNat).ent]) = (x'.ll)) ∧ True) ∧ (n - x'.k < n - x.k)))))))))))))))))))))))
    ((K (SV.tup [(TV.at (At.ptr 2 0)), (TV.at (At.slc 3)), (TV.at (At.slc 4)), (TV.at (At.val (Value.bool true)))]) [(Chunk.row false (EC.ent) (raw)), (Chunk.row false (EC.stp) (l)), (Chunk.box [(At.ptr 5 0), (At.slc 6), (At.slc 7), (At.val (Value.int IntKind.u64 (x.S.reads)))]), (Chunk.row true (EC.u32) (x.rs)), (Chunk.rows (EC.hent) (EC.ent) (x.ll)), (Chunk.box [(At.slc 8), (At.slc 9), (At.slc 10), (At.val (Value.int IntKind.u32 (x.S.fresh)))]), (Chunk.row true (EC.node) (x.S.nodes)), (Chunk.row true (EC.int) (x.S.counts)), (Chunk.row true (EC.bool) (x.S.used)), (Chunk.row true (EC.u32) (x.S.gen)), (Chunk.row true (EC.u32) (x.S.rel))] []))))))))))))) = _ by kernel_rfl) ?_
  subst hP
  rw [show Int.toNat 30 = 30 from rfl]
  have en : (if 6 < (l.length : Int) then 6 else (l.length : Int)) = (n : Int) := by rw [← hn]; split <;> omega
  rw [en, hn, hL0]
  have n6 : n ≤ 6 := by omega
  have nl : n ≤ l.length := by omega
  obtain ⟨la, l30⟩ := listE_spec raw 30
  have rL : RngL L0 := fun x hx => hraw x (listE_sub8 raw 30 x (hL0 ▸ hx))
  rw [hL0] at la l30
  have hH := Hn_rng ((L0.length : Int) + n + 1)
  rw [wrap_id (x := (L0.length : Int) + (n : Int)) (by omega) (by omega)]
  generalize ep : 4 * (Hn ((L0.length : Int) + n + 1) + 2) = p at *
  have p1 : 8 ≤ p := by omega
  have p2 : p ≤ 328 := by omega
  refine ⟨by decide, by decide, by omega, by omega, fun p' ep' => ?_⟩
  rw [ep']
  have m0 : 0 ≤ ((n : Int) + 1) * (p + L0.length + n) := Int.mul_nonneg (by omega) (by omega)
  have m1 : ((n : Int) + 1) * (p + L0.length + n) ≤ 7 * 364 := Int.mul_le_mul (by omega) (by omega) (by omega) (by omega)
  rw [wrap_id (x := (n : Int) + 1) (by omega) (by omega), wrap_id (x := p + (L0.length : Int)) (by omega) (by omega), wrap_id (x := p + (L0.length : Int) + n) (by omega) (by omega), wrap_id (x := ((n : Int) + 1) * (p + L0.length + n)) (by omega) (by omega), wrap_id (x := 1 + ((n : Int) + 1) * (p + L0.length + n)) (by omega) (by omega), wrap_id (x := 1 + ((n : Int) + 1) * (p + L0.length + n) + sp) (by omega) (by omega)]
  refine ⟨ht0, by omega, by omega, by omega, fun S i pl => ⟨⟨⟨S, [i], [L0], 0, ?_⟩, trivial, ?_⟩, fun x _ => brS_of (fun y => ?_) fun y => ?_⟩⟩
  · have g : Hld S ([i].zip [L0]) := by
      refine ⟨pl.wf, fun q hq => ?_, fun q hq => ?_, fun q hq => ?_⟩
      · rw [List.mem_singleton.1 hq]; exact pl.rep
      · rw [List.mem_singleton.1 hq]; exact la
      · rw [List.mem_singleton.1 hq]; exact fun z hz => (rL z hz).1
    refine ⟨Nat.zero_le _, n6, l30, rfl, rfl, g, fun L hL => ?_, by rw [pl.rds]; exact Int.le_refl _, ?_⟩
    · rw [List.mem_singleton.1 hL]; exact ⟨Nat.le_refl _, rL⟩
    · unfold Arn.cap
      rw [pl.len]
      show ((List.replicate _ false).length : Int) - 1 = _
      rw [List.length_replicate, ← Int.add_assoc p]; omega
  · (repeat' first | exact trivial | exact rfl | refine And.intro ?_ ?_)
  · obtain ⟨S1, rs, ll, k, fo⟩ := x
    dsimp only at y ⊢
    have yk : k < n := by have := of_decide_eq_true y; omega
    clear y
    have lr := fo.lr; have lL := fo.lL
    rw [show ((k : Int)).toNat = k from rfl, wrap_id (x := (k : Int) + 1) (by omega) (by omega)]
    have sp1 := fo.space (by omega) yk
    have hst := hl (stpG l k) (by
      show l.getD k _ ∈ l
      rw [List.getD_eq_getElem?_getD, List.getElem?_eq_getElem (by omega)]
      exact List.getElem_mem _)
    refine ⟨by omega, by omega, by omega, by omega, fun x1 e1 => ?_⟩
    have x0 : 0 ≤ x1 := by rw [e1]; exact Int.emod_nonneg _ (by omega)
    have xl : x1 < rs.length := by rw [e1]; exact Int.emod_lt_of_pos _ (by omega)
    have hx : x1.toNat < rs.length := by omega
    clear e1
    generalize x1.toNat = u at *
    have hrow := fo.ls _ (fo.row hx)
    obtain ⟨tr, um, tl, ts, tz⟩ := fo.up hx
    have am := fo.hld.asc _ (fo.mem hx)
    dsimp only at am
    have ins : ∀ {S2 : Arn} {j : Int}, TrR S1 rs (insE tr.list (stpG l k).ent) (iB tr.size) (5 * iB tr.size + ht tr + 1) S2 j → FoI sp L0 n p S2 (rs ++ [j]) (ll ++ [insE (rowG ll u) (stpG l k).ent]) (k + 1) := fun {S2 j} q => by
      rw [tl] at q
      have a1 := insE_len (rowG ll u) (stpG l k).ent
      have b1 := iB_Hn tr.size
      have b2 := Hn_rng (tr.size : Int)
      have b3 := ht_sz8 tr
      have l30 := fo.l30
      refine fo.go yk q (insE_asc _ am) (by omega) (fun z hz => ?_) (by omega)
      rcases insE_mem am hz with c | c
      · rw [c]; exact hst.2
      · exact hrow.2 z c
    have need : 4 * (Hn ((tr.size : Int) + 1) + 2) ≤ S1.free := by
      have := iB_fit (n := tr.size) (q := L0.length + n) (by omega)
      rw [show ((L0.length + n : Nat) : Int) + 1 = (L0.length : Int) + n + 1 by omega, ep] at this
      omega
    have needD : 4 * (Hn (tr.size : Int) + 2) ≤ S1.free := by
      have := Hn_mono1 tr.size
      omega
    have bs : ∀ x : Int, (rs.length + [x].length) * bytesOf C0 EC.u32 ≤ 140737488355328 := fun x => by rw [bytes_u32, List.length_singleton]; omega
    have bh : ∀ x : List Ent, (ll.length + [x].length) * bytesOf C0 EC.hent ≤ 140737488355328 := fun x => by rw [bytes_hent, List.length_singleton]; omega
    refine ⟨x0, by omega, by omega, by omega, brS_of (fun _ => ?_) fun _ => ⟨by omega, by omega, brS_of (fun _ => brS_of (fun z => ?_) fun _ => ?_) fun _ => ?_⟩⟩
    · refine ⟨rs, um.1, by omega, by omega, by omega, ?_, fun S2 j q => ⟨bs j, bh _, ⟨S2, rs ++ [j], ll ++ [rowG ll u], k + 1, ?_⟩, trivial, ?_, Nat.sub_lt_sub_left yk (Nat.lt_succ_self k)⟩⟩
      · exact wrap_u64_nonneg _
      · refine fo.go yk (m := (rowG ll u).length) (r := 0) ⟨⟨q.wf, q.stay, q.len, by rw [q.nu]; exact Nat.le_refl _, by rw [q.rds]; exact Int.le_refl _, by rw [q.rds]; omega⟩, q.rep⟩ am (by omega) hrow.2 (by omega)
      · (repeat' first | exact trivial | exact rfl | refine And.intro ?_ ?_)
    · have z0 : 0 < (rowG ll u).length := by have := of_decide_eq_true z; omega
      refine ⟨by omega, by omega, by omega, by omega, fun x2 e2 => ?_⟩
      have w0 : 0 ≤ x2 := by rw [e2]; exact Int.emod_nonneg _ (by omega)
      have wl : x2 < (rowG ll u).length := by rw [e2]; exact Int.emod_lt_of_pos _ (by omega)
      have hw : x2.toNat < (rowG ll u).length := by omega
      clear e2
      generalize x2.toNat = v at *
      have hmem : enG (rowG ll u) v ∈ rowG ll u := by
        show (rowG ll u).getD v _ ∈ rowG ll u
        rw [List.getD_eq_getElem?_getD, List.getElem?_eq_getElem hw]
        exact List.getElem_mem _
      refine ⟨w0, by omega, x0, by omega, rs, tr, um, needD, fun S2 j vv f ur => ⟨by omega, ?_⟩⟩
      rcases ur with ⟨c, _⟩ | ⟨_, ef, q⟩
      · rw [tl, getE_in am hmem] at c; cases c
      · subst ef
        rw [tl] at q
        refine brS_of (fun c => absurd c (by decide)) fun _ => ⟨bs j, bh _, ⟨S2, rs ++ [j], ll ++ [outE (rowG ll u) (enG (rowG ll u) v).1 (enG (rowG ll u) v).1], k + 1, ?_⟩, trivial, ?_, Nat.sub_lt_sub_left yk (Nat.lt_succ_self k)⟩
        · rw [outE_flt8]
          have b1 := dB_Hn tr.size
          have b2 := Hn_rng (tr.size : Int)
          have b3 := ht_sz8 tr
          have l30 := fo.l30
          refine fo.go yk q (flt_asc am) ?_ (fun z hz => hrow.2 z (List.mem_filter.1 hz).1) (by omega)
          have := List.length_filter_le (neK (enG (rowG ll u) v).1 ·.1) (rowG ll u)
          unfold flt
          omega
        · (repeat' first | exact trivial | exact rfl | refine And.intro ?_ ?_)
    · refine ⟨by omega, by omega, by omega, by omega, rs, tr, um, need, fun S2 j o _ q => ⟨by omega, by omega, by omega, bs j, bh _, ⟨S2, rs ++ [j], _, k + 1, ins q⟩, trivial, ?_, Nat.sub_lt_sub_left yk (Nat.lt_succ_self k)⟩⟩
      (repeat' first | exact trivial | exact rfl | refine And.intro ?_ ?_)
    · refine ⟨by omega, by omega, by omega, by omega, rs, tr, um, need, fun S2 j o _ q => ⟨by omega, by omega, by omega, bs j, bh _, ⟨S2, rs ++ [j], _, k + 1, ins q⟩, trivial, ?_, Nat.sub_lt_sub_left yk (Nat.lt_succ_self k)⟩⟩
      (repeat' first | exact trivial | exact rfl | refine And.intro ?_ ?_)
  · obtain ⟨S1, rs, ll, k, fo⟩ := x
    dsimp only at y ⊢
    have yk : k = n := by have := of_decide_eq_false y; have := fo.kn; omega
    subst yk
    exact h _ _ _ (fo.done (by omega) (by omega))
theorem s_fo : SoundT C0 4 tFo := by
  refine .of Try.func4 (by decide) rfl fun args H K h hB => ?_
  unfold tFo at h
  split at h <;> try exact h.elim
  refine ⟨_, ?_, vc_fo _ _ _ _ K h.1 h.2.1 h.2.2.1 h.2.2.2.1 h.2.2.2.2.1 h.2.2.2.2.2⟩
  exact ⟨frame C0.ok s_lst _, frame C0.ok s_nIns _, frame C0.ok s_grow _, frame C0.ok s_mod _, frame C0.ok s_plantA _, frame C0.ok s_upDx _, frame C0.ok s_del _, frame C0.ok s_upIn _, frame C0.ok s_ins _, trivial⟩
end Go.Proofs.Ytedfbafngmicpaa.Sx
end
section
/- The choice of trees in the laws of pack: pick. -/
namespace Go.Proofs.Ytedfbafngmicpaa.Sx
open Go

/-KEEP rowG-/
structure XPi (P : List Int → List (List Ent) → Nat → Prop) where
  r : List Int
  L : List (List Ent)
  i : Nat
  h : P r L i
noncomputable def aPi (P : List Int → List (List Ent) → Nat → Prop) (rs : List Int) (H : List (Chunk C0)) : Ann C0 := { quiet := [9999999], Γ := [], inv := fun m => match m with
  | 4 => some { X := XPi P, sl := [8, 9, 10], tf := fun x => [.one (.at (.slc 11)), .one (.at (.slc 12)), vi .i64 x.i], hf := fun x => H ++ [.row true EC.u32 x.r, .rows EC.hent EC.ent x.L], μ := fun x => rs.length - x.i }
  | _ => none }
def bitB (b : Int) (i : Nat) : Bool := (b.fdiv (2 ^ min i IntKind.u8.bits)).tmod 2 == 1
def pkG (b : Int) (E : List (Int × List Ent)) : Nat → List (Int × List Ent)
  | 0 => []
  | i + 1 => if bitB b i then pkG b E i ++ [E.getD i (0, [])] else pkG b E i
/-- The chosen trees, with their entries. -/
def pkZ (b : Int) (E : List (Int × List Ent)) : List (Int × List Ent) := pkG b E (min E.length 7) ++ if 128 ≤ b then [(0, [])] else []
abbrev pfM (H : List (Chunk C0)) (q : List Ent → List StpT → Arn → List Int → List (List Ent) → Prop) : Prop := match H with
  | [.row false .ent raw, .row false .stp l, .box [.ptr 5 0, .slc 6, .slc 7, .val (.int .u64 rd)], .row true .u32 rs, .rows .hent .ent ll, .box [.slc 8, .slc 9, .slc 10, .val (.int .u32 fr)], .row true .node nd, .row true .int ct, .row true .bool us, .row true .u32 gn, .row true .u32 rl] => q raw l ⟨us, gn, rl, fr, nd, ct, rd⟩ rs ll
  | _ => False
def tPi : Tfm C0 := fun args H K => match args with
  | [.at (.slc 3), .at (.slc 4), .at (.val (.int .u8 b))] => pfM H fun raw l S rs ll => rs.length = ll.length ∧ rs.length ≤ 1000 ∧ ∀ r L, r = (pkZ b (rs.zip ll)).map Prod.fst → L = (pkZ b (rs.zip ll)).map Prod.snd → K (.tup [.at (.slc 11), .at (.slc 12)]) (chF raw l S rs ll ++ [.row true EC.u32 r, .rows EC.hent EC.ent L]) []
  | _ => False
def PPi (b : Int) (rs : List Int) (ll : List (List Ent)) : List Int → List (List Ent) → Nat → Prop := fun r L i => i ≤ rs.length ∧ i ≤ 7 ∧ r = (pkG b (rs.zip ll) i).map Prod.fst ∧ L = (pkG b (rs.zip ll) i).map Prod.snd
theorem pkG_len (b : Int) (E : List (Int × List Ent)) : ∀ i, (pkG b E i).length ≤ i
  | 0 => Nat.le_refl _
  | i + 1 => by
    have := pkG_len b E i
    unfold pkG
    split
    · rw [List.length_append, List.length_singleton]; omega
    · omega
theorem zip_getD {rs : List Int} {ll : List (List Ent)} (e : rs.length = ll.length) {i : Nat} (h : i < rs.length) : (rs.zip ll).getD i (0, []) = (getB rs i, rowG ll i) := by
  have h2 : i < ll.length := e ▸ h
  have z : (rs.zip ll)[i]? = some (rs[i], ll[i]) := List.getElem?_zip_eq_some.2 ⟨List.getElem?_eq_getElem h, List.getElem?_eq_getElem h2⟩
  rw [List.getD_eq_getElem?_getD, z]
  show _ = (rs.getD i 0, ll.getD i [])
  rw [List.getD_eq_getElem?_getD, List.getD_eq_getElem?_getD, List.getElem?_eq_getElem h, List.getElem?_eq_getElem h2]; rfl
theorem vc_pi (raw : List Ent) (l : List StpT) (S : Arn) (rs : List Int) (ll : List (List Ent)) (b : Int) (K : KT) (e : rs.length = ll.length) (hl : rs.length ≤ 1000) (h : ∀ r L, r = (pkZ b (rs.zip ll)).map Prod.fst → L = (pkZ b (rs.zip ll)).map Prod.snd → K (.tup [.at (.slc 11), .at (.slc 12)]) (chF raw l S rs ll ++ [.row true EC.u32 r, .rows EC.hent EC.ent L]) []) :
    vc C0 (aPi (PPi b rs ll) rs (chF raw l S rs ll)) Try.f6 [.at (.slc 3), .at (.slc 4), .at (.val (.int .u8 b))] (chF raw l S rs ll) (normK 11 K) := by
  generalize hP : PPi b rs ll = P
  refine Eq.mp (show ((∃ x : XPi P, (True ∧ (True ∧ True ∧ ((Value.int IntKind.u8 (b)) = (Value.int IntKind.u8 (b))) ∧ True ∧ True ∧ ((Value.int IntKind.i64 0) = (Value.int IntKind.i64 ((↑x.i : Int)))) ∧ True) ∧ ((raw) = (raw)) ∧ ((l) = (l)) ∧ (True ∧ True ∧ True ∧ ((Value.int IntKind.u64 (S.reads)) = (Value.int IntKind.u64 (S.reads))) ∧ True) ∧ ((rs) = (rs)) ∧ ((ll) = (ll)) ∧ (True ∧ True ∧ True ∧ ((Value.int IntKind.u32 (S.fresh)) = (Value.int IntKind.u32 (S.fresh))) ∧ True) ∧ ((S.nodes) = (S.nodes)) ∧ ((S.counts) = (S.counts)) ∧ ((S.used) = (S.used)) ∧ ((S.gen) = (S.gen)) ∧ ((S.rel) = (S.rel)) ∧ ([] = (x.r)) ∧ ([] = (x.L)) ∧ True)) ∧
(∀ x : XPi P, (True → (brS (decide ((↑x.i : Int) < (↑rs.length : Int))) ((brS (decide ((↑x.i : Int) < 7)) (((0 ≤ IntKind.u64.wrap (↑x.i : Int)) ∧ (brS ((b.fdiv (2 ^ min (IntKind.u64.wrap (↑x.i : Int)).toNat IntKind.u8.bits)).tmod 2 == 1) (((0 ≤ (↑x.i : Int)) ∧ ((↑x.i : Int) < (↑rs.length : Int)) ∧ (0 ≤ (↑x.i : Int)) ∧ ((↑x.i : Int) < (↑ll.length : Int)) ∧ ((((x.r.length + [getB rs (↑x.i : Int).toNat].length) * bytesOf C0 EC.u32 ≤ 140737488355328) ∧ ((x.L.length + [rowG ll (↑x.i : Int).toNat].length) * bytesOf C0 EC.hent ≤ 140737488355328) ∧ (∃ x' : XPi P, (True ∧ ((True ∧ True ∧ ((Value.int IntKind.u8 (b)) = (Value.int IntKind.u8 (b))) ∧ True ∧ True ∧ ((Value.int IntKind.i64 (IntKind.i64.wrap ((↑x.i : Int) + 1))) = (Value.int IntKind.i64 ((↑x'.i : Int)))) ∧ True) ∧ ((raw) = (raw)) ∧ ((l) = (l)) ∧ (True ∧ True ∧ True ∧
    ((Value.int IntKind.u64 (S.reads)) = (Value.int IntKind.u64 (S.reads))) ∧ True) ∧ ((rs) = (rs)) ∧ ((ll) = (ll)) ∧ (True ∧ True ∧ True ∧ ((Value.int IntKind.u32 (S.fresh)) = (Value.int IntKind.u32 (S.fresh))) ∧ True) ∧ ((S.nodes) = (S.nodes)) ∧ ((S.counts) = (S.counts)) ∧ ((S.used) = (S.used)) ∧ ((S.gen) = (S.gen)) ∧ ((S.rel) = (S.rel)) ∧ ((x.r ++ [getB rs (↑x.i : Int).toNat]) = (x'.r)) ∧ ((x.L ++ [rowG ll (↑x.i : Int).toNat]) = (x'.L)) ∧ True) ∧ (rs.length - x'.i < rs.length - x.i)))) ∧ ((x.r.length + [getB rs (↑x.i : Int).toNat].length) * bytesOf C0 EC.u32 ≤ 140737488355328) ∧ ((x.L.length + [rowG ll (↑x.i : Int).toNat].length) * bytesOf C0 EC.hent ≤ 140737488355328) ∧ (∃ x' : XPi P, (True ∧ ((True ∧ True ∧ ((Value.int IntKind.u8 (b)) = (Value.int IntKind.u8 (b))) ∧ True ∧ True ∧ ((Value.int IntKind.i64 (IntKind.i64.wrap ((↑x.i : Int) + 1))) = (Value.int IntKind.i64 ((↑x'.i : Int)))) ∧ True) ∧ ((raw) = (raw)) ∧ ((l) = (l)) ∧ (True ∧ True ∧ True ∧ ((Value.int IntKind.u64 (S.reads)) = (Value.int IntKind.u64 (S.reads))) ∧ True) ∧ ((rs) = (rs)) ∧ ((ll) = (ll)) ∧ (True ∧ True ∧ True ∧ ((Value.int IntKind.u32 (S.fresh)) = (Value.int IntKind.u32 (S.fresh))) ∧ True) ∧ ((S.nodes) = (S.nodes)) ∧ ((S.counts) = (S.counts)) ∧ ((S.used) = (S.used)) ∧ ((S.gen) = (S.gen)) ∧ ((S.rel) = (S.rel)) ∧ ((x.r ++ [getB rs (↑x.i : Int).toNat]) = (x'.r)) ∧ ((x.L ++ [rowG ll (↑x.i : Int).toNat]) = (x'.L)) ∧ True) ∧ (rs.length - x'.i < rs.length - x.i)))) ∧
    ((x.r.length + [getB rs (↑x.i : Int).toNat].length) * bytesOf C0 EC.u32 ≤ 140737488355328) ∧ ((x.L.length + [rowG ll (↑x.i : Int).toNat].length) * bytesOf C0 EC.hent ≤ 140737488355328) ∧ (∃ x' : XPi P, (True ∧ ((True ∧ True ∧ ((Value.int IntKind.u8 (b)) = (Value.int IntKind.u8 (b))) ∧ True ∧ True ∧ ((Value.int IntKind.i64 (IntKind.i64.wrap ((↑x.i : Int) + 1))) = (Value.int IntKind.i64 ((↑x'.i : Int)))) ∧ True) ∧ ((raw) = (raw)) ∧ ((l) = (l)) ∧ (True ∧ True ∧ True ∧ ((Value.int IntKind.u64 (S.reads)) = (Value.int IntKind.u64 (S.reads))) ∧ True) ∧ ((rs) = (rs)) ∧ ((ll) = (ll)) ∧ (True ∧ True ∧ True ∧ ((Value.int IntKind.u32 (S.fresh)) = (Value.int IntKind.u32 (S.fresh))) ∧ True) ∧ ((S.nodes) = (S.nodes)) ∧ ((S.counts) = (S.counts)) ∧ ((S.used) = (S.used)) ∧ ((S.gen) = (S.gen)) ∧ ((S.rel) = (S.rel)) ∧ ((x.r ++ [getB rs (↑x.i : Int).toNat]) = (x'.r)) ∧ ((x.L ++ [rowG ll (↑x.i : Int).toNat]) = (x'.L)) ∧ True) ∧ (rs.length - x'.i < rs.length - x.i))))) ((∃ x' : XPi P, (True ∧ ((True ∧ True ∧ ((Value.int IntKind.u8 (b)) = (Value.int IntKind.u8 (b))) ∧ True ∧ True ∧ ((Value.int IntKind.i64 (IntKind.i64.wrap ((↑x.i : Int) + 1))) = (Value.int IntKind.i64 ((↑x'.i : Int)))) ∧ True) ∧ ((raw) = (raw)) ∧ ((l) = (l)) ∧ (True ∧ True ∧ True ∧ ((Value.int IntKind.u64 (S.reads)) = (Value.int IntKind.u64 (S.reads))) ∧ True) ∧ ((rs) = (rs)) ∧ ((ll) = (ll)) ∧ (True ∧ True ∧ True ∧ ((Value.int IntKind.u32 (S.fresh)) = (Value.int IntKind.u32 (S.fresh))) ∧ True) ∧ ((S.nodes) = (S.nodes)) ∧
    ((S.counts) = (S.counts)) ∧ ((S.used) = (S.used)) ∧ ((S.gen) = (S.gen)) ∧ ((S.rel) = (S.rel)) ∧ ((x.r) = (x'.r)) ∧ ((x.L) = (x'.L)) ∧ True) ∧ (rs.length - x'.i < rs.length - x.i))))))) ((brS (decide (b ≥ 128)) ((((x.r.length + [0].length) * bytesOf C0 EC.u32 ≤ 140737488355328) ∧ ((x.L.length + ([[]] : List (List Ent)).length) * bytesOf C0 EC.hent ≤ 140737488355328) ∧ (K (SV.tup [(TV.at (At.slc 11)), (TV.at (At.slc 12))]) [(Chunk.row false (EC.ent) (raw)), (Chunk.row false (EC.stp) (l)), (Chunk.box [(At.ptr 5 0), (At.slc 6), (At.slc 7), (At.val (Value.int IntKind.u64 (S.reads)))]), (Chunk.row true (EC.u32) (rs)), (Chunk.rows (EC.hent) (EC.ent) (ll)), (Chunk.box [(At.slc 8), (At.slc 9), (At.slc 10), (At.val (Value.int IntKind.u32 (S.fresh)))]), (Chunk.row true (EC.node) (S.nodes)), (Chunk.row true (EC.int) (S.counts)), (Chunk.row true (EC.bool) (S.used)), (Chunk.row true (EC.u32) (S.gen)), (Chunk.row true (EC.u32) (S.rel)), (Chunk.row true (EC.u32) (x.r ++ [0])), (Chunk.rows (EC.hent) (EC.ent) (x.L ++ ([[]] : List (List Ent))))] [])))
    ((K (SV.tup [(TV.at (At.slc 11)), (TV.at (At.slc 12))]) [(Chunk.row false (EC.ent) (raw)), (Chunk.row false (EC.stp) (l)), (Chunk.box [(At.ptr 5 0), (At.slc 6), (At.slc 7), (At.val (Value.int IntKind.u64 (S.reads)))]), (Chunk.row true (EC.u32) (rs)), (Chunk.rows (EC.hent) (EC.ent) (ll)), (Chunk.box [(At.slc 8), (At.slc 9), (At.slc 10), (At.val (Value.int IntKind.u32 (S.fresh)))]), (Chunk.row true (EC.node) (S.nodes)), (Chunk.row true (EC.int) (S.counts)), (Chunk.row true (EC.bool) (S.used)), (Chunk.row true (EC.u32) (S.gen)), (Chunk.row true (EC.u32) (S.rel)), (Chunk.row true (EC.u32) (x.r)), (Chunk.rows (EC.hent) (EC.ent) (x.L))] [])))))) ((brS (decide (b ≥ 128)) ((((x.r.length + [0].length) * bytesOf C0 EC.u32 ≤ 140737488355328) ∧ ((x.L.length + ([[]] : List (List Ent)).length) * bytesOf C0 EC.hent ≤ 140737488355328) ∧
    (K (SV.tup [(TV.at (At.slc 11)), (TV.at (At.slc 12))]) [(Chunk.row false (EC.ent) (raw)), (Chunk.row false (EC.stp) (l)), (Chunk.box [(At.ptr 5 0), (At.slc 6), (At.slc 7), (At.val (Value.int IntKind.u64 (S.reads)))]), (Chunk.row true (EC.u32) (rs)), (Chunk.rows (EC.hent) (EC.ent) (ll)), (Chunk.box [(At.slc 8), (At.slc 9), (At.slc 10), (At.val (Value.int IntKind.u32 (S.fresh)))]), (Chunk.row true (EC.node) (S.nodes)), (Chunk.row true (EC.int) (S.counts)), (Chunk.row true (EC.bool) (S.used)), (Chunk.row true (EC.u32) (S.gen)), (Chunk.row true (EC.u32) (S.rel)), (Chunk.row true (EC.u32) (x.r ++ [0])), (Chunk.rows (EC.hent) (EC.ent) (x.L ++ ([[]] : List (List Ent))))] []))) ((K (SV.tup [(TV.at (At.slc 11)), (TV.at (At.slc 12))]) [(Chunk.row false (EC.ent) (raw)), (Chunk.row false (EC.stp) (l)), (Chunk.box [(At.ptr 5 0), (At.slc 6), (At.slc 7), (At.val (Value.int IntKind.u64 (S.reads)))]), (Chunk.row true (EC.u32) (rs)), (Chunk.rows (EC.hent) (EC.ent) (ll)), (Chunk.box [(At.slc 8), (At.slc 9), (At.slc 10), (At.val (Value.int IntKind.u32 (S.fresh)))]), (Chunk.row true (EC.node) (S.nodes)), (Chunk.row true (EC.int) (S.counts)), (Chunk.row true (EC.bool) (S.used)), (Chunk.row true (EC.u32) (S.gen)), (Chunk.row true (EC.u32) (S.rel)), (Chunk.row true (EC.u32) (x.r)), (Chunk.rows (EC.hent) (EC.ent) (x.L))] [])))))))) = _ by kernel_rfl) ?_
  subst hP
  have out : ∀ i, i ≤ rs.length → i ≤ 7 → ¬ (i < rs.length ∧ i < 7) → pkG b (rs.zip ll) (min (rs.zip ll).length 7) = pkG b (rs.zip ll) i := fun i h1 h2 h3 => by
    rw [List.length_zip, show min (min rs.length ll.length) 7 = i by omega]
  have fin : ∀ i, i ≤ rs.length → i ≤ 7 → ¬ (i < rs.length ∧ i < 7) → brS (decide (b ≥ 128))
      (((((pkG b (rs.zip ll) i).map Prod.fst).length + [(0 : Int)].length) * bytesOf C0 EC.u32 ≤ 140737488355328) ∧ ((((pkG b (rs.zip ll) i).map Prod.snd).length + [([] : List Ent)].length) * bytesOf C0 EC.hent ≤ 140737488355328) ∧ K (.tup [.at (.slc 11), .at (.slc 12)]) (chF raw l S rs ll ++ [.row true EC.u32 ((pkG b (rs.zip ll) i).map Prod.fst ++ [0]), .rows EC.hent EC.ent ((pkG b (rs.zip ll) i).map Prod.snd ++ [[]])]) [])
      (K (.tup [.at (.slc 11), .at (.slc 12)]) (chF raw l S rs ll ++ [.row true EC.u32 ((pkG b (rs.zip ll) i).map Prod.fst), .rows EC.hent EC.ent ((pkG b (rs.zip ll) i).map Prod.snd)]) []) := fun i h1 h2 h3 => by
    have gl := pkG_len b (rs.zip ll) i
    refine brS_of (fun z => ⟨by rw [bytes_u32, List.length_map, List.length_singleton]; omega, by rw [bytes_hent, List.length_map, List.length_singleton]; omega, h _ _ ?_ ?_⟩) fun z => h _ _ ?_ ?_
    · unfold pkZ
      rw [out i h1 h2 h3, if_pos (of_decide_eq_true z), List.map_append]; rfl
    · unfold pkZ
      rw [out i h1 h2 h3, if_pos (of_decide_eq_true z), List.map_append]; rfl
    · unfold pkZ
      rw [out i h1 h2 h3, if_neg (of_decide_eq_false z)]
      simp only [List.append_nil]
      exact rfl
    · unfold pkZ
      rw [out i h1 h2 h3, if_neg (of_decide_eq_false z)]
      simp only [List.append_nil]
      exact rfl
  refine ⟨⟨⟨[], [], 0, Nat.zero_le _, by decide, rfl, rfl⟩, trivial, ?_⟩, fun x _ => brS_of (fun y => brS_of (fun z => ⟨wrap_u64_nonneg _, ?_⟩) fun z => ?_) fun y => ?_⟩
  · (repeat' first | exact trivial | exact rfl | refine And.intro ?_ ?_)
  · obtain ⟨r, L, i, h1, h2, rfl, rfl⟩ := x
    dsimp only at y z ⊢
    have yi : i < rs.length := by have := of_decide_eq_true y; omega
    have zi : i < 7 := by have := of_decide_eq_true z; omega
    clear y z
    have gl := pkG_len b (rs.zip ll) i
    rw [show ((i : Int)).toNat = i from rfl, wrap_id (x := (i : Int) + 1) (by omega) (by omega), wrap_u64 (x := (i : Int)) (by omega) (by omega), show ((i : Int)).toNat = i from rfl]
    refine brS_of (fun t => ?_) fun t => ?_
    · have bt : bitB b i = true := t
      have e1 : (pkG b (rs.zip ll) i).map Prod.fst ++ [getB rs i] = (pkG b (rs.zip ll) (i + 1)).map Prod.fst := by
        show _ = (if bitB b i then pkG b (rs.zip ll) i ++ [(rs.zip ll).getD i (0, [])] else pkG b (rs.zip ll) i).map Prod.fst
        rw [bt, if_pos rfl, zip_getD e yi, List.map_append]; rfl
      have e2 : (pkG b (rs.zip ll) i).map Prod.snd ++ [rowG ll i] = (pkG b (rs.zip ll) (i + 1)).map Prod.snd := by
        show _ = (if bitB b i then pkG b (rs.zip ll) i ++ [(rs.zip ll).getD i (0, [])] else pkG b (rs.zip ll) i).map Prod.snd
        rw [bt, if_pos rfl, zip_getD e yi, List.map_append]; rfl
      have b1 : (((pkG b (rs.zip ll) i).map Prod.fst).length + [getB rs i].length) * bytesOf C0 EC.u32 ≤ 140737488355328 := by rw [bytes_u32, List.length_map, List.length_singleton]; omega
      have b2 : (((pkG b (rs.zip ll) i).map Prod.snd).length + [rowG ll i].length) * bytesOf C0 EC.hent ≤ 140737488355328 := by rw [bytes_hent, List.length_map, List.length_singleton]; omega
      refine ⟨by omega, by omega, by omega, by omega, ?_⟩
      repeat' (first | with_reducible exact b1 | with_reducible exact b2 | with_reducible apply And.intro)
      all_goals refine ⟨⟨_, _, i + 1, yi, zi, e1, e2⟩, trivial, ?_, Nat.sub_lt_sub_left yi (Nat.lt_succ_self i)⟩
      all_goals (repeat' first | exact trivial | exact rfl | refine And.intro ?_ ?_)
    · have bt : bitB b i = false := t
      have e1 : pkG b (rs.zip ll) (i + 1) = pkG b (rs.zip ll) i := by
        show (if bitB b i then _ else _) = _
        rw [bt]; rfl
      refine ⟨⟨(pkG b (rs.zip ll) i).map Prod.fst, (pkG b (rs.zip ll) i).map Prod.snd, i + 1, yi, zi, by rw [e1], by rw [e1]⟩, trivial, ?_, Nat.sub_lt_sub_left yi (Nat.lt_succ_self i)⟩
      (repeat' first | exact trivial | exact rfl | refine And.intro ?_ ?_)
  · obtain ⟨r, L, i, h1, h2, rfl, rfl⟩ := x
    dsimp only at z ⊢
    have zi : ¬ i < 7 := by have := of_decide_eq_false z; omega
    exact fin i h1 h2 (by omega)
  · obtain ⟨r, L, i, h1, h2, rfl, rfl⟩ := x
    dsimp only at y ⊢
    have yi : ¬ i < rs.length := by have := of_decide_eq_false y; omega
    exact fin i h1 h2 (by omega)
theorem s_pi : SoundT C0 6 tPi := by
  refine .of Try.func6 (by decide) rfl fun args H K h hB => ?_
  unfold tPi pfM at h
  split at h <;> try exact h.elim
  split at h <;> try exact h.elim
  refine ⟨_, ?_, vc_pi _ _ ⟨_, _, _, _, _, _, _⟩ _ _ _ K h.1 h.2.1 h.2.2⟩
  exact trivial
end Go.Proofs.Ytedfbafngmicpaa.Sx
end
section
/- kit.Same[uint32], alone. -/
namespace Go.Proofs.Ytedfbafngmicpaa.Sx
open Go

structure XI8 (n : Nat) where
  i : Nat
  h : i ≤ n
noncomputable def aSm8 (l m : List Int) : Ann C0 := { Γ := [], inv := fun n => match n with
  | 4 => some { X := XI8 l.length, sl := [5], tf := fun x => [vi .i64 x.i], hf := fun _ => [.row false EC.u32 l, .row false EC.u32 m], μ := fun x => l.length - x.i }
  | _ => none }
def tSm8 : Tfm C0 := fun args H K => match args, H with
  | [.at (.slc 0), .at (.slc 1)], [.row false .u32 l, .row false .u32 m] => l = m ∧ l.length ≤ 1000000 ∧ K (.one (.at (vB true))) [.row false EC.u32 l, .row false EC.u32 m] []
  | _, _ => False
theorem vc_sm8 (l : List Int) (K : KT) (h1 : l.length ≤ 1000000) (h : K (.one (.at (vB true))) [.row false EC.u32 l, .row false EC.u32 l] []) :
    vc C0 (aSm8 l l) Try.f10 [.at (.slc 0), .at (.slc 1)] [.row false EC.u32 l, .row false EC.u32 l] (normK 2 K) := by
  have hm : ∀ m : List Int, m = l → vc C0 (aSm8 l m) Try.f10 [.at (.slc 0), .at (.slc 1)] [.row false EC.u32 l, .row false EC.u32 m] (normK 2 K) := fun m em => by
    refine Eq.mp (show (brS ((↑l.length : Int) != (↑m.length : Int)) ((K (SV.one (TV.at (At.val (Value.bool false)))) [(Chunk.row false (EC.u32) (l)), (Chunk.row false (EC.u32) (m))] [])) (((∃ x : XI8 l.length, (True ∧ (True ∧ True ∧ ((Value.int IntKind.i64 0) = (Value.int IntKind.i64 ((↑x.i : Int)))) ∧ True) ∧ ((l) = (l)) ∧ ((m) = (m)) ∧ True)) ∧ (∀ x : XI8 l.length, (True → (brS (decide ((↑x.i : Int) < (↑l.length : Int))) (((0 ≤ (↑x.i : Int)) ∧ ((↑x.i : Int) < (↑l.length : Int)) ∧ (0 ≤ (↑x.i : Int)) ∧ ((↑x.i : Int) < (↑m.length : Int)) ∧ (brS (l.getD (↑x.i : Int).toNat 0 != m.getD (↑x.i : Int).toNat 0) ((K (SV.one (TV.at (At.val (Value.bool false)))) [(Chunk.row false (EC.u32) (l)), (Chunk.row false (EC.u32) (m))] [])) ((∃ x' : XI8 l.length, (True ∧ ((True ∧ True ∧ ((Value.int IntKind.i64 (IntKind.i64.wrap ((↑x.i : Int) + 1))) = (Value.int IntKind.i64 ((↑x'.i : Int)))) ∧ True) ∧ ((l) = (l)) ∧ ((m) = (m)) ∧ True) ∧ (l.length - x'.i < l.length - x.i))))))) ((K (SV.one (TV.at (At.val (Value.bool true)))) [(Chunk.row false (EC.u32) (l)), (Chunk.row false (EC.u32) (m))] [])))))))) = _ by kernel_rfl) ?_
    subst em
    refine brS_of (fun c => by simp at c) fun _ => ⟨⟨⟨0, Nat.zero_le _⟩, ?_⟩, fun x _ => brS_of (fun c => ?_) fun c => h⟩
    · (repeat' first | exact trivial | exact rfl | refine And.intro ?_ ?_)
    have c : x.i < m.length := by have := of_decide_eq_true c; omega
    refine ⟨by omega, by omega, by omega, by omega, brS_of (fun e => by simp at e) fun _ => ⟨⟨x.i + 1, c⟩, ?_⟩⟩
    (repeat' first | exact trivial | exact rfl | refine And.intro ?_ ?_)
    · rw [wrap_id (by omega) (by omega)]; congr 1
    · show m.length - (x.i + 1) < _; omega
  exact hm l rfl
theorem s_sm8 : SoundT C0 10 tSm8 := by
  refine .of Try.func10 (by decide) rfl fun args H K h hB => ?_
  unfold tSm8 at h
  split at h <;> try exact h.elim
  rename_i l m
  obtain ⟨rfl, h1, h⟩ := h
  exact ⟨aSm8 l l, trivial, vc_sm8 l K h1 h⟩
end Go.Proofs.Ytedfbafngmicpaa.Sx
end
section
/- Law PackSharesKnown. -/
namespace Go.Proofs.Ytedfbafngmicpaa.Sx
open Go

/-KEEP Wf exW inU allV allB rdS Arn.free RtB ExO ImR FrB RngL RngS FoR pkZ-/
noncomputable def aPsk : Ann C0 := { quiet := [8], Γ := [(4, tFo), (5, frameT [] tAw28), (6, tPi), (7, frameT [] tExr), (9, frameT [] tImr), (8, frameT [] tFree), (10, frameT [] tSm8)] }
def tPsk : Tfm C0 := fun args H K => match args, H with
  | [.at (.slc 0), .at (.val (.int .u64 t)), .at (.slc 1), .at (.val (.int .u8 _))], [.row false .ent raw, .row false .stp l] => 0 ≤ t ∧ RngL raw ∧ RngS l ∧ K (.one (.at (vB true))) [.row false EC.ent raw, .row false EC.stp l] []
  | _, _ => False
theorem pkG_mem {b : Int} {E : List (Int × List Ent)} {q : Int × List Ent} : ∀ {i : Nat}, i ≤ E.length → q ∈ pkG b E i → q ∈ E
  | 0, _, h => by cases h
  | i + 1, hi, h => by
    unfold pkG at h
    split at h
    · rcases List.mem_append.1 h with c | c
      · exact pkG_mem (by omega) c
      · rw [List.mem_singleton.1 c, List.getD_eq_getElem?_getD, List.getElem?_eq_getElem (by omega)]
        exact List.getElem_mem _
    · exact pkG_mem (by omega) h
theorem pkZ_mem {b : Int} {E : List (Int × List Ent)} {q : Int × List Ent} (h : q ∈ pkZ b E) : q ∈ E ∨ q = (0, []) := by
  unfold pkZ at h
  rcases List.mem_append.1 h with c | c
  · exact .inl (pkG_mem (by omega) c)
  · split at c
    · exact .inr (List.mem_singleton.1 c)
    · cases c
theorem pkZ_len (b : Int) (E : List (Int × List Ent)) : (pkZ b E).length ≤ 8 := by
  have := pkG_len b E (min E.length 7)
  unfold pkZ
  rw [List.length_append]
  split
  · rw [List.length_singleton]; omega
  · rw [List.length_nil]; omega
theorem FoR.ok {sp : Int} {S : Arn} {rs : List Int} {ll : List (List Ent)} (h : FoR sp S rs ll) {q : Int × List Ent} (hq : q ∈ rs.zip ll ∨ q = (0, [])) : OkT S q.1 ∧ ∃ t, Rep S t q.1 ∧ t.list = q.2 ∧ t.Bal ∧ Asc q.2 ∧ t.size ≤ 36 := by
  rcases hq with hq | hq
  · obtain ⟨t, r, e, b⟩ := h.hld.rep q hq
    have l := h.ls q.2 (List.of_mem_zip hq).2
    have a := h.hld.asc q hq
    exact ⟨⟨t, r, by rw [e]; exact a, b, by rw [e]; exact l.2⟩, t, r, e, b, a, by rw [← t.list_len, e]; exact l.1⟩
  · rw [hq]
    exact ⟨⟨.nil, rfl, List.Pairwise.nil, trivial, fun z hz => by cases hz⟩, .nil, rfl, rfl, trivial, List.Pairwise.nil, by decide⟩
theorem FoR.wf {sp : Int} {S : Arn} {rs : List Int} {ll : List (List Ent)} (h : FoR sp S rs ll) : Wf S rs := by
  have := h.hld.wf
  rwa [zip_fst h.len] at this
theorem FoR.rt {sp : Int} {S : Arn} {rs : List Int} {ll : List (List Ent)} (h : FoR sp S rs ll) (b c : Int) : RtB S rs ((pkZ b (rs.zip ll)).map Prod.fst) ((pkZ c (rs.zip ll)).map Prod.fst) := by
  have l1 := pkZ_len b (rs.zip ll)
  have l2 := pkZ_len c (rs.zip ll)
  have one := h.one
  have rd := h.rd
  refine rtB_of h.wf (by omega) (by omega) (by rw [List.length_map]; omega) (by rw [List.length_map]; omega) fun r hr => ?_
  rcases List.mem_append.1 hr with c | c
  · obtain ⟨q, hq, rfl⟩ := List.mem_map.1 c
    exact (h.ok (pkZ_mem hq)).1
  · obtain ⟨q, hq, rfl⟩ := List.mem_map.1 c
    exact (h.ok (pkZ_mem hq)).1
theorem vc_psk (raw : List Ent) (l : List StpT) (t b : Int) (K : KT) (h0 : 0 ≤ t) (hraw : RngL raw) (hl : RngS l) (h : K (.one (.at (vB true))) [.row false EC.ent raw, .row false EC.stp l] []) :
    vc C0 aPsk Try.f3 [.at (.slc 0), .at (vU64 t), .at (.slc 1), .at (.val (.int .u8 b))] [.row false EC.ent raw, .row false EC.stp l] (normK 2 K) := by
  refine Eq.mp (show ((0 ≤ t) ∧
((1 : Int) ≤ 1) ∧
((1 : Int) ≤ 1000) ∧
(RngL raw) ∧
(RngS l) ∧
(∀ S : Arn, (∀ rs : List Int, (∀ ll : List (List Ent), ((FoR 1 S rs ll) → (((rs.length) = (ll.length)) ∧ (rs.length ≤ 1000) ∧ (∀ r : List Int, (∀ L : List (List Ent), (((r) = (List.map Prod.fst (pkZ b (rs.zip ll)))) → (((L) = (List.map Prod.snd (pkZ b (rs.zip ll)))) → (∃ hs : List Int, ((RtB S hs r r) ∧ (∀ S' : Arn, (∀ o : List Int, ((ExO S hs r r S' o) → ((exW S') ∧ (∃ S0 : Arn, (∃ hs1 : List Int, (∃ rs1 : List Int, ((RtB S0 hs1 r rs1) ∧ (S0.reads ≤ 10000000000000000) ∧ (ExO S0 hs1 r rs1 S' o) ∧ (FrB S0 r rs1) ∧ (∀ S2 : Arn, (∀ x : List Int, ((ImR S0 hs1 r rs1 S2 x) → (((x) = (r)) ∧ (x.length ≤ 1000000) ∧ (exW S2) ∧ (K (SV.one (TV.at (At.val (Value.bool (S2.free == S'.free))))) [(Chunk.row false (EC.ent) (raw)), (Chunk.row false (EC.stp) (l))] []))))))))))))))))))))))))) = _ by kernel_rfl) ?_
  refine ⟨h0, by decide, by decide, hraw, hl, fun S rs ll fo => ⟨fo.len, by have := fo.one; omega, fun r L er _ => ?_⟩⟩
  have rt := fo.rt b b
  rw [← er] at rt
  have w := fo.wf
  have self : ∀ lk la, NumsA S r [] lk → NumsA S r lk la → la = lk := fun lk la n1 n2 => ExA.self (S := S) (hs := rs) (ks := r) ⟨w, rt.kv, n1, n2⟩
  have fr0 := w.free_nonneg
  have one := fo.one
  have rd := fo.rd
  refine ⟨rs, rt, fun S' o ex => ?_⟩
  obtain ⟨m, es, hm⟩ := ex.st
  have w' : Wf S' rs := by rw [es]; exact w.rd (by omega)
  refine ⟨⟨_, w'⟩, S, rs, r, rt, by omega, ex, fun lk la n1 n2 => ?_, fun S2 x im => ?_⟩
  · rw [self lk la n1 n2, Nat.sub_self]; exact fr0.1
  · obtain ⟨lk, la, nw, q, im⟩ := im
    have e1 := self lk la im.ex.nk im.ex.na
    subst e1
    obtain ⟨z, ez, zl⟩ := im.ax
    have z0 : z = [] := by
      have := congrArg List.length ez
      rw [List.length_append] at this
      exact List.length_eq_zero_iff.1 (by omega)
    have n0 : nw = [] := by rw [z0] at zl; exact List.length_eq_zero_iff.1 zl.symm
    have xe : x = r := by
      rw [im.ex_, n0, List.append_nil]
      refine (List.map_congr_left fun i hi => ?_).trans (List.map_id _)
      exact rtG_known w (fun i hi => rt.kv i (List.mem_append_left _ hi)) im.ex.nk hi
    refine ⟨xe, by rw [xe, er, List.length_map]; have := pkZ_len b (rs.zip ll); omega, ⟨_, im.wf⟩, ?_⟩
    have fe : (S2.free == S'.free) = true := by
      have a := im.wf.free_nonneg.2.2.2
      have b := im.nu
      have c := im.ul
      have d := fr0.2.2.2
      rw [n0] at b
      have e : S'.free = S.free := by rw [es]; rfl
      rw [beq_iff_eq, e, a, d]
      unfold Arn.cap
      rw [c, b]
      simp
    rw [fe]
    exact h
theorem s_psk : SoundT C0 3 tPsk := by
  refine .of Try.func3 (by decide) rfl fun args H K h hB => ?_
  unfold tPsk at h
  split at h <;> try exact h.elim
  refine ⟨_, ?_, vc_psk _ _ _ _ K h.1 h.2.1 h.2.2.1 h.2.2.2⟩
  exact ⟨s_fo, frame C0.ok s_aw28 _, s_pi, frame C0.ok s_exr _, frame C0.ok s_imr _, frame C0.ok s_free _, frame C0.ok s_sm8 _, trivial⟩
end Go.Proofs.Ytedfbafngmicpaa.Sx
end
section
/- What every law's last step leans on. -/
namespace Go.Proofs.Ytedfbafngmicpaa
open Go.ChangeShapes Go.WideShapes Go.ChangeAt Go.RowKit

theorem ownK : ownKnob Try.prog.godebug = none := by kernel_rfl
theorem laidO : laidOutB Try.prog = true := by kernel_rfl

theorem lit_i64 {a : Int} (h : (Lit.int .i64 a).wf = true) : -9223372036854775808 ≤ a ∧ a ≤ 9223372036854775807 := by
  have h1 : IntKind.i64.min = -9223372036854775808 := rfl
  have h2 : IntKind.i64.max = 9223372036854775807 := rfl
  simp only [Lit.wf, Bool.and_eq_true, decide_eq_true_eq] at h
  omega
theorem lit_u64 {a : Int} (h : (Lit.int .u64 a).wf = true) : 0 ≤ a ∧ a ≤ 18446744073709551615 := by
  have h1 : IntKind.u64.min = 0 := rfl
  have h2 : IntKind.u64.max = 18446744073709551615 := rfl
  simp only [Lit.wf, Bool.and_eq_true, decide_eq_true_eq] at h
  omega
end Go.Proofs.Ytedfbafngmicpaa
end
section
/- From contracts to laws: the arguments as they come, what a law's call leaves. -/
namespace Go.Proofs.Ytedfbafngmicpaa.Sx
open Go Go.Joins Go.ChangeShapes Go.WideShapes Go.ChangeAt Go.RowKit

theorem Sat.imms {C : Ctx} {w : World} (vs : List Value) (H : List (Chunk C)) (h : ∀ (n : Nat) (c : Chunk C), H[n]? = some c → ∃ e l, c = .row false e l ∧ Imm C w (vs.getD n undef) e l) : Sat C (fun n => vs.getD n undef) (fun _ _ => False) w H where
  holds n c hc := by
    obtain ⟨e, l, rfl, hi⟩ := h n c hc
    exact ⟨hi, fun _ hh => hh⟩
  dis _ _ _ hh := hh.elim
  bd _ _ hh := hh.elim
  imm _ _ _ _ _ _ hh := hh
  out _ _ _ hh := hh
  cl n c hc m hm := by
    obtain ⟨e, l, rfl, _⟩ := h n c hc
    simp [Chunk.names] at hm

theorem lawOf {f : FuncId} {t : Tfm C0} (hs : SoundT C0 f t) {args : List TV} {H : List (Chunk C0)} {vs : List Value} {σ : Nat → Value} {w : World} (ht : ∀ K : KT, K (.one (.at (vB true))) H [] → t args H K)
    (hsat : Sat C0 σ (fun _ _ => False) w H) (hr : Rels (TV.rel σ) args vs) (hn : ∀ x ∈ args, ∀ m ∈ x.names, m < H.length) : Calls Try.prog f vs.toArray w (fun e w' => e = .returned (.bool true) ∧ Below w.heap.size w w') := by
  have hc := hs.call args H (fun r _ _ => r = .one (.at (vB true))) (ht _ rfl) σ _ w vs hsat hr hn
  refine Calls.mono hc fun e w' hh => ?_
  cases e with
  | panicked ch => exact hh.elim
  | outgrown => exact hh.elim
  | returned v =>
    obtain ⟨r, H', ts, σ', φ', hout, rfl⟩ := hh
    have hv : v = .bool true := hout.rel
    exact ⟨by rw [hv], hout.adv.os, hout.adv.tape, hout.adv.output, hout.adv.size, fun k hk => hout.adv.fr k hk fun n hh => hh⟩

section
variable {HH : Type} {enc : TypeId × Value → HH} {P : Program} {w : World} {base b0 : Nat} {spare : Nat → Bool} {held : Bool} {r : Reach}
theorem openRowQ {α : Type} [Inhabited α] {t e : TypeId} {f : α → List Value} {Q : α → Prop} {sz : Nat} {v : Value} {d : DataW HH} {p : List MemPlace} (ht : P.underlying t = some (.slice e)) (hC : P.cellsOf e = sz) (hpos : 0 < sz) (hf : ∀ x, (f x).length = sz)
    (hel : ∀ {n : Nat} {cs : List Value} {x : DataW HH × List MemPlace}, DataW.trod enc P w base spare held n e cs = some x → ∃ a, cs = f a ∧ Q a) (hv : Value.okWide P w r b0 t v) (h : DataW.Trod enc P w base spare held t v d p) :
    ∃ A n c l, v = .slice A n c ∧ Rd f sz w A n c l ∧ ∀ x ∈ l, Q x := by
  obtain ⟨A, n, c, rfl⟩ := okWide_slice ht hv
  obtain ⟨fuel, hh⟩ := h
  have hh : DataW.trod enc P w base spare held fuel t [.slice A n c] = some (d, p) := by simpa [Value.cells] using hh
  rcases Go.Deep.open_slice ht hh with ⟨h1, _⟩ | ⟨a, len, cap, m, k, D, Pl, h1, hb, hle, hm, hmm, hx, hall⟩
  · simp only [List.cons.injEq, Value.slice.injEq, and_true] at h1
    obtain ⟨rfl, rfl, rfl⟩ := h1
    exact ⟨none, 0, 0, [], rfl, Rd.nil hf, fun x hx => by simp at hx⟩
  · simp only [List.cons.injEq, Value.slice.injEq, and_true] at h1
    obtain ⟨rfl, rfl, rfl⟩ := h1
    have hlm : n ≤ m := by rw [hmm]; split <;> omega
    have hel' : ∀ i, i < n → ∃ x : α, w.cells? base (a.add (i * P.cellsOf e)) (P.cellsOf e) = some (f x) ∧ Q x := fun i hi => by
      obtain ⟨cs', hc1, hc2⟩ := hall i (by omega)
      obtain ⟨x, rfl, hq⟩ := hel hc2
      exact ⟨x, hc1, hq⟩
    obtain ⟨F, hF⟩ := Go.Deep.choose_lt hel'
    have cell : ∀ i, i < n → ∀ j, j < sz → w.cell? ((a.add (i * sz)).add j) = (f (F i))[j]? := fun i hi j hj => by
      have h2 := (hF i hi).1
      rw [hC] at h2
      unfold World.cells? at h2
      split at h2
      · exact mapM_some_get h2 j j (by simp [hj])
      · cases h2
    refine ⟨some a, n, c, (List.range n).map F, rfl, ⟨by simp, hle, hm, hf, fun h => (by cases h), fun hn => ?_⟩, fun x hx => by obtain ⟨i, hi, rfl⟩ := List.mem_map.1 hx; exact (hF i (List.mem_range.1 hi)).2⟩
    obtain ⟨b, o, sp⟩ := a
    have hsome : ∀ i, i < n → ∀ j, j < sz → ∃ u, w.cell? (((⟨b, o, sp⟩ : Addr).add (i * sz)).add j) = some u := fun i hi j hj => by
      rw [cell i hi j hj]
      exact ⟨_, List.getElem?_eq_getElem (by rw [hf]; exact hj)⟩
    obtain ⟨u0, hu0⟩ := hsome 0 hn 0 hpos
    have hspot : sp = none := by simpa [Addr.add] using World.cell?_spot hu0
    subst hspot
    refine ⟨b, o, rfl, ?_, fun k x hx j u hu => ?_⟩
    · have hu1 : w.cell? ⟨b, o, none⟩ = some u0 := by simpa [Addr.add] using hu0
      unfold World.cell? at hu1
      split at hu1
      · rename_i hb2
        exact (Array.getElem?_eq_some_iff.1 hb2).1
      · cases hu1
    · rw [List.getElem?_map] at hx
      have hk : k < n := by
        rcases Nat.lt_or_ge k n with h2 | h2
        · exact h2
        · rw [List.getElem?_eq_none (by simpa using h2)] at hx; cases hx
      rw [List.getElem?_range hk] at hx
      simp only [Option.map_some, Option.some.injEq] at hx
      subst hx
      have hj : j < sz := by
        have := (List.getElem?_eq_some_iff.1 hu).1
        rwa [hf] at this
      have h3 := cell k hk j hj
      rw [hu] at h3
      rw [← h3]
      congr 1
      rw [Go.WideShapes.add_plain, Go.WideShapes.add_plain]
end

section
variable {HH : Type} {enc : TypeId × Value → HH} {w : World} {base b0 : Nat} {spare : Nat → Bool} {held : Bool} {r : Reach}
set_option maxRecDepth 100000 in
theorem elEw {n : Nat} {cs : List Value} {x : DataW HH × List MemPlace} (h : DataW.trod enc Try.prog w base spare held n 49 cs = some x) :
    ∃ a : Ent, cs = EC.enc .ent a ∧ ((-9223372036854775808 ≤ a.1 ∧ a.1 ≤ 9223372036854775807) ∧ (-9223372036854775808 ≤ a.2 ∧ a.2 ≤ 9223372036854775807)) := by
  obtain ⟨y0, y1, m, _, hl, h0, h1⟩ := trod_struct2 Try.underlying49 h
  obtain ⟨k, e0, _, w0⟩ := DataW.trod_int Try.underlying2 h0
  obtain ⟨v, e1, _, w1⟩ := DataW.trod_int Try.underlying2 h1
  have hl : cs.length = 2 := hl.trans (by kernel_rfl)
  have c1 : Try.prog.cellsOf 2 = 1 := by kernel_rfl
  match cs, hl with
  | [a, b], _ =>
    simp [c1] at e0 e1
    exact ⟨(k, v), by rw [e0, e1]; rfl, lit_i64 w0, lit_i64 w1⟩
set_option maxRecDepth 100000 in
/-- The same with what the entries' numbers are. -/
theorem openEw {v : Value} {d : DataW HH} {p : List MemPlace} (hv : Value.okWide Try.prog w r b0 22 v) (h : DataW.Trod enc Try.prog w base spare held 22 v d p) :
    ∃ (l : List Ent), Imm C0 w v EC.ent l ∧ ∀ x ∈ l, (-9223372036854775808 ≤ x.1 ∧ x.1 ≤ 9223372036854775807) ∧ (-9223372036854775808 ≤ x.2 ∧ x.2 ≤ 9223372036854775807) := by
  obtain ⟨A, n, c, l, rfl, hr, hq⟩ := openRowQ (α := Ent) (f := fun x => EC.enc .ent x) (sz := 2) Try.underlying22 (by kernel_rfl) (by decide) (fun _ => rfl) (fun h => elEw h) hv h
  obtain rfl := hr.len
  exact ⟨l, ⟨A, c, rfl, hr⟩, hq⟩
instance : Inhabited Chg := ⟨⟨0, 0, 0, 0⟩⟩
end
end Go.Proofs.Ytedfbafngmicpaa.Sx
end
section
/- Opening arguments that are slices of steps of the laws of pack. -/
namespace Go.Proofs.Ytedfbafngmicpaa.Sx
open Go Go.Joins Go.ChangeShapes Go.WideShapes Go.ChangeAt Go.RowKit

theorem lit_u8 {a : Int} (h : (Lit.int .u8 a).wf = true) : 0 ≤ a ∧ a ≤ 255 := by
  have h1 : IntKind.u8.min = 0 := rfl
  have h2 : IntKind.u8.max = 255 := rfl
  simp only [Lit.wf, Bool.and_eq_true, decide_eq_true_eq] at h
  omega
section
variable {HH : Type} {enc : TypeId × Value → HH} {w : World} {base b0 : Nat} {spare : Nat → Bool} {held : Bool} {r : Reach}
instance : Inhabited StpT := ⟨⟨0, (0, 0), false, false⟩⟩
set_option maxRecDepth 100000 in
theorem elP {n : Nat} {cs : List Value} {x : DataW HH × List MemPlace} (h : DataW.trod enc Try.prog w base spare held n 51 cs = some x) : ∃ a : StpT, cs = EC.enc .stp a ∧ (rngI a.at_ ∧ rngI a.ent.1 ∧ rngI a.ent.2) := by
  obtain ⟨y0, y1, y2, y3, m, _, hl, h0, h1, h2, h3⟩ := trod_struct4 Try.underlying51 h
  obtain ⟨u, e0, q0⟩ := DataW.trod_int Try.underlying3 h0
  obtain ⟨s, e1, q1⟩ := elEw h1
  obtain ⟨k, e2, _⟩ := DataW.trod_bool Try.underlying4 h2
  obtain ⟨v, e3, _⟩ := DataW.trod_bool Try.underlying4 h3
  have hl : cs.length = 5 := hl.trans (by kernel_rfl)
  have c1 : Try.prog.cellsOf 4 = 1 := by kernel_rfl
  have c2 : Try.prog.cellsOf 3 = 1 := by kernel_rfl
  have c3 : Try.prog.cellsOf 49 = 2 := by kernel_rfl
  match cs, hl with
  | [a, b, c, d, e], _ =>
    simp [c1, c2, c3] at e0 e1 e2 e3
    have e1 : [b, c] = [Value.int .i64 s.1, Value.int .i64 s.2] := e1
    simp only [List.cons.injEq, and_true] at e1
    exact ⟨⟨u, s, k, v⟩, by rw [e0, e1.1, e1.2, e2, e3]; rfl, lit_i64 q0.2, q1⟩
set_option maxRecDepth 100000 in
theorem openP {v : Value} {d : DataW HH} {p : List MemPlace} (hv : Value.okWide Try.prog w r b0 24 v) (h : DataW.Trod enc Try.prog w base spare held 24 v d p) :
    ∃ (l : List StpT), Imm C0 w v EC.stp l ∧ RngS l := by
  obtain ⟨A, n, c, l, rfl, hr, hq⟩ := openRowQ (α := StpT) (f := fun x => EC.enc .stp x) (sz := 5) Try.underlying24 (by kernel_rfl) (by decide) (fun _ => rfl) (fun h => elP h) hv h
  obtain rfl := hr.len
  exact ⟨l, ⟨A, c, rfl, hr⟩, hq⟩
end
end Go.Proofs.Ytedfbafngmicpaa.Sx
end
section
/- 'PackSharesKnown': the law returns true for every input, and its arguments read afterwards as they read before. -/
namespace Go.Proofs.Ytedfbafngmicpaa.packSharesKnown
open Go.ChangeShapes Go.WideShapes Go.ChangeAt Go.RowKit Sx

set_option maxRecDepth 100000 in
theorem lifted (os : Os) (started : os.Started) (H : Type) (enc : TypeId × Value → H) :
    ReturnsInHanded {} Try.checked os 3 .any (Rows.packSharesKnownSpec.pre6 enc Try.prog Try.f3 Rows.packSharesKnownRow.domain false) (Rows.packSharesKnownSpec.post enc Try.prog Try.f3 false true false false) := by
  refine returnsInHanded_of_change (C := Try.checked) ownK started (by kernel_rfl) Try.func3
    (ChangeSpec.witness6 (enc := enc) (C := Try.checked) false ⟨#[], #[.slice none 0 0, .int .u64 0, .slice none 0 0, .int .u8 0], []⟩ 8 (by kernel_rfl) (by kernel_rfl) (by kernel_rfl) (by kernel_rfl)) ?_
  intro W base args ds gs before hval0 hW hcnd _
  have hval : ∀ (j : Nat) t v, Try.f3.params[j]? = some t → args[j]? = some v → Value.okWide Try.prog W .any base t v := hval0
  have hW' := hW
  obtain ⟨p, q, hA0, hV, rfl, hfz, hnd⟩ := hW
  have hA : DataW.TrodAll enc Try.prog W 0 (fun _ => true) true Try.f3.params.toList args.toList ds p := hA0
  rw [Try.params3] at hA hval
  obtain ⟨v0, vs0, d0, ds0, p0, q0, hargs, rfl, rfl, h0, r0⟩ := trodAll_cons hA
  obtain ⟨v1, vs1, d1, ds1, p1, q1, rfl, rfl, rfl, h1, r1⟩ := trodAll_cons r0
  obtain ⟨v2, vs2, d2, ds2, p2, q2, rfl, rfl, rfl, h2, r2⟩ := trodAll_cons r1
  obtain ⟨v3, vs3, d3, ds3, p3, q3, rfl, rfl, rfl, h3, r3⟩ := trodAll_cons r2
  obtain ⟨rfl, rfl, rfl⟩ := trodAll_nil r3
  obtain rfl : args = #[v0, v1, v2, v3] := by cases args; simp_all
  obtain ⟨rfl, rfl⟩ := trodVars_none hV
  have k0 := h0
  have k1 := h1
  have k2 := h2
  have k3 := h3
  clear hA0 hval0
  simp only [List.append_nil] at hW'
  have hlt : ∀ x ∈ p0 ++ (p1 ++ (p2 ++ (p3))), x.block < W.heap.size := fun x hx => by simpa using hW'.lt x (by simpa using hx)
  have l0 : ∀ x ∈ p0, x.block < W.heap.size := fun x hx => hlt x (by simp [hx])
  have l1 : ∀ x ∈ p1, x.block < W.heap.size := fun x hx => hlt x (by simp [hx])
  have l2 : ∀ x ∈ p2, x.block < W.heap.size := fun x hx => hlt x (by simp [hx])
  have l3 : ∀ x ∈ p3, x.block < W.heap.size := fun x hx => hlt x (by simp [hx])
  obtain ⟨L0, R0, Q0⟩ := openEw (hval 0 22 v0 rfl rfl) h0
  obtain ⟨a1, rfl, rfl, rfl, w1⟩ := open_int Try.underlying23 (hval 1 23 v1 rfl rfl) h1
  have b1 := lit_u64 w1
  obtain ⟨L2, R2, Q2⟩ := openP (hval 2 24 v2 rfl rfl) h2
  obtain ⟨a3, rfl, rfl, rfl, w3⟩ := open_int Try.underlying5 (hval 3 5 v3 rfl rfl) h3
  have b3 := lit_u8 w3
  refine (lawOf s_psk (args := [.at (.slc 0), .at (.val (.int .u64 a1)), .at (.slc 1), .at (.val (.int .u8 a3))]) (H := [Chunk.row false EC.ent L0, Chunk.row false EC.stp L2]) (vs := [v0, .int .u64 a1, v2, .int .u8 a3]) (σ := fun n => [v0, v2].getD n undef) (w := W) (fun K h => ⟨b1.1, Q0, Q2, h⟩)
    (Sat.imms [v0, v2] _ fun n c hc => by match n, hc with | 0, hc => exact ⟨_, _, (Option.some.inj hc).symm, R0⟩ | 1, hc => exact ⟨_, _, (Option.some.inj hc).symm, R2⟩ | n + 2, hc => simp at hc) (Rels.cons rfl (Rels.cons rfl (Rels.cons rfl (Rels.cons rfl Rels.nil)))) (by simp [TV.names, At.names])).mono fun e W' ⟨he, hg⟩ => ?_
  subst he
  exact ⟨_, rfl, _, _, _, [] ++ [], _, [], hW', (trodAll_cons_mk (shut_bool Try.underlying4 true) trodAll_mk0), (trodAll_cons_mk (Below.trod laidO (by kernel_rfl) (of_decide_eq_true (by kernel_rfl)) k0 hg l0) (trodAll_cons_mk (Below.trod laidO (by kernel_rfl) (of_decide_eq_true (by kernel_rfl)) k1 hg l1) (trodAll_cons_mk (Below.trod laidO (by kernel_rfl) (of_decide_eq_true (by kernel_rfl)) k2 hg l2) (trodAll_cons_mk (Below.trod laidO (by kernel_rfl) (of_decide_eq_true (by kernel_rfl)) k3 hg l3) trodAll_mk0)))), rfl, hg.frame _, fun h => by cases h⟩

theorem over : Rows.packSharesKnownRow.holds Try.pinned (OpenSpec.ofChange Rows.packSharesKnownSpec) :=
  OpenClaim.holds_of_wide 3 Try.f3 rfl rfl rfl rfl rfl rfl rfl ⟨rfl, rfl, rfl, rfl, rfl⟩ rfl rfl rfl rfl rfl (by kernel_rfl) Try.func3 (by kernel_rfl)
    (of_decide_eq_true (by kernel_rfl)) (by unfold Func.isWrapper; first | (rw [if_pos (by decide +kernel)]; kernel_rfl) | (rw [if_neg (by decide +kernel)]; exact ⟨rfl, rfl⟩))
    (fun os started H enc _ => lifted os started H enc)

theorem proved : Rows.PackSharesKnownSaid := over
#print axioms proved
end Go.Proofs.Ytedfbafngmicpaa.packSharesKnown
end
