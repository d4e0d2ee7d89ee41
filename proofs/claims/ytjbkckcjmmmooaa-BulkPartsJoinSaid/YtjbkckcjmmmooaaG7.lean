/- A part of the proof. -/
import Derived.Test.YtjbkckcjmmmooaaG6
import Derived.Test.YtjbkckcjmmmooaaG4
import Derived.Test.YtjbkckcjmmmooaaG5
section
/- treework: Split, From, To. -/
namespace Go.Proofs.Ytjbkckcjmmmooaa.Sx
open Go

/-KEEP Wf exW inU live Arn.cap Arn.free NodeR Rep Kept rdS retL Tr.size Tr.list Tr.Bal balN balB jB pB cB iB dB sB gN OpnR TrR Got flt insE getE Asc-/
def ltK (key : Int) (q : Int) : Bool := decide (q < key)
def gtK (key : Int) (q : Int) : Bool := decide (key < q)
def tSpl (n : Nat) : Tfm C0 := fun args H K => match args with
  | [.at (.ptr 0 0), .at (.val (.int .u32 i)), .at (.val (.int .i64 key))] => arM H fun S => ∃ hs t, Wf S (i :: hs) ∧ Rep S t i ∧ t.Bal ∧ Asc t.list ∧ t.size < n ∧ t.size ≤ 700000 ∧ 7 * (gN (t.size + 1) : Int) + 1 ≤ S.free ∧ hs.length + t.size ≤ 600000000 ∧ S.reads + (35 * gN (t.size + 1) + 5) ≤ 1600000000000000000 ∧
    ∀ S' x y m (o : Option Int), m ≤ gN (t.size + 1) + 3 * gN ((flt (ltK key) t.list).length + 1) + 3 * gN ((flt (gtK key) t.list).length + 1) + 1 → Got S hs m (5 * m) S' (x :: y :: hs) → (∃ t1, Rep S' t1 x ∧ t1.list = flt (ltK key) t.list ∧ t1.Bal) → (∃ t2, Rep S' t2 y ∧ t2.list = flt (gtK key) t.list ∧ t2.Bal) → o = getE t.list key →
      K (.tup [.at (vU x), .at (vI (o.getD 0)), .at (vB o.isSome), .at (vU y)]) (chS S') W7
  | _ => False
noncomputable def aSpl (n : Nat) : Ann C0 := { Γ := [(104, frameT [] tOpn), (89, frameT [] (tSpl n)), (91, frameT [] tJoin)] }
def frK (key : Int) (eq : Bool) (q : Int) : Bool := decide (key < q) || (eq && decide (q = key))
def toK (key : Int) (eq : Bool) (q : Int) : Bool := decide (q < key) || (eq && decide (q = key))
def tCut (p : Int → Bool → Int → Bool) (n : Nat) : Tfm C0 := fun args H K => match args with
  | [.at (.ptr 0 0), .at (.val (.int .u32 i)), .at (.val (.int .i64 key)), .at (.val (.bool eq))] => arM H fun S => ∃ hs t, Wf S (i :: hs) ∧ Rep S t i ∧ t.Bal ∧ Asc t.list ∧ t.size < n ∧ t.size ≤ 700000 ∧ 4 * (gN (t.size + 1) : Int) + 1 ≤ S.free ∧ hs.length + t.size ≤ 600000000 ∧ S.reads + (20 * gN (t.size + 1) + 5) ≤ 1600000000000000000 ∧
    ∀ S' x m, m ≤ sB t.size (flt (p key eq) t.list).length → TrR S hs (flt (p key eq) t.list) m (5 * m) S' x → K (.one (.at (vU x))) (chS S') W7
  | _ => False
noncomputable def aFrm (n : Nat) : Ann C0 := { Γ := [(104, frameT [] tOpn), (98, frameT [] (tCut frK n)), (91, frameT [] tJoin), (29, frameT [] tRel)] }
noncomputable def aTo (n : Nat) : Ann C0 := { Γ := [(104, frameT [] tOpn), (96, frameT [] (tCut toK n)), (91, frameT [] tJoin), (29, frameT [] tRel)] }
theorem fr_low {a b : List Ent} {k v q : Int} {eq : Bool} (h : Asc (a ++ (k, v) :: b)) (hq : q < k) : flt (frK q eq) (a ++ (k, v) :: b) = flt (frK q eq) a ++ (k, v) :: b := by
  obtain ⟨_, _, _, h4⟩ := asc_parts h
  exact flt_upR (fun x hx => by have := h4 x hx; simp [frK]; exact .inl (by omega)) (by simp [frK]; exact .inl hq)
theorem fr_high {a b : List Ent} {k v q : Int} {eq : Bool} (h : Asc (a ++ (k, v) :: b)) (hq : k < q) : flt (frK q eq) (a ++ (k, v) :: b) = flt (frK q eq) b := by
  obtain ⟨_, _, h3, _⟩ := asc_parts h
  exact flt_pre (fun x hx => by have := h3 x hx; simp [frK]; exact ⟨by omega, fun _ => by omega⟩) (by simp [frK]; exact ⟨by omega, fun _ => by omega⟩)
theorem fr_at {a b : List Ent} {k v : Int} {eq : Bool} (h : Asc (a ++ (k, v) :: b)) : flt (frK k eq) (a ++ (k, v) :: b) = if eq then (k, v) :: b else b := by
  obtain ⟨_, _, h3, h4⟩ := asc_parts h
  rw [flt_node, flt_none (l := a) (fun x hx => by have := h3 x hx; simp [frK]; exact ⟨by omega, fun _ => by omega⟩), flt_all (l := b) (fun x hx => by have := h4 x hx; simp [frK]; exact .inl (by omega))]
  cases eq <;> simp [frK]
theorem to_high {a b : List Ent} {k v q : Int} {eq : Bool} (h : Asc (a ++ (k, v) :: b)) (hq : k < q) : flt (toK q eq) (a ++ (k, v) :: b) = a ++ (k, v) :: flt (toK q eq) b := by
  obtain ⟨_, _, h3, _⟩ := asc_parts h
  exact flt_upL (fun x hx => by have := h3 x hx; simp [toK]; exact .inl (by omega)) (by simp [toK]; exact .inl hq)
theorem to_low {a b : List Ent} {k v q : Int} {eq : Bool} (h : Asc (a ++ (k, v) :: b)) (hq : q < k) : flt (toK q eq) (a ++ (k, v) :: b) = flt (toK q eq) a := by
  obtain ⟨_, _, _, h4⟩ := asc_parts h
  exact flt_suf (fun x hx => by have := h4 x hx; simp [toK]; exact ⟨by omega, fun _ => by omega⟩) (by simp [toK]; exact ⟨by omega, fun _ => by omega⟩)
theorem to_at {a b : List Ent} {k v : Int} {eq : Bool} (h : Asc (a ++ (k, v) :: b)) : flt (toK k eq) (a ++ (k, v) :: b) = if eq then a ++ [(k, v)] else a := by
  obtain ⟨_, _, h3, h4⟩ := asc_parts h
  rw [flt_node, flt_all (l := a) (fun x hx => by have := h3 x hx; simp [toK]; exact .inl (by omega)), flt_none (l := b) (fun x hx => by have := h4 x hx; simp [toK]; exact ⟨by omega, fun _ => by omega⟩)]
  cases eq <;> simp [toK]
theorem sB_up {l r out : Nat} (h : balN l r) (hz : l + r ≤ 800000) : sB r out + 1 ≤ sB (l + r + 1) out ∧ sB l out + 1 ≤ sB (l + r + 1) out := by
  have h1 := gN_l h hz
  have h2 := gN_r h hz
  unfold sB
  rw [show l + r + 1 + 1 = l + r + 2 by omega]
  omega
theorem sB_join {l r o : Nat} (h : balN l r) (ho : o ≤ l) (hz : l + r ≤ 800000) : sB l o + jB o r ≤ sB (l + r + 1) (o + r + 1) := by
  have h1 := gN_l h hz
  have h2 := jB_part h ho hz
  unfold sB
  rw [show l + r + 1 + 1 = l + r + 2 by omega, show o + r + 1 + 1 = o + r + 2 by omega]
  omega
theorem sB_max {n o : Nat} (h : o ≤ n) (hz : n ≤ 900000) : sB n o ≤ 4 * gN (n + 1) + 1 := by
  have := gN_mono (v := o + 1) (w := n + 1) (by omega) (by omega)
  unfold sB; omega
theorem sB_one (n o : Nat) : 1 ≤ sB n o := by unfold sB; omega
theorem sB_zero {l r : Nat} (hz : l + r ≤ 800000) : jB 0 r ≤ sB (l + r + 1) (r + 1) := by
  have := jB_grow (a := 0) (b := r) (by omega) (by omega) (by omega)
  unfold sB
  rw [show r + 1 + 1 = 0 + r + 2 by omega]
  omega
theorem vc_frm (n : Nat) (S : Arn) (i key : Int) (eq : Bool) (K : KT) (hs : List Int) (t : Tr) (hw : Wf S (i :: hs)) (h1 : Rep S t i) (bal : t.Bal) (asc : Asc t.list) (hfu : t.size < n + 1) (hz : t.size ≤ 700000) (hf : 4 * (gN (t.size + 1) : Int) + 1 ≤ S.free) (hl : hs.length + t.size ≤ 600000000) (hr : S.reads + (20 * gN (t.size + 1) + 5) ≤ 1600000000000000000)
    (h : ∀ S' x m, m ≤ sB t.size (flt (frK key eq) t.list).length → TrR S hs (flt (frK key eq) t.list) m (5 * m) S' x → K (.one (.at (vU x))) (chS S') W7) :
    vc C0 (aFrm n) Try.f98 [.at (.ptr 0 0), .at (vU i), .at (vI key), .at (vB eq)] (chS S) (normK 7 (wideK W7 K)) := by
  refine Eq.mp (show (brS (i == 0) ((K (SV.one (TV.at (At.val (Value.int IntKind.u32 0)))) [(Chunk.box [(At.ptr 1 0), (At.slc 2), (At.slc 3), (At.val (Value.int IntKind.u64 (S.reads)))]), (Chunk.box [(At.slc 4), (At.slc 5), (At.slc 6), (At.val (Value.int IntKind.u32 (S.fresh)))]), (Chunk.row true (EC.node) (S.nodes)), (Chunk.row true (EC.int) (S.counts)), (Chunk.row true (EC.bool) (S.used)), (Chunk.row true (EC.u32) (S.gen)), (Chunk.row true (EC.u32) (S.rel))] [0, 1, 2, 3, 4, 5, 6])) ((∃ hs : List Int, (∃ a : Tr, (∃ k : Int, (∃ v : Int, (∃ b : Tr, ((Wf S (i :: hs)) ∧ (Rep S (a.node k v b) i) ∧ (hs.length ≤ 900000000) ∧ (S.reads ≤ 3000000000000000000) ∧ (∀ S' : Arn, (∀ l : Int, (∀ r : Int, ((OpnR S hs a k v b S' l r) → (brS (decide (k > key)) (((∃ hs1 : List Int, (∃ t : Tr, ((Wf S' (l :: hs1)) ∧ (Rep S' t l) ∧ (t.Bal) ∧ (Asc t.list) ∧ (t.size < n) ∧ (t.size ≤ 700000) ∧ (4 * (↑(gN (t.size + 1)) : Int) + 1 ≤ S'.free) ∧ (hs1.length + t.size ≤ 600000000) ∧ (S'.reads + (20 * (↑(gN (t.size + 1)) : Int) + 5) ≤ 1600000000000000000) ∧ (∀ S'1 : Arn, (∀ x : Int, (∀ m : Nat, ((m ≤ sB t.size (flt (frK key eq) t.list).length) → ((TrR S' hs1 (flt (frK key eq) t.list) m (5 * m) S'1 x) → (∃ hs2 : List Int, (∃ ta : Tr, (∃ tb : Tr, ((Wf S'1 (x :: r :: hs2)) ∧ (Rep S'1 ta x) ∧ (Rep S'1 tb r) ∧ (ta.Bal) ∧ (tb.Bal) ∧ (ta.size + tb.size ≤ 900000) ∧ ((↑(jB ta.size tb.size) : Int) ≤ S'1.free) ∧ (hs2.length ≤ 700000000) ∧ (S'1.reads + 5 * (↑(jB ta.size tb.size) : Int) ≤ 1800000000000000000) ∧ (∀ S'2 : Arn, (∀ i1 : Int,
    ((TrR S'1 hs2 (ta.list ++ (k, v) :: tb.list) (jB ta.size tb.size) (4 * jB ta.size tb.size) S'2 i1) → (((balN (↑ta.size : Int) (↑tb.size : Int)) → ((((S'2.nd i1).left) = (x)) ∧ (((S'2.nd i1).right) = (r)) ∧ ((S'2.nu) = (S'1.nu + 1)))) → (K (SV.one (TV.at (At.val (Value.int IntKind.u32 (i1))))) [(Chunk.box [(At.ptr 1 0), (At.slc 2), (At.slc 3), (At.val (Value.int IntKind.u64 (S'2.reads)))]), (Chunk.box [(At.slc 4), (At.slc 5), (At.slc 6), (At.val (Value.int IntKind.u32 (S'2.fresh)))]), (Chunk.row true (EC.node) (S'2.nodes)), (Chunk.row true (EC.int) (S'2.counts)), (Chunk.row true (EC.bool) (S'2.used)), (Chunk.row true (EC.u32) (S'2.gen)), (Chunk.row true (EC.u32) (S'2.rel))] [0, 1, 2, 3, 4, 5, 6]))))))))))))))))) ∧ (∃ hs1 : List Int, (∃ t : Tr, ((Wf S' (l :: hs1)) ∧ (Rep S' t l) ∧ (t.Bal) ∧ (Asc t.list) ∧ (t.size < n) ∧ (t.size ≤ 700000) ∧ (4 * (↑(gN (t.size + 1)) : Int) + 1 ≤ S'.free) ∧ (hs1.length + t.size ≤ 600000000) ∧ (S'.reads + (20 * (↑(gN (t.size + 1)) : Int) + 5) ≤ 1600000000000000000) ∧ (∀ S'1 : Arn, (∀ x : Int, (∀ m : Nat, ((m ≤ sB t.size (flt (frK key eq) t.list).length) → ((TrR S' hs1 (flt (frK key eq) t.list) m (5 * m) S'1 x) → (∃ hs2 : List Int, (∃ ta : Tr, (∃ tb : Tr, ((Wf S'1 (x :: r :: hs2)) ∧ (Rep S'1 ta x) ∧ (Rep S'1 tb r) ∧ (ta.Bal) ∧ (tb.Bal) ∧ (ta.size + tb.size ≤ 900000) ∧ ((↑(jB ta.size tb.size) : Int) ≤ S'1.free) ∧ (hs2.length ≤ 700000000) ∧ (S'1.reads + 5 * (↑(jB ta.size tb.size) : Int) ≤ 1800000000000000000) ∧ (∀ S'2 : Arn, (∀ i1 : Int,
    ((TrR S'1 hs2 (ta.list ++ (k, v) :: tb.list) (jB ta.size tb.size) (4 * jB ta.size tb.size) S'2 i1) → (((balN (↑ta.size : Int) (↑tb.size : Int)) → ((((S'2.nd i1).left) = (x)) ∧ (((S'2.nd i1).right) = (r)) ∧ ((S'2.nu) = (S'1.nu + 1)))) → (K (SV.one (TV.at (At.val (Value.int IntKind.u32 (i1))))) [(Chunk.box [(At.ptr 1 0), (At.slc 2), (At.slc 3), (At.val (Value.int IntKind.u64 (S'2.reads)))]), (Chunk.box [(At.slc 4), (At.slc 5), (At.slc 6), (At.val (Value.int IntKind.u32 (S'2.fresh)))]), (Chunk.row true (EC.node) (S'2.nodes)), (Chunk.row true (EC.int) (S'2.counts)), (Chunk.row true (EC.bool) (S'2.used)), (Chunk.row true (EC.u32) (S'2.gen)), (Chunk.row true (EC.u32) (S'2.rel))] [0, 1, 2, 3, 4, 5, 6]))))))))))))))))))) ((brS (decide (k < key)) ((∃ hs1 : List Int, ((Wf S' (l :: hs1)) ∧ (∀ S'1 : Arn, (∀ fr : Int, ((Wf S'1 hs1) → ((Kept S' S'1) → (∃ hs2 : List Int, (∃ t : Tr, ((Wf S'1 (r :: hs2)) ∧ (Rep S'1 t r) ∧ (t.Bal) ∧ (Asc t.list) ∧ (t.size < n) ∧ (t.size ≤ 700000) ∧ (4 * (↑(gN (t.size + 1)) : Int) + 1 ≤ S'1.free) ∧ (hs2.length + t.size ≤ 600000000) ∧ (S'1.reads + (20 * (↑(gN (t.size + 1)) : Int) + 5) ≤ 1600000000000000000) ∧ (∀ S'2 : Arn, (∀ x : Int, (∀ m : Nat, ((m ≤ sB t.size (flt (frK key eq) t.list).length) → ((TrR S'1 hs2 (flt (frK key eq) t.list) m (5 * m) S'2 x) →
    (K (SV.one (TV.at (At.val (Value.int IntKind.u32 (x))))) [(Chunk.box [(At.ptr 1 0), (At.slc 2), (At.slc 3), (At.val (Value.int IntKind.u64 (S'2.reads)))]), (Chunk.box [(At.slc 4), (At.slc 5), (At.slc 6), (At.val (Value.int IntKind.u32 (S'2.fresh)))]), (Chunk.row true (EC.node) (S'2.nodes)), (Chunk.row true (EC.int) (S'2.counts)), (Chunk.row true (EC.bool) (S'2.used)), (Chunk.row true (EC.u32) (S'2.gen)), (Chunk.row true (EC.u32) (S'2.rel))] [0, 1, 2, 3, 4, 5, 6])))))))))))))))) ((∃ hs1 : List Int, ((Wf S' (l :: hs1)) ∧ (∀ S'1 : Arn, (∀ fr : Int, ((Wf S'1 hs1) → ((Kept S' S'1) → (brS (!eq) ((K (SV.one (TV.at (At.val (Value.int IntKind.u32 (r))))) [(Chunk.box [(At.ptr 1 0), (At.slc 2), (At.slc 3), (At.val (Value.int IntKind.u64 (S'1.reads)))]), (Chunk.box [(At.slc 4), (At.slc 5), (At.slc 6), (At.val (Value.int IntKind.u32 (S'1.fresh)))]), (Chunk.row true (EC.node) (S'1.nodes)), (Chunk.row true (EC.int) (S'1.counts)), (Chunk.row true (EC.bool) (S'1.used)), (Chunk.row true (EC.u32) (S'1.gen)), (Chunk.row true (EC.u32) (S'1.rel))] [0, 1, 2, 3, 4, 5, 6])) ((∃ hs2 : List Int, (∃ ta : Tr, (∃ tb : Tr, ((Wf S'1 (0 :: r :: hs2)) ∧ (Rep S'1 ta 0) ∧ (Rep S'1 tb r) ∧ (ta.Bal) ∧ (tb.Bal) ∧ (ta.size + tb.size ≤ 900000) ∧ ((↑(jB ta.size tb.size) : Int) ≤ S'1.free) ∧ (hs2.length ≤ 700000000) ∧ (S'1.reads + 5 * (↑(jB ta.size tb.size) : Int) ≤ 1800000000000000000) ∧ (∀ S'2 : Arn, (∀ i1 : Int, ((TrR S'1 hs2 (ta.list ++ (k, v) :: tb.list) (jB ta.size tb.size) (4 * jB ta.size tb.size) S'2 i1) →
    (((balN (↑ta.size : Int) (↑tb.size : Int)) → ((((S'2.nd i1).left) = 0) ∧ (((S'2.nd i1).right) = (r)) ∧ ((S'2.nu) = (S'1.nu + 1)))) → (K (SV.one (TV.at (At.val (Value.int IntKind.u32 (i1))))) [(Chunk.box [(At.ptr 1 0), (At.slc 2), (At.slc 3), (At.val (Value.int IntKind.u64 (S'2.reads)))]), (Chunk.box [(At.slc 4), (At.slc 5), (At.slc 6), (At.val (Value.int IntKind.u32 (S'2.fresh)))]), (Chunk.row true (EC.node) (S'2.nodes)), (Chunk.row true (EC.int) (S'2.counts)), (Chunk.row true (EC.bool) (S'2.used)), (Chunk.row true (EC.u32) (S'2.gen)), (Chunk.row true (EC.u32) (S'2.rel))] [0, 1, 2, 3, 4, 5, 6]))))))))))))))))))))))))))))))))) = _ by kernel_rfl) ?_
  have hrd := hw.rds
  refine brS_of (fun d => ?_) fun d => ?_
  · have d : i = 0 := by simpa using d
    subst d
    have e := h1.zero hw
    subst e
    exact h S 0 0 (Nat.zero_le _) ⟨Got.refl hw, .nil, rfl, rfl, trivial⟩
  · have d : i ≠ 0 := by simpa using d
    obtain ⟨a, k1, v1, b, e⟩ := rep_ne h1 d
    subst e
    have zz := node_size a b k1 v1
    rw [zz] at hfu hz hf hl hr h
    obtain ⟨bb, ba, bbb⟩ := bal
    have asc' : Asc (a.list ++ (k1, v1) :: b.list) := asc
    have h' : ∀ S' x m, m ≤ sB (a.size + b.size + 1) (flt (frK key eq) (a.list ++ (k1, v1) :: b.list)).length → TrR S hs (flt (frK key eq) (a.list ++ (k1, v1) :: b.list)) m (5 * m) S' x → K (.one (.at (vU x))) (chS S') W7 := h
    rw [show a.size + b.size + 1 + 1 = a.size + b.size + 2 by omega] at hf hr
    obtain ⟨asca, ascb, ltk, gtk⟩ := asc_parts asc'
    have ga := gN_l bb (by omega)
    have gb := gN_r bb (by omega)
    refine ⟨hs, a, k1, v1, b, hw, h1, by omega, by omega, fun S1 l r o => ?_⟩
    have f1 := o.got.free hw
    have q1 := o.got.rd
    refine brS_of (fun d => ?_) fun d => brS_of (fun e => ?_) fun e => ?_
    · have d : key < k1 := of_decide_eq_true d
      (repeat' apply And.intro)
      all_goals
        refine ⟨r :: hs, a, o.got.wf, o.repl, ba, asca, by omega, by omega, by omega, by simp; omega, by omega, fun S2 x m hm tr => ?_⟩
        obtain ⟨t, rt, lt, bt⟩ := tr.tree
        have l2 : t.size ≤ a.size := by rw [← t.list_len, lt]; have := flt_len (p := frK key eq) (l := a.list); rw [a.list_len] at this; exact this
        have l3 : (flt (frK key eq) a.list).length = t.size := by rw [← lt, t.list_len]
        rw [l3] at hm
        have sj := sB_join bb l2 (by omega)
        have sm := sB_max (n := a.size + b.size + 1) (o := t.size + b.size + 1) (by omega) (by omega)
        rw [show a.size + b.size + 1 + 1 = a.size + b.size + 2 by omega] at sm
        have jq := jB_pos t.size b.size
        have f2 := tr.got.free o.got.wf
        have q2 := tr.got.rd
        refine ⟨hs, t, b, tr.got.wf, rt, o.repr.held o.got.wf tr.got.stay (.inr (by simp)), bt, bbb, by omega, by omega, by omega, by omega, fun S3 q tj _ => h' S3 q (m + jB t.size b.size) ?_ ⟨?_, ?_⟩⟩
        · rw [fr_low asc' d, List.length_append, List.length_cons, l3, b.list_len]
          exact Nat.le_trans (by omega) sj
        · exact ((o.got.seq tr.got (h := hs) (fun _ h => h) (fun _ h => by simp [h])).seq tj.got (fun _ h => h) (fun _ h => h)).mono (by omega) (by omega)
        · obtain ⟨t', rt', lt', bt'⟩ := tj.tree
          exact ⟨t', rt', by rw [lt', lt, fr_low asc' d], bt'⟩
    · have e : k1 < key := of_decide_eq_true e
      refine ⟨r :: hs, o.got.wf, fun S2 fr w2 kp => ?_⟩
      have g2 := rel_got o.got.wf w2 kp
      have f2 := g2.free o.got.wf
      have q2 := g2.rd
      have rb : Rep S2 b r := o.repr.held o.got.wf g2.stay (.inr (by simp))
      refine ⟨hs, b, w2, rb, bbb, ascb, by omega, by omega, by omega, by omega, by omega, fun S3 x m hm tr => h' S3 x (m + 1) ?_ ⟨?_, ?_⟩⟩
      · rw [fr_high asc' e]
        exact Nat.le_trans (Nat.succ_le_succ hm) (sB_up bb (by omega)).1
      · exact ((o.got.seq g2 (h := hs) (fun _ h => h) (fun _ h => by simp [h])).seq tr.got (fun _ h => h) (fun _ h => h)).mono (by omega) (by omega)
      · rw [fr_high asc' e]; exact tr.tree
    · have d : ¬ key < k1 := of_decide_eq_false d
      have e : ¬ k1 < key := of_decide_eq_false e
      have ek : key = k1 := by omega
      subst ek
      refine ⟨r :: hs, o.got.wf, fun S2 fr w2 kp => ?_⟩
      have g2 := rel_got o.got.wf w2 kp
      have f2 := g2.free o.got.wf
      have q2 := g2.rd
      have rb : Rep S2 b r := o.repr.held o.got.wf g2.stay (.inr (by simp))
      have g12 : Got S hs 0 1 S2 (r :: hs) := (o.got.seq g2 (h := hs) (fun _ h => h) (fun _ h => by simp [h])).mono (by omega) (by omega)
      refine brS_of (fun c => ?_) fun c => ?_
      · have c : eq = false := by simpa using c
        subst c
        exact h' S2 r 1 (sB_one _ _) ⟨g12.mono (by omega) (by omega), b, rb, by rw [fr_at asc']; rfl, bbb⟩
      · have c : eq = true := by simpa using c
        subst c
        have sz := sB_zero (l := a.size) (r := b.size) (by omega)
        have sm := sB_max (n := a.size + b.size + 1) (o := b.size + 1) (by omega) (by omega)
        rw [show a.size + b.size + 1 + 1 = a.size + b.size + 2 by omega] at sm
        have jq := jB_pos 0 b.size
        have zn : Tr.nil.size = 0 := rfl
        refine ⟨hs, .nil, b, w2.zero_cons (by simp; omega), rfl, rb, trivial, bbb, by omega, by rw [zn]; omega, by omega, by rw [zn]; omega, fun S3 q tj _ => h' S3 q (jB 0 b.size) ?_ ⟨?_, ?_⟩⟩
        · rw [fr_at asc', if_pos rfl, List.length_cons, b.list_len]; exact sz
        · exact (g12.seq tj.got (h := hs) (fun _ h => h) (fun _ h => h)).mono (by rw [zn]; omega) (by rw [zn]; omega)
        · obtain ⟨t', rt', lt', bt'⟩ := tj.tree
          exact ⟨t', rt', by rw [lt', fr_at asc', if_pos rfl]; rfl, bt'⟩
theorem s_frm : ∀ n, SoundT C0 98 (tCut frK n) := by
  intro n
  induction n with
  | zero =>
    refine .of Try.func98 (by decide) rfl fun args H K h hB => ?_
    exfalso
    unfold tCut at h
    split at h <;> try exact h.elim
    unfold arM at h
    split at h <;> try exact h.elim
    obtain ⟨_, _, _, _, _, _, h1, _⟩ := h
    omega
  | succ n ih =>
    refine .ofW W7 Try.func98 (by decide) rfl fun args H K h hB => ?_
    unfold tCut at h
    split at h <;> try exact h.elim
    unfold arM at h
    split at h <;> try exact h.elim
    rename_i i key eq _ rd fr nd ct us gn rl
    obtain ⟨hs, t, h1, h2, h3, h4, h5, h6, h7, h8, h9, h10⟩ := h
    exact ⟨aFrm n, ⟨frame C0.ok s_opn _, frame C0.ok ih _, frame C0.ok s_join _, frame C0.ok s_rel _, trivial⟩, vc_frm n ⟨us, gn, rl, fr, nd, ct, rd⟩ i key eq K hs t h1 h2 h3 h4 h5 h6 h7 h8 h9 h10⟩
theorem vc_to (n : Nat) (S : Arn) (i key : Int) (eq : Bool) (K : KT) (hs : List Int) (t : Tr) (hw : Wf S (i :: hs)) (h1 : Rep S t i) (bal : t.Bal) (asc : Asc t.list) (hfu : t.size < n + 1) (hz : t.size ≤ 700000) (hf : 4 * (gN (t.size + 1) : Int) + 1 ≤ S.free) (hl : hs.length + t.size ≤ 600000000) (hr : S.reads + (20 * gN (t.size + 1) + 5) ≤ 1600000000000000000)
    (h : ∀ S' x m, m ≤ sB t.size (flt (toK key eq) t.list).length → TrR S hs (flt (toK key eq) t.list) m (5 * m) S' x → K (.one (.at (vU x))) (chS S') W7) :
    vc C0 (aTo n) Try.f96 [.at (.ptr 0 0), .at (vU i), .at (vI key), .at (vB eq)] (chS S) (normK 7 (wideK W7 K)) := by
  refine Eq.mp (show (brS (i == 0) ((K (SV.one (TV.at (At.val (Value.int IntKind.u32 0)))) [(Chunk.box [(At.ptr 1 0), (At.slc 2), (At.slc 3), (At.val (Value.int IntKind.u64 (S.reads)))]), (Chunk.box [(At.slc 4), (At.slc 5), (At.slc 6), (At.val (Value.int IntKind.u32 (S.fresh)))]), (Chunk.row true (EC.node) (S.nodes)), (Chunk.row true (EC.int) (S.counts)), (Chunk.row true (EC.bool) (S.used)), (Chunk.row true (EC.u32) (S.gen)), (Chunk.row true (EC.u32) (S.rel))] [0, 1, 2, 3, 4, 5, 6])) ((∃ hs : List Int, (∃ a : Tr, (∃ k : Int, (∃ v : Int, (∃ b : Tr, ((Wf S (i :: hs)) ∧ (Rep S (a.node k v b) i) ∧ (hs.length ≤ 900000000) ∧ (S.reads ≤ 3000000000000000000) ∧ (∀ S' : Arn, (∀ l : Int, (∀ r : Int, ((OpnR S hs a k v b S' l r) → (brS (decide (k < key)) (((∃ hs1 : List Int, (∃ t : Tr, ((Wf S' (r :: hs1)) ∧ (Rep S' t r) ∧ (t.Bal) ∧ (Asc t.list) ∧ (t.size < n) ∧ (t.size ≤ 700000) ∧ (4 * (↑(gN (t.size + 1)) : Int) + 1 ≤ S'.free) ∧ (hs1.length + t.size ≤ 600000000) ∧ (S'.reads + (20 * (↑(gN (t.size + 1)) : Int) + 5) ≤ 1600000000000000000) ∧ (∀ S'1 : Arn, (∀ x : Int, (∀ m : Nat, ((m ≤ sB t.size (flt (toK key eq) t.list).length) → ((TrR S' hs1 (flt (toK key eq) t.list) m (5 * m) S'1 x) → (∃ hs2 : List Int, (∃ ta : Tr, (∃ tb : Tr, ((Wf S'1 (l :: x :: hs2)) ∧ (Rep S'1 ta l) ∧ (Rep S'1 tb x) ∧ (ta.Bal) ∧ (tb.Bal) ∧ (ta.size + tb.size ≤ 900000) ∧ ((↑(jB ta.size tb.size) : Int) ≤ S'1.free) ∧ (hs2.length ≤ 700000000) ∧ (S'1.reads + 5 * (↑(jB ta.size tb.size) : Int) ≤ 1800000000000000000) ∧ (∀ S'2 : Arn, (∀ i1 : Int,
    ((TrR S'1 hs2 (ta.list ++ (k, v) :: tb.list) (jB ta.size tb.size) (4 * jB ta.size tb.size) S'2 i1) → (((balN (↑ta.size : Int) (↑tb.size : Int)) → ((((S'2.nd i1).left) = (l)) ∧ (((S'2.nd i1).right) = (x)) ∧ ((S'2.nu) = (S'1.nu + 1)))) → (K (SV.one (TV.at (At.val (Value.int IntKind.u32 (i1))))) [(Chunk.box [(At.ptr 1 0), (At.slc 2), (At.slc 3), (At.val (Value.int IntKind.u64 (S'2.reads)))]), (Chunk.box [(At.slc 4), (At.slc 5), (At.slc 6), (At.val (Value.int IntKind.u32 (S'2.fresh)))]), (Chunk.row true (EC.node) (S'2.nodes)), (Chunk.row true (EC.int) (S'2.counts)), (Chunk.row true (EC.bool) (S'2.used)), (Chunk.row true (EC.u32) (S'2.gen)), (Chunk.row true (EC.u32) (S'2.rel))] [0, 1, 2, 3, 4, 5, 6]))))))))))))))))) ∧ (∃ hs1 : List Int, (∃ t : Tr, ((Wf S' (r :: hs1)) ∧ (Rep S' t r) ∧ (t.Bal) ∧ (Asc t.list) ∧ (t.size < n) ∧ (t.size ≤ 700000) ∧ (4 * (↑(gN (t.size + 1)) : Int) + 1 ≤ S'.free) ∧ (hs1.length + t.size ≤ 600000000) ∧ (S'.reads + (20 * (↑(gN (t.size + 1)) : Int) + 5) ≤ 1600000000000000000) ∧ (∀ S'1 : Arn, (∀ x : Int, (∀ m : Nat, ((m ≤ sB t.size (flt (toK key eq) t.list).length) → ((TrR S' hs1 (flt (toK key eq) t.list) m (5 * m) S'1 x) → (∃ hs2 : List Int, (∃ ta : Tr, (∃ tb : Tr, ((Wf S'1 (l :: x :: hs2)) ∧ (Rep S'1 ta l) ∧ (Rep S'1 tb x) ∧ (ta.Bal) ∧ (tb.Bal) ∧ (ta.size + tb.size ≤ 900000) ∧ ((↑(jB ta.size tb.size) : Int) ≤ S'1.free) ∧ (hs2.length ≤ 700000000) ∧ (S'1.reads + 5 * (↑(jB ta.size tb.size) : Int) ≤ 1800000000000000000) ∧ (∀ S'2 : Arn, (∀ i1 : Int,
    ((TrR S'1 hs2 (ta.list ++ (k, v) :: tb.list) (jB ta.size tb.size) (4 * jB ta.size tb.size) S'2 i1) → (((balN (↑ta.size : Int) (↑tb.size : Int)) → ((((S'2.nd i1).left) = (l)) ∧ (((S'2.nd i1).right) = (x)) ∧ ((S'2.nu) = (S'1.nu + 1)))) → (K (SV.one (TV.at (At.val (Value.int IntKind.u32 (i1))))) [(Chunk.box [(At.ptr 1 0), (At.slc 2), (At.slc 3), (At.val (Value.int IntKind.u64 (S'2.reads)))]), (Chunk.box [(At.slc 4), (At.slc 5), (At.slc 6), (At.val (Value.int IntKind.u32 (S'2.fresh)))]), (Chunk.row true (EC.node) (S'2.nodes)), (Chunk.row true (EC.int) (S'2.counts)), (Chunk.row true (EC.bool) (S'2.used)), (Chunk.row true (EC.u32) (S'2.gen)), (Chunk.row true (EC.u32) (S'2.rel))] [0, 1, 2, 3, 4, 5, 6]))))))))))))))))))) ((brS (decide (k > key)) ((∃ hs1 : List Int, ((Wf S' (r :: hs1)) ∧ (∀ S'1 : Arn, (∀ fr : Int, ((Wf S'1 hs1) → ((Kept S' S'1) → (∃ hs2 : List Int, (∃ t : Tr, ((Wf S'1 (l :: hs2)) ∧ (Rep S'1 t l) ∧ (t.Bal) ∧ (Asc t.list) ∧ (t.size < n) ∧ (t.size ≤ 700000) ∧ (4 * (↑(gN (t.size + 1)) : Int) + 1 ≤ S'1.free) ∧ (hs2.length + t.size ≤ 600000000) ∧ (S'1.reads + (20 * (↑(gN (t.size + 1)) : Int) + 5) ≤ 1600000000000000000) ∧ (∀ S'2 : Arn, (∀ x : Int, (∀ m : Nat, ((m ≤ sB t.size (flt (toK key eq) t.list).length) → ((TrR S'1 hs2 (flt (toK key eq) t.list) m (5 * m) S'2 x) →
    (K (SV.one (TV.at (At.val (Value.int IntKind.u32 (x))))) [(Chunk.box [(At.ptr 1 0), (At.slc 2), (At.slc 3), (At.val (Value.int IntKind.u64 (S'2.reads)))]), (Chunk.box [(At.slc 4), (At.slc 5), (At.slc 6), (At.val (Value.int IntKind.u32 (S'2.fresh)))]), (Chunk.row true (EC.node) (S'2.nodes)), (Chunk.row true (EC.int) (S'2.counts)), (Chunk.row true (EC.bool) (S'2.used)), (Chunk.row true (EC.u32) (S'2.gen)), (Chunk.row true (EC.u32) (S'2.rel))] [0, 1, 2, 3, 4, 5, 6])))))))))))))))) ((∃ hs1 : List Int, ((Wf S' (r :: hs1)) ∧ (∀ S'1 : Arn, (∀ fr : Int, ((Wf S'1 hs1) → ((Kept S' S'1) → (brS (!eq) ((K (SV.one (TV.at (At.val (Value.int IntKind.u32 (l))))) [(Chunk.box [(At.ptr 1 0), (At.slc 2), (At.slc 3), (At.val (Value.int IntKind.u64 (S'1.reads)))]), (Chunk.box [(At.slc 4), (At.slc 5), (At.slc 6), (At.val (Value.int IntKind.u32 (S'1.fresh)))]), (Chunk.row true (EC.node) (S'1.nodes)), (Chunk.row true (EC.int) (S'1.counts)), (Chunk.row true (EC.bool) (S'1.used)), (Chunk.row true (EC.u32) (S'1.gen)), (Chunk.row true (EC.u32) (S'1.rel))] [0, 1, 2, 3, 4, 5, 6])) ((∃ hs2 : List Int, (∃ ta : Tr, (∃ tb : Tr, ((Wf S'1 (l :: 0 :: hs2)) ∧ (Rep S'1 ta l) ∧ (Rep S'1 tb 0) ∧ (ta.Bal) ∧ (tb.Bal) ∧ (ta.size + tb.size ≤ 900000) ∧ ((↑(jB ta.size tb.size) : Int) ≤ S'1.free) ∧ (hs2.length ≤ 700000000) ∧ (S'1.reads + 5 * (↑(jB ta.size tb.size) : Int) ≤ 1800000000000000000) ∧ (∀ S'2 : Arn, (∀ i1 : Int, ((TrR S'1 hs2 (ta.list ++ (k, v) :: tb.list) (jB ta.size tb.size) (4 * jB ta.size tb.size) S'2 i1) →
    (((balN (↑ta.size : Int) (↑tb.size : Int)) → ((((S'2.nd i1).left) = (l)) ∧ (((S'2.nd i1).right) = 0) ∧ ((S'2.nu) = (S'1.nu + 1)))) → (K (SV.one (TV.at (At.val (Value.int IntKind.u32 (i1))))) [(Chunk.box [(At.ptr 1 0), (At.slc 2), (At.slc 3), (At.val (Value.int IntKind.u64 (S'2.reads)))]), (Chunk.box [(At.slc 4), (At.slc 5), (At.slc 6), (At.val (Value.int IntKind.u32 (S'2.fresh)))]), (Chunk.row true (EC.node) (S'2.nodes)), (Chunk.row true (EC.int) (S'2.counts)), (Chunk.row true (EC.bool) (S'2.used)), (Chunk.row true (EC.u32) (S'2.gen)), (Chunk.row true (EC.u32) (S'2.rel))] [0, 1, 2, 3, 4, 5, 6]))))))))))))))))))))))))))))))))) = _ by kernel_rfl) ?_
  have hrd := hw.rds
  refine brS_of (fun d => ?_) fun d => ?_
  · have d : i = 0 := by simpa using d
    subst d
    have e := h1.zero hw
    subst e
    exact h S 0 0 (Nat.zero_le _) ⟨Got.refl hw, .nil, rfl, rfl, trivial⟩
  · have d : i ≠ 0 := by simpa using d
    obtain ⟨a, k1, v1, b, e⟩ := rep_ne h1 d
    subst e
    have zz := node_size a b k1 v1
    rw [zz] at hfu hz hf hl hr h
    obtain ⟨bb, ba, bbb⟩ := bal
    have asc' : Asc (a.list ++ (k1, v1) :: b.list) := asc
    have h' : ∀ S' x m, m ≤ sB (a.size + b.size + 1) (flt (toK key eq) (a.list ++ (k1, v1) :: b.list)).length → TrR S hs (flt (toK key eq) (a.list ++ (k1, v1) :: b.list)) m (5 * m) S' x → K (.one (.at (vU x))) (chS S') W7 := h
    rw [show a.size + b.size + 1 + 1 = a.size + b.size + 2 by omega] at hf hr
    obtain ⟨asca, ascb, ltk, gtk⟩ := asc_parts asc'
    have ga := gN_l bb (by omega)
    have gb := gN_r bb (by omega)
    refine ⟨hs, a, k1, v1, b, hw, h1, by omega, by omega, fun S1 l r o => ?_⟩
    have f1 := o.got.free hw
    have q1 := o.got.rd
    have w1 : Wf S1 (r :: l :: hs) := o.got.wf.perm (List.Perm.swap _ _ _)
    refine brS_of (fun d => ?_) fun d => brS_of (fun e => ?_) fun e => ?_
    · have d : k1 < key := of_decide_eq_true d
      (repeat' apply And.intro)
      all_goals
        refine ⟨l :: hs, b, w1, o.repr, bbb, ascb, by omega, by omega, by omega, by simp; omega, by omega, fun S2 x m hm tr => ?_⟩
        obtain ⟨t, rt, lt, bt⟩ := tr.tree
        have l2 : t.size ≤ b.size := by rw [← t.list_len, lt]; have := flt_len (p := toK key eq) (l := b.list); rw [b.list_len] at this; exact this
        have l3 : (flt (toK key eq) b.list).length = t.size := by rw [← lt, t.list_len]
        rw [l3] at hm
        have sj := sB_join (balN_comm bb) l2 (by omega)
        rw [jB_comm, show b.size + a.size + 1 = a.size + b.size + 1 by omega] at sj
        have sm := sB_max (n := a.size + b.size + 1) (o := t.size + a.size + 1) (by omega) (by omega)
        rw [show a.size + b.size + 1 + 1 = a.size + b.size + 2 by omega] at sm
        have jq := jB_pos a.size t.size
        have f2 := tr.got.free o.got.wf
        have q2 := tr.got.rd
        refine ⟨hs, a, t, tr.got.wf.perm (List.Perm.swap _ _ _), o.repl.held o.got.wf tr.got.stay (.inr (by simp)), rt, ba, bt, by omega, by omega, by omega, by omega, fun S3 q tj _ => h' S3 q (m + jB a.size t.size) ?_ ⟨?_, ?_⟩⟩
        · rw [to_high asc' d, List.length_append, List.length_cons, l3, a.list_len, show a.size + (t.size + 1) = t.size + a.size + 1 by omega]
          exact Nat.le_trans (by omega) sj
        · exact ((o.got.seq tr.got (h := hs) (fun _ h => h) (fun _ h => by simp [h])).seq tj.got (fun _ h => h) (fun _ h => h)).mono (by omega) (by omega)
        · obtain ⟨t', rt', lt', bt'⟩ := tj.tree
          exact ⟨t', rt', by rw [lt', lt, to_high asc' d], bt'⟩
    · have e : key < k1 := of_decide_eq_true e
      refine ⟨l :: hs, w1, fun S2 fr w2 kp => ?_⟩
      have g2 := rel_got w1 w2 kp
      have f2 := g2.free w1
      have q2 := g2.rd
      have ra : Rep S2 a l := o.repl.held o.got.wf g2.stay (.inr (by simp))
      refine ⟨hs, a, w2, ra, ba, asca, by omega, by omega, by omega, by omega, by omega, fun S3 x m hm tr => h' S3 x (m + 1) ?_ ⟨?_, ?_⟩⟩
      · rw [to_low asc' e]
        exact Nat.le_trans (Nat.succ_le_succ hm) (sB_up bb (by omega)).2
      · exact ((o.got.seq g2 (h := hs) (fun _ h => h) (fun _ h => by simp [h])).seq tr.got (fun _ h => h) (fun _ h => h)).mono (by omega) (by omega)
      · rw [to_low asc' e]; exact tr.tree
    · have d : ¬ k1 < key := of_decide_eq_false d
      have e : ¬ key < k1 := of_decide_eq_false e
      have ek : key = k1 := by omega
      subst ek
      refine ⟨l :: hs, w1, fun S2 fr w2 kp => ?_⟩
      have g2 := rel_got w1 w2 kp
      have f2 := g2.free w1
      have q2 := g2.rd
      have ra : Rep S2 a l := o.repl.held o.got.wf g2.stay (.inr (by simp))
      have g12 : Got S hs 0 1 S2 (l :: hs) := (o.got.seq g2 (h := hs) (fun _ h => h) (fun _ h => by simp [h])).mono (by omega) (by omega)
      refine brS_of (fun c => ?_) fun c => ?_
      · have c : eq = false := by simpa using c
        subst c
        exact h' S2 l 1 (sB_one _ _) ⟨g12.mono (by omega) (by omega), a, ra, by rw [to_at asc']; rfl, ba⟩
      · have c : eq = true := by simpa using c
        subst c
        have sz := sB_zero (l := b.size) (r := a.size) (by omega)
        rw [show b.size + a.size + 1 = a.size + b.size + 1 by omega, jB_comm] at sz
        have sm := sB_max (n := a.size + b.size + 1) (o := a.size + 1) (by omega) (by omega)
        rw [show a.size + b.size + 1 + 1 = a.size + b.size + 2 by omega] at sm
        have jq := jB_pos a.size 0
        have zn : Tr.nil.size = 0 := rfl
        refine ⟨hs, a, .nil, (w2.zero_cons (by simp; omega)).perm (List.Perm.swap _ _ _), ra, rfl, ba, trivial, by omega, by rw [zn]; omega, by omega, by rw [zn]; omega, fun S3 q tj _ => h' S3 q (jB a.size 0) ?_ ⟨?_, ?_⟩⟩
        · rw [to_at asc', if_pos rfl, List.length_append, a.list_len]; exact sz
        · exact (g12.seq tj.got (h := hs) (fun _ h => h) (fun _ h => h)).mono (by rw [zn]; omega) (by rw [zn]; omega)
        · obtain ⟨t', rt', lt', bt'⟩ := tj.tree
          exact ⟨t', rt', by rw [lt', to_at asc', if_pos rfl]; rfl, bt'⟩
theorem s_to : ∀ n, SoundT C0 96 (tCut toK n) := by
  intro n
  induction n with
  | zero =>
    refine .of Try.func96 (by decide) rfl fun args H K h hB => ?_
    exfalso
    unfold tCut at h
    split at h <;> try exact h.elim
    unfold arM at h
    split at h <;> try exact h.elim
    obtain ⟨_, _, _, _, _, _, h1, _⟩ := h
    omega
  | succ n ih =>
    refine .ofW W7 Try.func96 (by decide) rfl fun args H K h hB => ?_
    unfold tCut at h
    split at h <;> try exact h.elim
    unfold arM at h
    split at h <;> try exact h.elim
    rename_i i key eq _ rd fr nd ct us gn rl
    obtain ⟨hs, t, h1, h2, h3, h4, h5, h6, h7, h8, h9, h10⟩ := h
    exact ⟨aTo n, ⟨frame C0.ok s_opn _, frame C0.ok ih _, frame C0.ok s_join _, frame C0.ok s_rel _, trivial⟩, vc_to n ⟨us, gn, rl, fr, nd, ct, rd⟩ i key eq K hs t h1 h2 h3 h4 h5 h6 h7 h8 h9 h10⟩
end Go.Proofs.Ytjbkckcjmmmooaa.Sx
end
section
/- The greatest height of a balanced tree, and few reads. -/
namespace Go.Proofs.Ytjbkckcjmmmooaa.Sx
open Go

/-KEEP Wf exW inU wtsL-/
noncomputable def aWts : Ann C0 := { Γ := [], rounds := fun n => if n = 4 then 82 else 0 }
def tWts : Tfm C0 := fun args H K => match args, H with
  | [], [] => K (.one (.agg (wtsL.map fun n => vI n))) [] []
  | _, _ => False
def wC : Nat → Int → Prop → Prop
  | 0, _, Q => Q
  | n + 1, h, Q => (0 ≤ IntKind.i64.wrap (h - 1)) ∧ (IntKind.i64.wrap (h - 1) < ((81 : Nat) : Int)) ∧ (0 ≤ IntKind.i64.wrap (h - 1)) ∧ (IntKind.i64.wrap (h - 1) < ((81 : Nat) : Int)) ∧ (0 ≤ h) ∧ (h < ((81 : Nat) : Int)) ∧ wC n (IntKind.i64.wrap (h + 1)) Q
noncomputable def aMh : Ann C0 := { Γ := [(107, frameT [] tWts)], rounds := fun n => if n = 5 then 82 else 0 }
def mhC (k : Int) (Q : Int → Prop) : List Int → Int → Prop
  | [], h => Q h
  | w :: l, h => (0 ≤ IntKind.i64.wrap (h + 1)) ∧ (IntKind.i64.wrap (h + 1) < ((81 : Nat) : Int)) ∧ brS (decide (IntKind.i64.wrap (w - 1) ≤ k)) (mhC k Q l (IntKind.i64.wrap (h + 1))) (Q h)
def tMh : Tfm C0 := fun args H K => match args, H with
  | [.at (.val (.int .i64 k))], [] => 0 ≤ k ∧ k ≤ 2147483647 ∧ ∀ h, h = Hn k → K (.one (.at (vI h))) [] []
  | _, _ => False
noncomputable def aHt : Ann C0 := { Γ := [(73, frameT [] tMh)] }
noncomputable def aWi : Ann C0 := { Γ := [(19, frameT [] tReads)] }
def tWi : Tfm C0 := fun args H K => match args with
  | [.at (.ptr 0 0), .at (.val (.int .u64 r)), .at (.val (.int .i64 m))] => arM H fun S => 0 ≤ r ∧ r ≤ S.reads ∧ S.reads ≤ 4000000000000000000 ∧ S.reads - r ≤ m ∧ m ≤ 4000000000000000000 ∧ K (.one (.at (vB true))) (chS S) []
  | _ => False
end Go.Proofs.Ytjbkckcjmmmooaa.Sx
end
section
/- reserve, ref8: how many slots an operation may need; lookup.Get. -/
namespace Go.Proofs.Ytjbkckcjmmmooaa.Sx
open Go

/-KEEP okI Wf exW inU live Rep rdS Tr.size Tr.list getE Asc ht wt Hn-/
theorem htr_size : ∀ t : Tr, ht t ≤ t.size
  | .nil => Nat.le_refl _
  | .node l k v r => by
    have h1 := htr_size l
    have h2 := htr_size r
    rw [ht, Tr.size]
    split <;> omega
structure XGe (S : Arn) (t : Tr) (q : Int) where
  i : Int
  t' : Tr
  m : Nat
  h : Rep S t' i ∧ getE t.list q = getE t'.list q ∧ Asc t'.list ∧ m + ht t' ≤ ht t ∧ t'.size ≤ t.size
noncomputable def aGetT (S : Arn) (t : Tr) (q : Int) : Ann C0 := { Γ := [(49, frameT [] tNode)], inv := fun n => match n with
  | 2 => some { X := XGe S t q, sl := [8], tf := fun x => [vi .u32 x.i], hf := fun x => chS (rdS S x.m), μ := fun x => x.t'.size, wr := [0] }
  | _ => none }
def tGetT : Tfm C0 := fun args H K => match args with
  | [.at (.ptr 0 0), .at (.val (.int .u32 i)), .at (.val (.int .i64 q))] => arM H fun S => ∃ hs t, Wf S hs ∧ Rep S t i ∧ Asc t.list ∧ t.size ≤ 1000000 ∧ S.reads + t.size ≤ 3000000000000000000 ∧
    ∀ S' m o, S' = rdS S m → m ≤ ht t → o = getE t.list q → K (.tup [.at (vI (o.getD 0)), .at (vB o.isSome)]) (chS S') [0]
  | _ => False
structure XMx (n : Int) where
  h : Nat
  p : h ≤ 80 ∧ wt h ≤ n + 1
noncomputable def aMxh (n : Int) : Ann C0 := { Γ := [], inv := fun k => match k with
  | 4 => some { X := XMx n, sl := [3, 4], tf := fun x => [vi .i64 x.h, vi .i64 (wt x.h)], hf := fun _ => [], μ := fun x => 80 - x.h }
  | _ => none }
def tMxh : Tfm C0 := fun args H K => match args, H with
  | [.at (.val (.int .i64 n))], [] => 0 ≤ n ∧ n ≤ 1000000 ∧ ∀ h, h = Hn n → K (.one (.at (vI h))) [] []
  | _, _ => False
def okI (l : List Int) : Prop := ∀ i : Nat, i < l.length → 0 ≤ l.getD i 0 ∧ l.getD i 0 ≤ 65536
structure XVd (l : List Int) where
  i : Nat
  h : i ≤ l.length
noncomputable def aVld (l : List Int) : Ann C0 := { Γ := [], inv := fun k => match k with
  | 2 => some { X := XVd l, sl := [7], tf := fun x => [vi .i64 x.i], hf := fun _ => [.row false EC.int l], μ := fun x => l.length - x.i }
  | _ => none }
def tVld : Tfm C0 := fun args H K => match args, H with
  | [.at (.slc 0)], [.row false .int l] => okI l ∧ l.length ≤ 100 ∧ K (.one (.at (vB true))) [.row false EC.int l] []
  | _, _ => False
noncomputable def aPath : Ann C0 := { Γ := [(127, frameT [] tMxh)] }
def tPath : Tfm C0 := fun args H K => match args, H with
  | [.at (.val (.int .i64 f)), .at (.val (.int .i64 n))], [] => 0 ≤ f ∧ f ≤ 100 ∧ 0 ≤ n ∧ n ≤ 1000000 ∧ ∀ p, p = f * (Hn n + 2) → K (.one (.at (vI p))) [] []
  | _, _ => False
noncomputable def aRes : Ann C0 := { Γ := [(102, frameT [] tVld), (103, frameT [] tPath)] }
def tRes1 (f d : Int) : Tfm C0 := fun args H K => match args, H with
  | [.at (.val (.int .i64 n))], [] => 0 ≤ n ∧ n ≤ 65536 ∧ ∀ p, p = f * (Hn (n + d) + 2) → K (.one (.at (vI p))) [] []
  | _, _ => False
def tRes2 : Tfm C0 := fun args H K => match args, H with
  | [.at (.val (.int .i64 n)), .at (.val (.int .i64 m))], [] => 0 ≤ n ∧ n ≤ 65536 ∧ 0 ≤ m ∧ m ≤ 65536 ∧ ∀ p, p = 4 * (Hn (n + m + 1) + 2) → K (.one (.at (vI p))) [] []
  | _, _ => False
noncomputable def aNeed : Ann C0 := { Γ := [(73, frameT [] tMh)] }
def tNeed : Tfm C0 := fun args H K => match args, H with
  | [.at (.val (.int .i64 a)), .at (.val (.int .i64 b)), .at (.val (.int .i64 c)), .at (.val (.int .i64 m)), .at (.val (.int .i64 e)), .at (.val (.int .i64 f))], [] => 0 ≤ a ∧ a ≤ 65536 ∧ 0 ≤ b ∧ b ≤ 65536 ∧ 0 ≤ c ∧ c ≤ 65536 ∧ 0 ≤ m ∧ m ≤ 10 ∧ 0 ≤ e ∧ e ≤ 200000 ∧ 0 ≤ f ∧ f ≤ 100 ∧ ∀ p, p = e + f * (Hn (a + b + c + m) + 2) → K (.one (.at (vI p))) [] []
  | _, _ => False
noncomputable def aN8 : Ann C0 := { Γ := [(63, frameT [] tNeed)] }
theorem tdiv3 {x : Int} (h : 0 ≤ x) : x.tdiv 3 = x / 3 := Int.tdiv_eq_ediv_of_nonneg h
theorem Hn_top {n : Int} (h : 0 ≤ n) {k : Nat} (h1 : k ≤ 80) (h2 : wt k ≤ n + 1) (h3 : k = 80 ∨ n + 1 < wt (k + 1)) : (k : Int) = Hn n := by
  have e := gN_size n.toNat
  rw [show ((n.toNat : Nat) : Int) = n by omega] at e
  have a := gN_le (w := n.toNat + 1) h1 (by omega)
  have b := gN_wt (w := n.toNat + 1) (by omega)
  have c := gN_rng (n.toNat + 1)
  rcases h3 with h3 | h3
  · omega
  · by_cases d : k + 1 ≤ gN (n.toNat + 1)
    · have := wt_mono d c; omega
    · omega
theorem vc_mxh (n : Int) (K : KT) (h1 : 0 ≤ n) (h2 : n ≤ 1000000) (h : ∀ h, h = Hn n → K (.one (.at (vI h))) [] []) : vc C0 (aMxh n) Try.f127 [.at (vI n)] [] (normK 0 K) := by
  refine Eq.mp (show (brS (decide (n < 0)) ((K (SV.one (TV.at (At.val (Value.int IntKind.i64 (-1))))) [] [])) ((brS (decide (n > 2147483647)) ((K (SV.one (TV.at (At.val (Value.int IntKind.i64 (-1))))) [] [])) (((∃ x : XMx n, (True ∧ (((Value.int IntKind.i64 (n)) = (Value.int IntKind.i64 (n))) ∧ ((Value.int IntKind.i64 0) = (Value.int IntKind.i64 ((↑x.h : Int)))) ∧ ((Value.int IntKind.i64 1) = (Value.int IntKind.i64 (wt x.h))) ∧ True) ∧ True)) ∧ (∀ x : XMx n, (True → (brS (decide ((↑x.h : Int) < 80)) ((brS (decide (IntKind.i64.wrap (IntKind.i64.wrap (wt x.h + IntKind.i64.wrap ((IntKind.i64.wrap (wt x.h + 2)).tdiv 3)) - 1) > n)) ((K (SV.one (TV.at (At.val (Value.int IntKind.i64 ((↑x.h : Int)))))) [] [])) ((∃ x' : XMx n, (True ∧ ((((Value.int IntKind.i64 (n)) = (Value.int IntKind.i64 (n))) ∧ ((Value.int IntKind.i64 (IntKind.i64.wrap ((↑x.h : Int) + 1))) = (Value.int IntKind.i64 ((↑x'.h : Int)))) ∧ ((Value.int IntKind.i64 (IntKind.i64.wrap (wt x.h + IntKind.i64.wrap ((IntKind.i64.wrap (wt x.h + 2)).tdiv 3)))) = (Value.int IntKind.i64 (wt x'.h))) ∧ True) ∧ True) ∧ (80 - x'.h < 80 - x.h)))))) ((K (SV.one (TV.at (At.val (Value.int IntKind.i64 ((↑x.h : Int)))))) [] [])))))))))) = _ by kernel_rfl) ?_
  refine brS_of (fun c => by have := of_decide_eq_true c; omega) fun _ => brS_of (fun c => by have : n > 2147483647 := of_decide_eq_true c; omega) fun _ => ⟨⟨⟨0, by decide, by rw [w0]; omega⟩, ?_⟩, fun x _ => brS_of (fun c => ?_) fun c => ?_⟩
  · (repeat' first | exact trivial | exact rfl | refine And.intro ?_ ?_)
  · obtain ⟨k, p1, p2⟩ := x
    have c : (k : Int) < 80 := of_decide_eq_true c
    have c : k < 80 := by omega
    have st := wt_step k c
    have lo : 1 ≤ wt k := by have := wt_mono (Nat.zero_le k) p1; rw [w0] at this; exact this
    dsimp only
    rw [wrap_id (x := wt k + 2) (by omega) (by omega), tdiv3 (by omega), wrap_id (x := (wt k + 2) / 3) (by omega) (by omega), wrap_id (x := wt k + (wt k + 2) / 3) (by omega) (by omega), wrap_id (x := wt k + (wt k + 2) / 3 - 1) (by omega) (by omega), ← st]
    refine brS_of (fun d => ?_) fun d => ?_
    · have d : wt (k + 1) - 1 > n := of_decide_eq_true d
      exact h _ (Hn_top h1 p1 p2 (.inr (by omega)))
    · have d : ¬ wt (k + 1) - 1 > n := of_decide_eq_false d
      refine ⟨⟨k + 1, c, by omega⟩, ?_⟩
      (repeat' first | exact trivial | exact rfl | refine And.intro ?_ ?_)
      · rw [wrap_id (x := (k : Int) + 1) (by omega) (by omega)]; congr 1
      · show 80 - (k + 1) < 80 - k; omega
  · obtain ⟨k, p1, p2⟩ := x
    have c : ¬ (k : Int) < 80 := of_decide_eq_false c
    have c : k = 80 := by omega
    exact h _ (Hn_top h1 p1 p2 (.inl c))
theorem s_mxh : SoundT C0 127 tMxh := by
  refine .of Try.func127 (by decide) rfl fun args H K h hB => ?_
  unfold tMxh at h
  split at h <;> try exact h.elim
  rename_i n
  exact ⟨aMxh n, trivial, vc_mxh n K h.1 h.2.1 h.2.2⟩
theorem vc_vld (l : List Int) (K : KT) (h1 : okI l) (h2 : l.length ≤ 100) (h : K (.one (.at (vB true))) [.row false EC.int l] []) : vc C0 (aVld l) Try.f102 [.at (.slc 0)] [.row false EC.int l] (normK 1 K) := by
  refine Eq.mp (show ((∃ x : XVd l, (True ∧ (True ∧ ((Value.int IntKind.i64 ((↑l.length : Int))) = (Value.int IntKind.i64 ((↑l.length : Int)))) ∧ ((Value.int IntKind.i64 0) = (Value.int IntKind.i64 ((↑x.i : Int)))) ∧ True) ∧ ((l) = (l)) ∧ True)) ∧
(∀ x : XVd l, (True → (brS (decide ((↑x.i : Int) < (↑l.length : Int))) (((0 ≤ (↑x.i : Int)) ∧ ((↑x.i : Int) < (↑l.length : Int)) ∧ (brS (decide (l.getD (↑x.i : Int).toNat 0 < 0)) ((K (SV.one (TV.at (At.val (Value.bool false)))) [(Chunk.row false (EC.int) (l))] [])) ((brS (decide (l.getD (↑x.i : Int).toNat 0 > 65536)) ((K (SV.one (TV.at (At.val (Value.bool false)))) [(Chunk.row false (EC.int) (l))] [])) ((∃ x' : XVd l, (True ∧ ((True ∧ ((Value.int IntKind.i64 ((↑l.length : Int))) = (Value.int IntKind.i64 ((↑l.length : Int)))) ∧ ((Value.int IntKind.i64 (IntKind.i64.wrap ((↑x.i : Int) + 1))) = (Value.int IntKind.i64 ((↑x'.i : Int)))) ∧ True) ∧ ((l) = (l)) ∧ True) ∧ (l.length - x'.i < l.length - x.i))))))))) ((K (SV.one (TV.at (At.val (Value.bool true)))) [(Chunk.row false (EC.int) (l))] [])))))) = _ by kernel_rfl) ?_
  refine ⟨⟨⟨0, Nat.zero_le _⟩, ?_⟩, fun x _ => brS_of (fun c => ?_) fun c => h⟩
  · (repeat' first | exact trivial | exact rfl | refine And.intro ?_ ?_)
  · obtain ⟨i, hi⟩ := x
    have c : (i : Int) < l.length := of_decide_eq_true c
    have c : i < l.length := by omega
    obtain ⟨a, b⟩ := h1 i c
    refine ⟨by omega, by omega, brS_of (fun d => ?_) fun _ => brS_of (fun d => ?_) fun _ => ⟨⟨i + 1, c⟩, ?_⟩⟩
    · have d : l.getD i 0 < 0 := of_decide_eq_true d
      omega
    · have d : l.getD i 0 > 65536 := of_decide_eq_true d
      omega
    · (repeat' first | exact trivial | exact rfl | refine And.intro ?_ ?_)
      · rw [wrap_id (x := (i : Int) + 1) (by omega) (by omega)]; congr 1
      · show l.length - (i + 1) < l.length - i; omega
theorem s_vld : SoundT C0 102 tVld := by
  refine .of Try.func102 (by decide) rfl fun args H K h hB => ?_
  unfold tVld at h
  split at h <;> try exact h.elim
  rename_i l
  exact ⟨aVld l, trivial, vc_vld l K h.1 h.2.1 h.2.2⟩
theorem s_path : SoundT C0 103 tPath := by
  refine .of Try.func103 (by decide) rfl fun args H K h hB => ?_
  unfold tPath at h
  split at h <;> try exact h.elim
  rename_i f n
  obtain ⟨h1, h2, h3, h4, h5⟩ := h
  refine ⟨aPath, ⟨frame C0.ok s_mxh _, trivial⟩, Eq.mp (show ((0 ≤ n) ∧
(n ≤ 1000000) ∧
(∀ h : Int, (((h) = (Hn n)) → (K (SV.one (TV.at (At.val (Value.int IntKind.i64 (IntKind.i64.wrap (f * IntKind.i64.wrap (h + 2))))))) [] [])))) = _ by kernel_rfl) ⟨h3, h4, fun p e => ?_⟩⟩
  have r := Hn_rng n
  subst e
  have hb : f * (Hn n + 2) ≤ 100 * 82 := Int.mul_le_mul h2 (by omega) (by omega) (by omega)
  have ha : 0 ≤ f * (Hn n + 2) := Int.mul_nonneg h1 (by omega)
  rw [wrap_id (x := Hn n + 2) (by omega) (by omega), wrap_id (x := f * (Hn n + 2)) (by omega) (by omega)]
  exact h5 _ rfl
theorem okI_one {n : Int} (h1 : 0 ≤ n) (h2 : n ≤ 65536) : okI [n] := by
  intro i hi
  have : i = 0 := by simpa using hi
  subst this
  exact ⟨h1, h2⟩
theorem okI_two {n m : Int} (h1 : 0 ≤ n) (h2 : n ≤ 65536) (h3 : 0 ≤ m) (h4 : m ≤ 65536) : okI [n, m] := by
  intro i hi
  match i, hi with
  | 0, _ => exact ⟨h1, h2⟩
  | 1, _ => exact ⟨h3, h4⟩
  | i + 2, hi => simp at hi; omega
theorem s_rSpl : SoundT C0 88 (tRes1 12 0) := by
  refine .of Try.func88 (by decide) rfl fun args H K h hB => ?_
  unfold tRes1 at h
  split at h <;> try exact h.elim
  rename_i n
  obtain ⟨h1, h2, h3⟩ := h
  refine ⟨aRes, ⟨frame C0.ok s_vld _, frame C0.ok s_path _, trivial⟩, Eq.mp (show ((okI [n]) ∧
([n].length ≤ 100) ∧
((0 : Int) ≤ 12) ∧
((12 : Int) ≤ 100) ∧
(0 ≤ n) ∧
(n ≤ 1000000) ∧
(∀ p : Int, (((p) = (12 * (Hn n + 2))) → (K (SV.one (TV.at (At.val (Value.int IntKind.i64 (p))))) [] [])))) = _ by kernel_rfl) ?_⟩
  exact ⟨okI_one h1 h2, by simp, by decide, by decide, by omega, by omega, fun p e => h3 p (by rw [e, Int.add_zero])⟩
theorem s_rJn : SoundT C0 116 tRes2 := by
  refine .of Try.func116 (by decide) rfl fun args H K h hB => ?_
  unfold tRes2 at h
  split at h <;> try exact h.elim
  rename_i n m
  obtain ⟨h1, h2, h3, h4, h5⟩ := h
  refine ⟨aRes, ⟨frame C0.ok s_vld _, frame C0.ok s_path _, trivial⟩, Eq.mp (show ((okI [n, m]) ∧
([n, m].length ≤ 100) ∧
((0 : Int) ≤ 4) ∧
((4 : Int) ≤ 100) ∧
(0 ≤ IntKind.i64.wrap (IntKind.i64.wrap (n + m) + 1)) ∧
(IntKind.i64.wrap (IntKind.i64.wrap (n + m) + 1) ≤ 1000000) ∧
(∀ p : Int, (((p) = (4 * (Hn (IntKind.i64.wrap (IntKind.i64.wrap (n + m) + 1)) + 2))) → (K (SV.one (TV.at (At.val (Value.int IntKind.i64 (p))))) [] [])))) = _ by kernel_rfl) ?_⟩
  rw [wrap_id (x := n + m) (by omega) (by omega), wrap_id (x := n + m + 1) (by omega) (by omega)]
  exact ⟨okI_two h1 h2 h3 h4, by simp, by decide, by decide, by omega, by omega, h5⟩
end Go.Proofs.Ytjbkckcjmmmooaa.Sx
end
section
/- update.Insert, Delete, Increase. -/
namespace Go.Proofs.Ytjbkckcjmmmooaa.Sx
open Go

/-KEEP Wf exW inU live Arn.free Rep rdS retL Tr.size Tr.list Tr.Bal getE Asc ht Hn gN iB dB insE flt neK hasK TrR Got-/
def tIn : Tfm C0 := fun args H K => match args with
  | [.at (.ptr 0 0), .at (.val (.int .u32 i)), .agg [.val (.int .i64 k), .val (.int .i64 v)]] => arM H fun S => ∃ hs t, Wf S (i :: hs) ∧ Rep S t i ∧ t.Bal ∧ Asc t.list ∧ t.size ≤ 700000 ∧ (iB t.size : Int) ≤ S.free ∧ hs.length ≤ 500000000 ∧ S.reads + 5 * iB t.size ≤ 1600000000000000000 ∧
    ∀ S' j, TrR S hs (insE t.list (k, v)) (iB t.size) (5 * iB t.size) S' j → K (.one (.at (vU j))) (chS S') W7
  | _ => False
def tDe : Tfm C0 := fun args H K => match args with
  | [.at (.ptr 0 0), .at (.val (.int .u32 i)), .at (.val (.int .i64 key))] => arM H fun S => ∃ hs t, Wf S (i :: hs) ∧ Rep S t i ∧ t.Bal ∧ Asc t.list ∧ t.size ≤ 700000 ∧ hasK t.list key ∧ (dB t.size : Int) ≤ S.free ∧ hs.length ≤ 200000000 ∧ S.reads + 5 * dB t.size ≤ 1500000000000000000 ∧
    ∀ S' j, TrR S hs (flt (neK key) t.list) (dB t.size) (5 * dB t.size) S' j → K (.one (.at (vU j))) (chS S') W7
  | _ => False
/-- What an update of a held tree starts from. -/
def upM (S : Arn) (hs : List Int) (t : Tr) (root : Int) : Prop := Wf S hs ∧ Rep S t root ∧ t.Bal ∧ Asc t.list ∧ t.size ≤ 60000 ∧ hs.length ≤ 100000000 ∧ S.reads ≤ 1000000000000000000
noncomputable def aUpI : Ann C0 := { Γ := [(65, frameT [] tGetT), (69, frameT [] tHold), (61, frameT [] tSize), (70, frameT [] (tRes1 4 1)), (66, frameT [] tRoom), (71, frameT [] tIn)] }
def tUpI : Tfm C0 := fun args H K => match args with
  | [.at (.ptr 0 0), .at (.val (.int .u32 r)), .agg [.val (.int .i64 k), .val (.int .i64 v)]] => arM H fun S => ∃ hs t, upM S hs t r ∧
    (getE t.list k = some v → ∀ S' m, S' = retL (rdS S m) r → m ≤ ht t → K (.tup [.at (vU r), .at (vI v), .at (vB true), .at (vI 0)]) (chS S') W7) ∧
    (getE t.list k ≠ some v → S.free < 4 * (Hn (t.size + 1) + 2) → ∀ S' m, S' = rdS S m → m ≤ ht t + 1 → K (.tup [.at (vU 0), .at (vI 0), .at (vB false), .at (vI 2)]) (chS S') W7) ∧
    (getE t.list k ≠ some v → 4 * (Hn (t.size + 1) + 2) ≤ S.free → ∀ S' j (o : Option Int), o = getE t.list k → TrR S hs (insE t.list (k, v)) (iB t.size) (5 * iB t.size + ht t + 1) S' j → K (.tup [.at (vU j), .at (vI (o.getD 0)), .at (vB o.isSome), .at (vI 0)]) (chS S') W7)
  | _ => False
noncomputable def aUpD : Ann C0 := { Γ := [(65, frameT [] tGetT), (69, frameT [] tHold), (61, frameT [] tSize), (67, frameT [] (tRes1 4 0)), (66, frameT [] tRoom), (68, frameT [] tDe)] }
def tUpD : Tfm C0 := fun args H K => match args with
  | [.at (.ptr 0 0), .at (.val (.int .u32 r)), .at (.val (.int .i64 k))] => arM H fun S => ∃ hs t, upM S hs t r ∧
    (getE t.list k = none → ∀ S' m, S' = rdS S m → m ≤ ht t → K (.tup [.at (vU 0), .at (vI 0), .at (vI 4)]) (chS S') W7) ∧
    (∀ v, getE t.list k = some v → S.free < 4 * (Hn t.size + 2) → ∀ S' m, S' = rdS S m → m ≤ ht t + 1 → K (.tup [.at (vU 0), .at (vI 0), .at (vI 2)]) (chS S') W7) ∧
    (∀ v, getE t.list k = some v → 4 * (Hn t.size + 2) ≤ S.free → ∀ S' j, TrR S hs (flt (neK k) t.list) (dB t.size) (5 * dB t.size + ht t + 1) S' j → K (.tup [.at (vU j), .at (vI v), .at (vI 0)]) (chS S') W7)
  | _ => False
theorem Hn_mono1 (n : Nat) : Hn n ≤ Hn ((n : Int) + 1) := by
  have a := gN_size n
  have b := gN_size (n + 1)
  have c := gN_mono (v := n + 1) (w := n + 1 + 1) (by omega) (by omega)
  rw [show ((n + 1 : Nat) : Int) = (n : Int) + 1 by omega] at b
  omega
theorem us_one (b : Bool) : b.toNat ≤ 1 := by cases b <;> decide
/-! ### Where there is room -/
def tUpIn : Tfm C0 := fun args H K => match args with
  | [.at (.ptr 0 0), .at (.val (.int .u32 r)), .agg [.val (.int .i64 k), .val (.int .i64 v)]] => arM H fun S => ∃ hs t, upM S hs t r ∧ 4 * (Hn (t.size + 1) + 2) ≤ S.free ∧
    ∀ S' j (o : Option Int), o = getE t.list k → TrR S hs (insE t.list (k, v)) (iB t.size) (5 * iB t.size + ht t + 1) S' j → K (.tup [.at (vU j), .at (vI (o.getD 0)), .at (vB o.isSome), .at (vI 0)]) (chS S') W7
  | _ => False
theorem hold_tr {S S' : Arn} {hs : List Int} {t : Tr} {r : Int} {m a b : Nat} {L : List Ent} (w : Wf S hs) (rp : Rep S t r) (bal : t.Bal) (hl : hs.length ≤ 900000000) (hr : S.reads + m ≤ 4000000000000000000) (e : S' = retL (rdS S m) r) (hb : m ≤ b) (hL : t.list = L) : TrR S hs L a b S' r := by
  have g := Got.rds (hs := hs) w hr
  have rp1 : Rep (rdS S m) t r := rep_rd rp m
  have g2 := retL_got (hs := hs) g.wf rp1.us (by omega)
  rw [← e] at g2
  exact ⟨(g.seq g2 (h := hs) (fun _ h => h) (fun _ h => h)).mono (by omega) (by omega), t, by rw [e]; exact rp1.retL, hL, bal⟩
def tUpDe : Tfm C0 := fun args H K => match args with
  | [.at (.ptr 0 0), .at (.val (.int .u32 r)), .at (.val (.int .i64 k))] => arM H fun S => ∃ hs t v, upM S hs t r ∧ getE t.list k = some v ∧ 4 * (Hn t.size + 2) ≤ S.free ∧
    ∀ S' j, TrR S hs (flt (neK k) t.list) (dB t.size) (5 * dB t.size + ht t + 1) S' j → K (.tup [.at (vU j), .at (vI v), .at (vI 0)]) (chS S') W7
  | _ => False
end Go.Proofs.Ytjbkckcjmmmooaa.Sx
end
section
/- Listing trees. -/
namespace Go.Proofs.Ytjbkckcjmmmooaa.Sx
open Go

/-KEEP Wf exW inU live Arn.cap Arn.free maxSize mkNode makeS relA nxt NodeR BuildR Rep lk pl rdS Tr.size-/
abbrev chL (lim : Int) (S : Arn) (out : List Ent) : List (Chunk C0) := [.box [.ptr 1 0, .slc 2, vI lim], .box [.ptr 3 0, .slc 4, .slc 5, vU64 S.reads], .row true EC.ent out, .box [.slc 6, .slc 7, .slc 8, vU S.fresh], .row true EC.node S.nodes, .row true EC.int S.counts, .row true EC.bool S.used, .row true EC.u32 S.gen, .row true EC.u32 S.rel]
def lsM (H : List (Chunk C0)) (k : Int → Arn → List Ent → Prop) : Prop := match H with
  | [.box [.ptr 1 0, .slc 2, .val (.int .i64 lim)], .box [.ptr 3 0, .slc 4, .slc 5, .val (.int .u64 rd)], .row true .ent out, .box [.slc 6, .slc 7, .slc 8, .val (.int .u32 fr)], .row true .node nd, .row true .int ct, .row true .bool us, .row true .u32 gn, .row true .u32 rl] => k lim ⟨us, gn, rl, fr, nd, ct, rd⟩ out
  | _ => False
def tFull : Tfm C0 := fun args H K => match args with
  | [.at (.ptr 0 0)] => lsM H fun lim S out => K (.one (.at (vB (decide (lim ≤ (out.length : Int)))))) (chL lim S out) []
  | _ => False
def room (lim : Int) (out : List Ent) : Nat := (lim - out.length).toNat
def tLk (n : Nat) : Tfm C0 := fun args H K => match args with
  | [.at (.ptr 0 0), .at (.val (.int .u32 i)), .at (.val (.int .i64 lo)), .at (.val (.int .i64 hi))] => lsM H fun lim S out => ∃ hs t, Wf S hs ∧ Rep S t i ∧ t.size < n ∧ t.size ≤ 1000000 ∧ out.length + t.size ≤ 3000000 ∧ S.reads + t.size ≤ 3000000000000000000 ∧
    ∀ S' out', S' = rdS S (lk t lo hi (room lim out)).2 → out' = out ++ (lk t lo hi (room lim out)).1 → K (.tup []) (chL lim S' out') [0, 1, 2]
  | _ => False
structure XSt (P : Arn → List Ent → Prop) where
  S : Arn
  out : List Ent
  h : P S out
noncomputable def aLk (n : Nat) (lim : Int) (nd : NodeT) (P1 P2 : Arn → List Ent → Prop) : Ann C0 := { Γ := [(136, frameT [] tFull), (49, frameT [] tNode), (124, frameT [] (tLk n))], inv := fun k => match k with
  | 1005 => some { X := XSt P1, sl := [8], tf := fun _ => [.one (.at (.ptr 9 0))], hf := fun x => chL lim x.S x.out ++ [bxN nd], wr := [0, 1, 2] }
  | 1007 => some { X := XSt P2, sl := [8], tf := fun _ => [.one (.at (.ptr 9 0))], hf := fun x => chL lim x.S x.out ++ [bxN nd], wr := [0, 1, 2] }
  | _ => none }
def tPl (n : Nat) : Tfm C0 := fun args H K => match args with
  | [.at (.ptr 0 0), .at (.val (.int .u32 i)), .at (.val (.int .i64 x)), .at (.val (.int .i64 y))] => lsM H fun lim S out => ∃ hs t, Wf S hs ∧ Rep S t i ∧ t.size < n ∧ t.size ≤ 1000000 ∧ out.length + t.size ≤ 3000000 ∧ S.reads + 2 * t.size ≤ 3000000000000000000 ∧ 0 ≤ x ∧ y ≤ t.size ∧
    ∀ S' out', S' = rdS S (pl t x y).2 → out' = out ++ (pl t x y).1 → K (.tup []) (chL lim S' out') [0, 1, 2]
  | _ => False
theorem vc_full (lim : Int) (S : Arn) (out : List Ent) (K : KT) (h : K (.one (.at (vB (decide (lim ≤ (out.length : Int)))))) (chL lim S out) []) :
    vc C0 A0 Try.f136 [.at (.ptr 0 0)] (chL lim S out) (normK 9 K) := Eq.mp (show (K (SV.one (TV.at (At.val (Value.bool (decide ((↑out.length : Int) ≥ lim)))))) [(Chunk.box [(At.ptr 1 0), (At.slc 2), (At.val (Value.int IntKind.i64 (lim)))]), (Chunk.box [(At.ptr 3 0), (At.slc 4), (At.slc 5), (At.val (Value.int IntKind.u64 (S.reads)))]), (Chunk.row true (EC.ent) (out)), (Chunk.box [(At.slc 6), (At.slc 7), (At.slc 8), (At.val (Value.int IntKind.u32 (S.fresh)))]), (Chunk.row true (EC.node) (S.nodes)), (Chunk.row true (EC.int) (S.counts)), (Chunk.row true (EC.bool) (S.used)), (Chunk.row true (EC.u32) (S.gen)), (Chunk.row true (EC.u32) (S.rel))] []) = _ by kernel_rfl) h
theorem s_full : SoundT C0 136 tFull := by
  refine .of Try.func136 (by decide) rfl fun args H K h hB => ?_
  unfold tFull at h
  split at h <;> try exact h.elim
  unfold lsM at h
  split at h <;> try exact h.elim
  rename_i lim rd out fr nd ct us gn rl
  exact ⟨A0, trivial, vc_full lim ⟨us, gn, rl, fr, nd, ct, rd⟩ out K h⟩
def lkA (t : Tr) (lo hi : Int) (rm : Nat) : List Ent × Nat := match t with
  | .nil => ([], 0)
  | .node l k _ _ => if lo < k then lk l lo hi rm else ([], 0)
def lkB (t : Tr) (lo hi : Int) (rm : Nat) : List Ent := match t with
  | .nil => []
  | .node _ k v _ => if lo ≤ k ∧ k ≤ hi ∧ (lkA t lo hi rm).1.length < rm then [(k, v)] else []
theorem vc_lk (n : Nat) (lim : Int) (S : Arn) (out : List Ent) (i lo hi : Int) (K : KT) (hs : List Int) (t : Tr) (hw : Wf S hs) (hr : Rep S t i) (h1 : t.size < n + 1) (h2 : t.size ≤ 1000000) (h3 : out.length + t.size ≤ 3000000) (h4 : S.reads + t.size ≤ 3000000000000000000)
    (h : ∀ S' out', S' = rdS S (lk t lo hi (room lim out)).2 → out' = out ++ (lk t lo hi (room lim out)).1 → K (.tup []) (chL lim S' out') [0, 1, 2]) :
    vc C0 (aLk n lim (S.nd i) (fun S1 o1 => S1 = rdS S (1 + (lkA t lo hi (room lim out)).2) ∧ o1 = out ++ (lkA t lo hi (room lim out)).1) (fun S1 o1 => S1 = rdS S (1 + (lkA t lo hi (room lim out)).2) ∧ o1 = out ++ ((lkA t lo hi (room lim out)).1 ++ lkB t lo hi (room lim out))))
      Try.f124 [.at (.ptr 0 0), .at (vU i), .at (vI lo), .at (vI hi)] (chL lim S out) (normK 9 (wideK [0, 1, 2] K)) := by
  generalize hP1 : (fun S1 o1 => S1 = rdS S (1 + (lkA t lo hi (room lim out)).2) ∧ o1 = out ++ (lkA t lo hi (room lim out)).1) = P1
  generalize hP2 : (fun S1 o1 => S1 = rdS S (1 + (lkA t lo hi (room lim out)).2) ∧ o1 = out ++ ((lkA t lo hi (room lim out)).1 ++ lkB t lo hi (room lim out))) = P2
  refine Eq.mp (show (brS (i == 0) ((K (SV.tup []) [(Chunk.box [(At.ptr 1 0), (At.slc 2), (At.val (Value.int IntKind.i64 (lim)))]), (Chunk.box [(At.ptr 3 0), (At.slc 4), (At.slc 5), (At.val (Value.int IntKind.u64 (S.reads)))]), (Chunk.row true (EC.ent) (out)), (Chunk.box [(At.slc 6), (At.slc 7), (At.slc 8), (At.val (Value.int IntKind.u32 (S.fresh)))]), (Chunk.row true (EC.node) (S.nodes)), (Chunk.row true (EC.int) (S.counts)), (Chunk.row true (EC.bool) (S.used)), (Chunk.row true (EC.u32) (S.gen)), (Chunk.row true (EC.u32) (S.rel))] [0, 1, 2])) ((brS (decide (lim ≤ (↑out.length : Int))) ((K (SV.tup []) [(Chunk.box [(At.ptr 1 0), (At.slc 2), (At.val (Value.int IntKind.i64 (lim)))]), (Chunk.box [(At.ptr 3 0), (At.slc 4), (At.slc 5), (At.val (Value.int IntKind.u64 (S.reads)))]), (Chunk.row true (EC.ent) (out)), (Chunk.box [(At.slc 6), (At.slc 7), (At.slc 8), (At.val (Value.int IntKind.u32 (S.fresh)))]), (Chunk.row true (EC.node) (S.nodes)), (Chunk.row true (EC.int) (S.counts)), (Chunk.row true (EC.bool) (S.used)), (Chunk.row true (EC.u32) (S.gen)), (Chunk.row true (EC.u32) (S.rel))] [0, 1, 2])) (((inU i) ∧ (exW S) ∧ (S.reads < 4000000000000000000) ∧ (∀ S' : Arn, (((S') = (rdS S (S.us i).toNat)) → (brS (!S.us i)
    ((K (SV.tup []) [(Chunk.box [(At.ptr 1 0), (At.slc 2), (At.val (Value.int IntKind.i64 (lim)))]), (Chunk.box [(At.ptr 3 0), (At.slc 4), (At.slc 5), (At.val (Value.int IntKind.u64 (S'.reads)))]), (Chunk.row true (EC.ent) (out)), (Chunk.box [(At.slc 6), (At.slc 7), (At.slc 8), (At.val (Value.int IntKind.u32 (S'.fresh)))]), (Chunk.row true (EC.node) (S'.nodes)), (Chunk.row true (EC.int) (S'.counts)), (Chunk.row true (EC.bool) (S'.used)), (Chunk.row true (EC.u32) (S'.gen)), (Chunk.row true (EC.u32) (S'.rel))] [0, 1, 2])) (((brS (decide ((S.nd i).key > lo)) ((∃ hs : List Int, (∃ t : Tr, ((Wf S' hs) ∧ (Rep S' t (S.nd i).left) ∧ (t.size < n) ∧ (t.size ≤ 1000000) ∧ (out.length + t.size ≤ 3000000) ∧ (S'.reads + (↑t.size : Int) ≤ 3000000000000000000) ∧ (∀ S'1 : Arn, (∀ out' : List Ent, (((S'1) = (rdS S' (lk t lo hi (room lim out)).snd)) → (((out') = (out ++ (lk t lo hi (room lim out)).fst)) → (∃ x : XSt P1, (True ∧ (True ∧ ((Value.int IntKind.i64 (lo)) = (Value.int IntKind.i64 (lo))) ∧ ((Value.int IntKind.i64 (hi)) = (Value.int IntKind.i64 (hi))) ∧ True ∧ True) ∧ (True ∧ True ∧ ((Value.int IntKind.i64 (lim)) = (Value.int IntKind.i64 (lim))) ∧ True) ∧ (True ∧ True ∧ True ∧ ((Value.int IntKind.u64 (S'1.reads)) = (Value.int IntKind.u64 (x.S.reads))) ∧ True) ∧ ((out') = (x.out)) ∧ (True ∧ True ∧ True ∧ ((Value.int IntKind.u32 (S'1.fresh)) = (Value.int IntKind.u32 (x.S.fresh))) ∧ True) ∧ ((S'1.nodes) = (x.S.nodes)) ∧ ((S'1.counts) = (x.S.counts)) ∧ ((S'1.used) = (x.S.used)) ∧
    ((S'1.gen) = (x.S.gen)) ∧ ((S'1.rel) = (x.S.rel)) ∧ (((Value.int IntKind.i64 ((S.nd i).key)) = (Value.int IntKind.i64 ((S.nd i).key))) ∧ ((Value.int IntKind.i64 ((S.nd i).value)) = (Value.int IntKind.i64 ((S.nd i).value))) ∧ ((Value.int IntKind.u32 ((S.nd i).left)) = (Value.int IntKind.u32 ((S.nd i).left))) ∧ ((Value.int IntKind.u32 ((S.nd i).right)) = (Value.int IntKind.u32 ((S.nd i).right))) ∧ ((Value.int IntKind.i64 ((S.nd i).size)) = (Value.int IntKind.i64 ((S.nd i).size))) ∧ ((Value.int IntKind.i64 ((S.nd i).sum)) = (Value.int IntKind.i64 ((S.nd i).sum))) ∧ ((Value.int IntKind.i64 ((S.nd i).min)) = (Value.int IntKind.i64 ((S.nd i).min))) ∧ ((Value.int IntKind.i64 ((S.nd i).max)) = (Value.int IntKind.i64 ((S.nd i).max))) ∧ True) ∧ True)))))))))) ((∃ x : XSt P1, (True ∧ (True ∧ ((Value.int IntKind.i64 (lo)) = (Value.int IntKind.i64 (lo))) ∧ ((Value.int IntKind.i64 (hi)) = (Value.int IntKind.i64 (hi))) ∧ True ∧ True) ∧ (True ∧ True ∧ ((Value.int IntKind.i64 (lim)) = (Value.int IntKind.i64 (lim))) ∧ True) ∧ (True ∧ True ∧ True ∧ ((Value.int IntKind.u64 (S'.reads)) = (Value.int IntKind.u64 (x.S.reads))) ∧ True) ∧ ((out) = (x.out)) ∧ (True ∧ True ∧ True ∧ ((Value.int IntKind.u32 (S'.fresh)) = (Value.int IntKind.u32 (x.S.fresh))) ∧ True) ∧ ((S'.nodes) = (x.S.nodes)) ∧ ((S'.counts) = (x.S.counts)) ∧ ((S'.used) = (x.S.used)) ∧ ((S'.gen) = (x.S.gen)) ∧ ((S'.rel) = (x.S.rel)) ∧ (((Value.int IntKind.i64 ((S.nd i).key)) = (Value.int IntKind.i64 ((S.nd i).key))) ∧
    ((Value.int IntKind.i64 ((S.nd i).value)) = (Value.int IntKind.i64 ((S.nd i).value))) ∧ ((Value.int IntKind.u32 ((S.nd i).left)) = (Value.int IntKind.u32 ((S.nd i).left))) ∧ ((Value.int IntKind.u32 ((S.nd i).right)) = (Value.int IntKind.u32 ((S.nd i).right))) ∧ ((Value.int IntKind.i64 ((S.nd i).size)) = (Value.int IntKind.i64 ((S.nd i).size))) ∧ ((Value.int IntKind.i64 ((S.nd i).sum)) = (Value.int IntKind.i64 ((S.nd i).sum))) ∧ ((Value.int IntKind.i64 ((S.nd i).min)) = (Value.int IntKind.i64 ((S.nd i).min))) ∧ ((Value.int IntKind.i64 ((S.nd i).max)) = (Value.int IntKind.i64 ((S.nd i).max))) ∧ True) ∧ True)))) ∧ (∀ x : XSt P1, (True → ((brS (decide ((S.nd i).key ≥ lo)) ((brS (decide ((S.nd i).key ≤ hi)) ((brS (!decide (lim ≤ (↑x.out.length : Int))) (((((x.out.length + [((S.nd i).key, (S.nd i).value)].length) * bytesOf C0 EC.ent ≤ 140737488355328) ∧ (∃ x1 : XSt P2, (True ∧ (True ∧ ((Value.int IntKind.i64 (lo)) = (Value.int IntKind.i64 (lo))) ∧ ((Value.int IntKind.i64 (hi)) = (Value.int IntKind.i64 (hi))) ∧ True ∧ True) ∧ (True ∧ True ∧ ((Value.int IntKind.i64 (lim)) = (Value.int IntKind.i64 (lim))) ∧ True) ∧ (True ∧ True ∧ True ∧ ((Value.int IntKind.u64 (x.S.reads)) = (Value.int IntKind.u64 (x1.S.reads))) ∧ True) ∧ ((x.out ++ [((S.nd i).key, (S.nd i).value)]) = (x1.out)) ∧ (True ∧ True ∧ True ∧ ((Value.int IntKind.u32 (x.S.fresh)) = (Value.int IntKind.u32 (x1.S.fresh))) ∧ True) ∧ ((x.S.nodes) = (x1.S.nodes)) ∧ ((x.S.counts) = (x1.S.counts)) ∧ ((x.S.used) = (x1.S.used)) ∧
    ((x.S.gen) = (x1.S.gen)) ∧ ((x.S.rel) = (x1.S.rel)) ∧ (((Value.int IntKind.i64 ((S.nd i).key)) = (Value.int IntKind.i64 ((S.nd i).key))) ∧ ((Value.int IntKind.i64 ((S.nd i).value)) = (Value.int IntKind.i64 ((S.nd i).value))) ∧ ((Value.int IntKind.u32 ((S.nd i).left)) = (Value.int IntKind.u32 ((S.nd i).left))) ∧ ((Value.int IntKind.u32 ((S.nd i).right)) = (Value.int IntKind.u32 ((S.nd i).right))) ∧ ((Value.int IntKind.i64 ((S.nd i).size)) = (Value.int IntKind.i64 ((S.nd i).size))) ∧ ((Value.int IntKind.i64 ((S.nd i).sum)) = (Value.int IntKind.i64 ((S.nd i).sum))) ∧ ((Value.int IntKind.i64 ((S.nd i).min)) = (Value.int IntKind.i64 ((S.nd i).min))) ∧ ((Value.int IntKind.i64 ((S.nd i).max)) = (Value.int IntKind.i64 ((S.nd i).max))) ∧ True) ∧ True))) ∧ ((x.out.length + [((S.nd i).key, (S.nd i).value)].length) * bytesOf C0 EC.ent ≤ 140737488355328) ∧ (∃ x1 : XSt P2, (True ∧ (True ∧ ((Value.int IntKind.i64 (lo)) = (Value.int IntKind.i64 (lo))) ∧ ((Value.int IntKind.i64 (hi)) = (Value.int IntKind.i64 (hi))) ∧ True ∧ True) ∧ (True ∧ True ∧ ((Value.int IntKind.i64 (lim)) = (Value.int IntKind.i64 (lim))) ∧ True) ∧ (True ∧ True ∧ True ∧ ((Value.int IntKind.u64 (x.S.reads)) = (Value.int IntKind.u64 (x1.S.reads))) ∧ True) ∧ ((x.out ++ [((S.nd i).key, (S.nd i).value)]) = (x1.out)) ∧ (True ∧ True ∧ True ∧ ((Value.int IntKind.u32 (x.S.fresh)) = (Value.int IntKind.u32 (x1.S.fresh))) ∧ True) ∧ ((x.S.nodes) = (x1.S.nodes)) ∧ ((x.S.counts) = (x1.S.counts)) ∧ ((x.S.used) = (x1.S.used)) ∧
    ((x.S.gen) = (x1.S.gen)) ∧ ((x.S.rel) = (x1.S.rel)) ∧ (((Value.int IntKind.i64 ((S.nd i).key)) = (Value.int IntKind.i64 ((S.nd i).key))) ∧ ((Value.int IntKind.i64 ((S.nd i).value)) = (Value.int IntKind.i64 ((S.nd i).value))) ∧ ((Value.int IntKind.u32 ((S.nd i).left)) = (Value.int IntKind.u32 ((S.nd i).left))) ∧ ((Value.int IntKind.u32 ((S.nd i).right)) = (Value.int IntKind.u32 ((S.nd i).right))) ∧ ((Value.int IntKind.i64 ((S.nd i).size)) = (Value.int IntKind.i64 ((S.nd i).size))) ∧ ((Value.int IntKind.i64 ((S.nd i).sum)) = (Value.int IntKind.i64 ((S.nd i).sum))) ∧ ((Value.int IntKind.i64 ((S.nd i).min)) = (Value.int IntKind.i64 ((S.nd i).min))) ∧ ((Value.int IntKind.i64 ((S.nd i).max)) = (Value.int IntKind.i64 ((S.nd i).max))) ∧ True) ∧ True)))) ((∃ x1 : XSt P2, (True ∧ (True ∧ ((Value.int IntKind.i64 (lo)) = (Value.int IntKind.i64 (lo))) ∧ ((Value.int IntKind.i64 (hi)) = (Value.int IntKind.i64 (hi))) ∧ True ∧ True) ∧ (True ∧ True ∧ ((Value.int IntKind.i64 (lim)) = (Value.int IntKind.i64 (lim))) ∧ True) ∧ (True ∧ True ∧ True ∧ ((Value.int IntKind.u64 (x.S.reads)) = (Value.int IntKind.u64 (x1.S.reads))) ∧ True) ∧ ((x.out) = (x1.out)) ∧ (True ∧ True ∧ True ∧ ((Value.int IntKind.u32 (x.S.fresh)) = (Value.int IntKind.u32 (x1.S.fresh))) ∧ True) ∧ ((x.S.nodes) = (x1.S.nodes)) ∧ ((x.S.counts) = (x1.S.counts)) ∧ ((x.S.used) = (x1.S.used)) ∧ ((x.S.gen) = (x1.S.gen)) ∧ ((x.S.rel) = (x1.S.rel)) ∧ (((Value.int IntKind.i64 ((S.nd i).key)) = (Value.int IntKind.i64 ((S.nd i).key))) ∧
    ((Value.int IntKind.i64 ((S.nd i).value)) = (Value.int IntKind.i64 ((S.nd i).value))) ∧ ((Value.int IntKind.u32 ((S.nd i).left)) = (Value.int IntKind.u32 ((S.nd i).left))) ∧ ((Value.int IntKind.u32 ((S.nd i).right)) = (Value.int IntKind.u32 ((S.nd i).right))) ∧ ((Value.int IntKind.i64 ((S.nd i).size)) = (Value.int IntKind.i64 ((S.nd i).size))) ∧ ((Value.int IntKind.i64 ((S.nd i).sum)) = (Value.int IntKind.i64 ((S.nd i).sum))) ∧ ((Value.int IntKind.i64 ((S.nd i).min)) = (Value.int IntKind.i64 ((S.nd i).min))) ∧ ((Value.int IntKind.i64 ((S.nd i).max)) = (Value.int IntKind.i64 ((S.nd i).max))) ∧ True) ∧ True))))) ((∃ x1 : XSt P2, (True ∧ (True ∧ ((Value.int IntKind.i64 (lo)) = (Value.int IntKind.i64 (lo))) ∧ ((Value.int IntKind.i64 (hi)) = (Value.int IntKind.i64 (hi))) ∧ True ∧ True) ∧ (True ∧ True ∧ ((Value.int IntKind.i64 (lim)) = (Value.int IntKind.i64 (lim))) ∧ True) ∧ (True ∧ True ∧ True ∧ ((Value.int IntKind.u64 (x.S.reads)) = (Value.int IntKind.u64 (x1.S.reads))) ∧ True) ∧ ((x.out) = (x1.out)) ∧ (True ∧ True ∧ True ∧ ((Value.int IntKind.u32 (x.S.fresh)) = (Value.int IntKind.u32 (x1.S.fresh))) ∧ True) ∧ ((x.S.nodes) = (x1.S.nodes)) ∧ ((x.S.counts) = (x1.S.counts)) ∧ ((x.S.used) = (x1.S.used)) ∧ ((x.S.gen) = (x1.S.gen)) ∧ ((x.S.rel) = (x1.S.rel)) ∧ (((Value.int IntKind.i64 ((S.nd i).key)) = (Value.int IntKind.i64 ((S.nd i).key))) ∧ ((Value.int IntKind.i64 ((S.nd i).value)) = (Value.int IntKind.i64 ((S.nd i).value))) ∧
    ((Value.int IntKind.u32 ((S.nd i).left)) = (Value.int IntKind.u32 ((S.nd i).left))) ∧ ((Value.int IntKind.u32 ((S.nd i).right)) = (Value.int IntKind.u32 ((S.nd i).right))) ∧ ((Value.int IntKind.i64 ((S.nd i).size)) = (Value.int IntKind.i64 ((S.nd i).size))) ∧ ((Value.int IntKind.i64 ((S.nd i).sum)) = (Value.int IntKind.i64 ((S.nd i).sum))) ∧ ((Value.int IntKind.i64 ((S.nd i).min)) = (Value.int IntKind.i64 ((S.nd i).min))) ∧ ((Value.int IntKind.i64 ((S.nd i).max)) = (Value.int IntKind.i64 ((S.nd i).max))) ∧ True) ∧ True))))) ((∃ x1 : XSt P2, (True ∧ (True ∧ ((Value.int IntKind.i64 (lo)) = (Value.int IntKind.i64 (lo))) ∧ ((Value.int IntKind.i64 (hi)) = (Value.int IntKind.i64 (hi))) ∧ True ∧ True) ∧ (True ∧ True ∧ ((Value.int IntKind.i64 (lim)) = (Value.int IntKind.i64 (lim))) ∧ True) ∧ (True ∧ True ∧ True ∧ ((Value.int IntKind.u64 (x.S.reads)) = (Value.int IntKind.u64 (x1.S.reads))) ∧ True) ∧ ((x.out) = (x1.out)) ∧ (True ∧ True ∧ True ∧ ((Value.int IntKind.u32 (x.S.fresh)) = (Value.int IntKind.u32 (x1.S.fresh))) ∧ True) ∧ ((x.S.nodes) = (x1.S.nodes)) ∧ ((x.S.counts) = (x1.S.counts)) ∧ ((x.S.used) = (x1.S.used)) ∧ ((x.S.gen) = (x1.S.gen)) ∧ ((x.S.rel) = (x1.S.rel)) ∧ (((Value.int IntKind.i64 ((S.nd i).key)) = (Value.int IntKind.i64 ((S.nd i).key))) ∧ ((Value.int IntKind.i64 ((S.nd i).value)) = (Value.int IntKind.i64 ((S.nd i).value))) ∧ ((Value.int IntKind.u32 ((S.nd i).left)) = (Value.int IntKind.u32 ((S.nd i).left))) ∧
    ((Value.int IntKind.u32 ((S.nd i).right)) = (Value.int IntKind.u32 ((S.nd i).right))) ∧ ((Value.int IntKind.i64 ((S.nd i).size)) = (Value.int IntKind.i64 ((S.nd i).size))) ∧ ((Value.int IntKind.i64 ((S.nd i).sum)) = (Value.int IntKind.i64 ((S.nd i).sum))) ∧ ((Value.int IntKind.i64 ((S.nd i).min)) = (Value.int IntKind.i64 ((S.nd i).min))) ∧ ((Value.int IntKind.i64 ((S.nd i).max)) = (Value.int IntKind.i64 ((S.nd i).max))) ∧ True) ∧ True)))) ∧ (∀ x1 : XSt P2, (True → (brS (decide ((S.nd i).key < hi)) ((∃ hs : List Int, (∃ t : Tr, ((Wf x1.S hs) ∧ (Rep x1.S t (S.nd i).right) ∧ (t.size < n) ∧ (t.size ≤ 1000000) ∧ (x1.out.length + t.size ≤ 3000000) ∧ (x1.S.reads + (↑t.size : Int) ≤ 3000000000000000000) ∧ (∀ S'1 : Arn, (∀ out' : List Ent, (((S'1) = (rdS x1.S (lk t lo hi (room lim x1.out)).snd)) → (((out') = (x1.out ++ (lk t lo hi (room lim x1.out)).fst)) → (K (SV.tup []) [(Chunk.box [(At.ptr 1 0), (At.slc 2), (At.val (Value.int IntKind.i64 (lim)))]), (Chunk.box [(At.ptr 3 0), (At.slc 4), (At.slc 5), (At.val (Value.int IntKind.u64 (S'1.reads)))]), (Chunk.row true (EC.ent) (out')), (Chunk.box [(At.slc 6), (At.slc 7), (At.slc 8), (At.val (Value.int IntKind.u32 (S'1.fresh)))]), (Chunk.row true (EC.node) (S'1.nodes)), (Chunk.row true (EC.int) (S'1.counts)), (Chunk.row true (EC.bool) (S'1.used)), (Chunk.row true (EC.u32) (S'1.gen)), (Chunk.row true (EC.u32) (S'1.rel))] [0, 1, 2])))))))))
    ((K (SV.tup []) [(Chunk.box [(At.ptr 1 0), (At.slc 2), (At.val (Value.int IntKind.i64 (lim)))]), (Chunk.box [(At.ptr 3 0), (At.slc 4), (At.slc 5), (At.val (Value.int IntKind.u64 (x1.S.reads)))]), (Chunk.row true (EC.ent) (x1.out)), (Chunk.box [(At.slc 6), (At.slc 7), (At.slc 8), (At.val (Value.int IntKind.u32 (x1.S.fresh)))]), (Chunk.row true (EC.node) (x1.S.nodes)), (Chunk.row true (EC.int) (x1.S.counts)), (Chunk.row true (EC.bool) (x1.S.used)), (Chunk.row true (EC.u32) (x1.S.gen)), (Chunk.row true (EC.u32) (x1.S.rel))] [0, 1, 2])))))))))))))))))) = _ by kernel_rfl) ?_
  subst hP1 hP2
  rw [bytes_ent]
  cases t with
  | nil =>
    have e : i = 0 := hr
    subst e
    exact brS_of (fun _ => h S out (by simp [lk, rdS_zero]) (by simp [lk])) fun c => by simp at c
  | node l k v r =>
    obtain ⟨r1, r2, r3, r4, r5⟩ := hr
    have hp := hw.pos r1
    have hn2 := hw.n2
    have hrd := hw.rds
    have hsz : l.size + r.size + 1 = (Tr.node l k v r).size := by simp [Tr.size]; omega
    refine brS_of (fun c => ?_) fun _ => brS_of (fun c => ?_) fun c => ⟨inU_of hw (.inr r1), ⟨_, hw⟩, by omega, fun S1 e1 => brS_of (fun d => ?_) fun _ => ?_⟩
    · have : i = 0 := by simpa using c
      omega
    · have c : lim ≤ (out.length : Int) := of_decide_eq_true c
      have e : room lim out = 0 := by unfold room; omega
      exact h S out (by rw [e]; simp [lk, rdS_zero]) (by rw [e]; simp [lk])
    · rw [r1] at d; cases d
    · have c : ¬ lim ≤ (out.length : Int) := of_decide_eq_false c
      have hrm : room lim out ≠ 0 := by unfold room; omega
      rw [r1] at e1
      have e1 : S1 = rdS S 1 := e1
      have hw1 : Wf S1 hs := by rw [e1]; exact hw.rd (by omega)
      have hl := lk_len l lo hi (room lim out)
      rw [r2, r3]
      refine ⟨brS_of (fun d => ?_) fun d => ?_, fun x _ => ?_⟩
      · have d : lo < k := of_decide_eq_true d
        refine ⟨hs, l, hw1, by rw [e1]; exact rep_rd r4 1, by omega, by omega, by omega, by rw [e1]; show S.reads + ((1 : Nat) : Int) + _ ≤ _; omega, fun S2 o2 e2 e3 => ⟨⟨S2, o2, ?_⟩, ?_⟩⟩
        · rw [e2, e1, rdS_rdS]
          simp only [lkA, if_pos d]
          exact ⟨trivial, e3⟩
        · (repeat' first | exact trivial | exact rfl | refine And.intro ?_ ?_)
      · have d : ¬ lo < k := of_decide_eq_false d
        refine ⟨⟨S1, out, ?_⟩, ?_⟩
        · simp only [lkA, if_neg d]
          exact ⟨e1, by simp⟩
        · (repeat' first | exact trivial | exact rfl | refine And.intro ?_ ?_)
      · obtain ⟨x1, x2⟩ := x.h
        have la : (lkA (.node l k v r) lo hi (room lim out)).1.length ≤ l.size ∧ (lkA (.node l k v r) lo hi (room lim out)).2 ≤ l.size := by
          simp only [lkA]; split
          · exact ⟨hl.2.1, hl.2.2⟩
          · simp
        have hxl : x.out.length = out.length + (lkA (.node l k v r) lo hi (room lim out)).1.length := by rw [x2, List.length_append]
        have lb : lkB (.node l k v r) lo hi (room lim out) = if lo ≤ k ∧ k ≤ hi ∧ (lkA (.node l k v r) lo hi (room lim out)).1.length < room lim out then [(k, v)] else [] := rfl
        have hroom : (lkA (.node l k v r) lo hi (room lim out)).1.length < room lim out ↔ ¬ lim ≤ (x.out.length : Int) := by
          have e0 : room lim out = (lim - out.length).toNat := rfl
          omega
        refine ⟨brS_of (fun d1 => brS_of (fun d2 => brS_of (fun d3 => ⟨⟨by simp; omega, ⟨x.S, x.out ++ [(k, v)], ?_⟩, ?_⟩, by simp; omega, ⟨x.S, x.out ++ [(k, v)], ?_⟩, ?_⟩) fun d3 => ⟨⟨x.S, x.out, ?_⟩, ?_⟩) fun d2 => ⟨⟨x.S, x.out, ?_⟩, ?_⟩) fun d1 => ⟨⟨x.S, x.out, ?_⟩, ?_⟩, fun y _ => ?fin⟩
        case fin =>
          obtain ⟨y1, y2⟩ := y.h
          have lb1 : (lkB (.node l k v r) lo hi (room lim out)).length ≤ 1 := by rw [lb]; split <;> simp
          have hyl : y.out.length = out.length + ((lkA (.node l k v r) lo hi (room lim out)).1.length + (lkB (.node l k v r) lo hi (room lim out)).length) := by rw [y2]; simp
          have hwy : Wf y.S hs := by rw [y1]; exact hw.rd (by omega)
          have hry : room lim y.out = room lim out - ((lkA (.node l k v r) lo hi (room lim out)).1.length + (lkB (.node l k v r) lo hi (room lim out)).length) := by
            have e0 : room lim out = (lim - out.length).toNat := rfl
            have e1 : room lim y.out = (lim - y.out.length).toNat := rfl
            omega
          have hlk : lk (.node l k v r) lo hi (room lim out) = ((lkA (.node l k v r) lo hi (room lim out)).1 ++ (lkB (.node l k v r) lo hi (room lim out) ++ (if k < hi then lk r lo hi (room lim y.out) else ([], 0)).1), 1 + (lkA (.node l k v r) lo hi (room lim out)).2 + (if k < hi then lk r lo hi (room lim y.out) else ([], 0)).2) := by
            rw [hry]
            simp only [lk, if_neg hrm, lkA, lkB]
            rfl
          rw [hlk] at h
          refine brS_of (fun d => ?_) fun d => ?_
          · have d : k < hi := of_decide_eq_true d
            rw [if_pos d] at h
            refine ⟨hs, r, hwy, by rw [y1]; exact rep_rd r5 _, by omega, by omega, by omega, by rw [y1]; show S.reads + ((1 + (lkA (.node l k v r) lo hi (room lim out)).2 : Nat) : Int) + _ ≤ _; omega, fun S2 o2 e2 e3 => h S2 o2 ?_ ?_⟩
            · rw [e2, y1, rdS_rdS]
            · rw [e3, y2]; simp
          · have d : ¬ k < hi := of_decide_eq_false d
            rw [if_neg d] at h
            exact h y.S y.out (by rw [y1]; rfl) (by rw [y2]; simp)
        all_goals first
          | ((repeat' first | exact trivial | exact rfl | refine And.intro ?_ ?_); done)
          | (refine ⟨x1, ?_⟩
             rw [x2, lb]
             first
               | (rw [if_pos ⟨of_decide_eq_true d1, of_decide_eq_true d2, hroom.2 (by simpa using d3)⟩, List.append_assoc]; done)
               | (rw [if_neg (fun q => absurd (of_decide_eq_false d1) (by simpa using q.1))]; simp; done)
               | (rw [if_neg (fun q => absurd (of_decide_eq_false d2) (by simpa using q.2.1))]; simp; done)
               | (rw [if_neg (fun q => absurd (hroom.1 q.2.2) (by simpa using d3))]; simp; done))
theorem s_lk : ∀ n, SoundT C0 124 (tLk n) := by
  intro n
  induction n with
  | zero =>
    refine .of Try.func124 (by decide) rfl fun args H K h hB => ?_
    exfalso
    unfold tLk at h
    split at h <;> try exact h.elim
    unfold lsM at h
    split at h <;> try exact h.elim
    obtain ⟨_, _, _, _, h1, _⟩ := h
    omega
  | succ n ih =>
    refine .ofW [0, 1, 2] Try.func124 (by decide) rfl fun args H K h hB => ?_
    unfold tLk at h
    split at h <;> try exact h.elim
    unfold lsM at h
    split at h <;> try exact h.elim
    rename_i i lo hi _ lim rd out fr nd ct us gn rl
    obtain ⟨hs, t, h1, h2, h3, h4, h5, h6, h7⟩ := h
    refine ⟨_, ?_, vc_lk n lim ⟨us, gn, rl, fr, nd, ct, rd⟩ out i lo hi K hs t h1 h2 h3 h4 h5 h6 h7⟩
    exact ⟨frame C0.ok s_full _, frame C0.ok s_node _, frame C0.ok ih _, trivial⟩
def plS (t : Tr) : Int := match t with
  | .nil => 0
  | .node l _ _ _ => l.size
def plA (t : Tr) (x y : Int) : List Ent × Nat := match t with
  | .nil => ([], 0)
  | .node l _ _ _ => if x < (l.size : Int) then pl l x (if (l.size : Int) < y then (l.size : Int) else y) else ([], 0)
def plB (t : Tr) (x y : Int) : List Ent := match t with
  | .nil => []
  | .node l k v _ => if x ≤ (l.size : Int) ∧ (l.size : Int) < y then [(k, v)] else []
end Go.Proofs.Ytjbkckcjmmmooaa.Sx
end
section
/- Ranks and positions. -/
namespace Go.Proofs.Ytjbkckcjmmmooaa.Sx
open Go

/-KEEP Wf exW inU live Arn.cap Arn.free Rep rdS Tr.size ne0 bf sel selR-/
structure XBf (S : Arn) (t : Tr) (q : Int) (eq : Bool) where
  i : Int
  t' : Tr
  c : Nat
  m : Nat
  h : Rep S t' i ∧ bf t q eq = (c + (bf t' q eq).1, m + (bf t' q eq).2) ∧ t'.size ≤ t.size
noncomputable def aBf (S : Arn) (t : Tr) (q : Int) (eq : Bool) : Ann C0 := { Γ := [(49, frameT [] tNode), (61, frameT [] tSize)], inv := fun n => match n with
  | 3 => some { X := XBf S t q eq, sl := [10, 9], tf := fun x => [vi .u32 x.i, vi .i64 x.c], hf := fun x => chS (rdS S x.m), μ := fun x => x.t'.size, wr := [0] }
  | _ => none }
def tBf : Tfm C0 := fun args H K => match args with
  | [.at (.ptr 0 0), .at (.val (.int .u32 i)), .at (.val (.int .i64 q)), .at (.val (.bool eq))] => arM H fun S => ∃ hs t, Wf S hs ∧ Rep S t i ∧ t.size ≤ 1000000 ∧ S.reads + 2 * t.size ≤ 3000000000000000000 ∧
    ∀ S' (c : Int), S' = rdS S (bf t q eq).2 → c = (bf t q eq).1 → K (.one (.at (vI c))) (chS S') [0]
  | _ => False
noncomputable def aRank : Ann C0 := { Γ := [(135, frameT [] tBf)] }
def tRank : Tfm C0 := fun args H K => match args with
  | [.at (.ptr 0 0), .at (.val (.int .u32 i)), .at (.val (.int .i64 q))] => arM H fun S => ∃ hs t, Wf S hs ∧ Rep S t i ∧ t.size ≤ 1000000 ∧ S.reads + 2 * t.size ≤ 3000000000000000000 ∧
    ∀ S' (c : Int), S' = rdS S (bf t q false).2 → c = (bf t q false).1 → K (.one (.at (vI c))) (chS S') [0]
  | _ => False
structure XSel (S : Arn) (t : Tr) (n : Int) where
  i : Int
  j : Int
  t' : Tr
  m : Nat
  h : Rep S t' i ∧ sel t n = ((sel t' j).1, m + (sel t' j).2) ∧ t'.size ≤ t.size ∧ 0 ≤ j ∧ j < t'.size
def entO (o : Option Ent) : TV := .agg [vI (o.getD (0, 0)).1, vI (o.getD (0, 0)).2]
noncomputable def aSel (S : Arn) (t : Tr) (n : Int) : Ann C0 := { Γ := [(49, frameT [] tNode), (61, frameT [] tSize)], inv := fun k => match k with
  | 4 => some { X := XSel S t n, sl := [8, 2, 6], tf := fun x => [vi .u32 x.i, vi .i64 x.j, .one (.at (.ptr 7 0))], hf := fun x => chS (rdS S (ne0 t + x.m)) ++ [.box [vI 0, vI 0]], μ := fun x => x.t'.size, wr := [0] }
  | _ => none }
def tSel : Tfm C0 := fun args H K => match args with
  | [.at (.ptr 0 0), .at (.val (.int .u32 i)), .at (.val (.int .i64 n))] => arM H fun S => ∃ hs t, Wf S hs ∧ Rep S t i ∧ t.size ≤ 1000000 ∧ S.reads + 2 * t.size ≤ 3000000000000000000 ∧
    ∀ S' o, S' = rdS S (selR t n).2 → o = (selR t n).1 → K (.tup [entO o, .at (vB o.isSome)]) (chS S') [0]
  | _ => False
theorem vc_bf (S : Arn) (i q : Int) (eq : Bool) (K : KT) (hs : List Int) (t : Tr) (hw : Wf S hs) (hr : Rep S t i) (h1 : t.size ≤ 1000000) (h2 : S.reads + 2 * t.size ≤ 3000000000000000000)
    (h : ∀ S' (c : Int), S' = rdS S (bf t q eq).2 → c = (bf t q eq).1 → K (.one (.at (vI c))) (chS S') [0]) :
    vc C0 (aBf S t q eq) Try.f135 [.at (.ptr 0 0), .at (vU i), .at (vI q), .at (vB eq)] (chS S) (normK 7 (wideK [0] K)) := by
  refine Eq.mp (show ((∃ x : XBf S t q eq, (True ∧ (True ∧ ((Value.int IntKind.i64 (q)) = (Value.int IntKind.i64 (q))) ∧ ((Value.bool (eq)) = (Value.bool (eq))) ∧ ((Value.int IntKind.i64 0) = (Value.int IntKind.i64 ((↑x.c : Int)))) ∧ ((Value.int IntKind.u32 (i)) = (Value.int IntKind.u32 (x.i))) ∧ True) ∧ (True ∧ True ∧ True ∧ ((Value.int IntKind.u64 (S.reads)) = (Value.int IntKind.u64 ((rdS S x.m).reads))) ∧ True) ∧ (True ∧ True ∧ True ∧ ((Value.int IntKind.u32 (S.fresh)) = (Value.int IntKind.u32 ((rdS S x.m).fresh))) ∧ True) ∧ ((S.nodes) = ((rdS S x.m).nodes)) ∧ ((S.counts) = ((rdS S x.m).counts)) ∧ ((S.used) = ((rdS S x.m).used)) ∧ ((S.gen) = ((rdS S x.m).gen)) ∧ ((S.rel) = ((rdS S x.m).rel)) ∧ True)) ∧
(∀ x : XBf S t q eq, (True → (brS (x.i != 0) (((inU x.i) ∧ (exW (rdS S x.m)) ∧ ((rdS S x.m).reads < 4000000000000000000) ∧ (∀ S' : Arn, (((S') = (rdS (rdS S x.m) ((rdS S x.m).us x.i).toNat)) → (brS (!(rdS S x.m).us x.i) ((K (SV.one (TV.at (At.val (Value.int IntKind.i64 ((↑x.c : Int)))))) [(Chunk.box [(At.ptr 1 0), (At.slc 2), (At.slc 3), (At.val (Value.int IntKind.u64 (S'.reads)))]), (Chunk.box [(At.slc 4), (At.slc 5), (At.slc 6), (At.val (Value.int IntKind.u32 (S'.fresh)))]), (Chunk.row true (EC.node) (S'.nodes)), (Chunk.row true (EC.int) (S'.counts)), (Chunk.row true (EC.bool) (S'.used)), (Chunk.row true (EC.u32) (S'.gen)), (Chunk.row true (EC.u32) (S'.rel))] [0])) ((brS (decide (((rdS S x.m).nd x.i).key > q)) ((∃ x' : XBf S t q eq, (True ∧ ((True ∧
    ((Value.int IntKind.i64 (q)) = (Value.int IntKind.i64 (q))) ∧ ((Value.bool (eq)) = (Value.bool (eq))) ∧ ((Value.int IntKind.i64 ((↑x.c : Int))) = (Value.int IntKind.i64 ((↑x'.c : Int)))) ∧ ((Value.int IntKind.u32 (((rdS S x.m).nd x.i).left)) = (Value.int IntKind.u32 (x'.i))) ∧ True) ∧ (True ∧ True ∧ True ∧ ((Value.int IntKind.u64 (S'.reads)) = (Value.int IntKind.u64 ((rdS S x'.m).reads))) ∧ True) ∧ (True ∧ True ∧ True ∧ ((Value.int IntKind.u32 (S'.fresh)) = (Value.int IntKind.u32 ((rdS S x'.m).fresh))) ∧ True) ∧ ((S'.nodes) = ((rdS S x'.m).nodes)) ∧ ((S'.counts) = ((rdS S x'.m).counts)) ∧ ((S'.used) = ((rdS S x'.m).used)) ∧ ((S'.gen) = ((rdS S x'.m).gen)) ∧ ((S'.rel) = ((rdS S x'.m).rel)) ∧ True) ∧ (x'.t'.size < x.t'.size)))) ((brS (((rdS S x.m).nd x.i).key == q) ((brS (!eq) ((∃ x' : XBf S t q eq, (True ∧ ((True ∧ ((Value.int IntKind.i64 (q)) = (Value.int IntKind.i64 (q))) ∧ ((Value.bool (eq)) = (Value.bool (eq))) ∧ ((Value.int IntKind.i64 ((↑x.c : Int))) = (Value.int IntKind.i64 ((↑x'.c : Int)))) ∧ ((Value.int IntKind.u32 (((rdS S x.m).nd x.i).left)) = (Value.int IntKind.u32 (x'.i))) ∧ True) ∧ (True ∧ True ∧ True ∧ ((Value.int IntKind.u64 (S'.reads)) = (Value.int IntKind.u64 ((rdS S x'.m).reads))) ∧ True) ∧ (True ∧ True ∧ True ∧ ((Value.int IntKind.u32 (S'.fresh)) = (Value.int IntKind.u32 ((rdS S x'.m).fresh))) ∧ True) ∧ ((S'.nodes) = ((rdS S x'.m).nodes)) ∧ ((S'.counts) = ((rdS S x'.m).counts)) ∧ ((S'.used) = ((rdS S x'.m).used)) ∧ ((S'.gen) = ((rdS S x'.m).gen)) ∧
    ((S'.rel) = ((rdS S x'.m).rel)) ∧ True) ∧ (x'.t'.size < x.t'.size)))) (((inU ((rdS S x.m).nd x.i).left) ∧ (exW S') ∧ (S'.reads < 4000000000000000000) ∧ (∀ S'1 : Arn, (((S'1) = (rdS S' (S'.us ((rdS S x.m).nd x.i).left).toNat)) → (∃ x' : XBf S t q eq, (True ∧ ((True ∧ ((Value.int IntKind.i64 (q)) = (Value.int IntKind.i64 (q))) ∧ ((Value.bool (eq)) = (Value.bool (eq))) ∧ ((Value.int IntKind.i64 (IntKind.i64.wrap ((↑x.c : Int) + IntKind.i64.wrap ((S'.nd ((rdS S x.m).nd x.i).left).size + 1)))) = (Value.int IntKind.i64 ((↑x'.c : Int)))) ∧ ((Value.int IntKind.u32 (((rdS S x.m).nd x.i).right)) = (Value.int IntKind.u32 (x'.i))) ∧ True) ∧ (True ∧ True ∧ True ∧ ((Value.int IntKind.u64 (S'1.reads)) = (Value.int IntKind.u64 ((rdS S x'.m).reads))) ∧ True) ∧ (True ∧ True ∧ True ∧ ((Value.int IntKind.u32 (S'1.fresh)) = (Value.int IntKind.u32 ((rdS S x'.m).fresh))) ∧ True) ∧ ((S'1.nodes) = ((rdS S x'.m).nodes)) ∧ ((S'1.counts) = ((rdS S x'.m).counts)) ∧ ((S'1.used) = ((rdS S x'.m).used)) ∧ ((S'1.gen) = ((rdS S x'.m).gen)) ∧ ((S'1.rel) = ((rdS S x'.m).rel)) ∧ True) ∧ (x'.t'.size < x.t'.size))))))))) (((inU ((rdS S x.m).nd x.i).left) ∧ (exW S') ∧ (S'.reads < 4000000000000000000) ∧ (∀ S'1 : Arn, (((S'1) = (rdS S' (S'.us ((rdS S x.m).nd x.i).left).toNat)) → (∃ x' : XBf S t q eq, (True ∧ ((True ∧ ((Value.int IntKind.i64 (q)) = (Value.int IntKind.i64 (q))) ∧ ((Value.bool (eq)) = (Value.bool (eq))) ∧
    ((Value.int IntKind.i64 (IntKind.i64.wrap ((↑x.c : Int) + IntKind.i64.wrap ((S'.nd ((rdS S x.m).nd x.i).left).size + 1)))) = (Value.int IntKind.i64 ((↑x'.c : Int)))) ∧ ((Value.int IntKind.u32 (((rdS S x.m).nd x.i).right)) = (Value.int IntKind.u32 (x'.i))) ∧ True) ∧ (True ∧ True ∧ True ∧ ((Value.int IntKind.u64 (S'1.reads)) = (Value.int IntKind.u64 ((rdS S x'.m).reads))) ∧ True) ∧ (True ∧ True ∧ True ∧ ((Value.int IntKind.u32 (S'1.fresh)) = (Value.int IntKind.u32 ((rdS S x'.m).fresh))) ∧ True) ∧ ((S'1.nodes) = ((rdS S x'.m).nodes)) ∧ ((S'1.counts) = ((rdS S x'.m).counts)) ∧ ((S'1.used) = ((rdS S x'.m).used)) ∧ ((S'1.gen) = ((rdS S x'.m).gen)) ∧ ((S'1.rel) = ((rdS S x'.m).rel)) ∧ True) ∧ (x'.t'.size < x.t'.size)))))))))))))))) ((K (SV.one (TV.at (At.val (Value.int IntKind.i64 ((↑x.c : Int)))))) [(Chunk.box [(At.ptr 1 0), (At.slc 2), (At.slc 3), (At.val (Value.int IntKind.u64 ((rdS S x.m).reads)))]), (Chunk.box [(At.slc 4), (At.slc 5), (At.slc 6), (At.val (Value.int IntKind.u32 ((rdS S x.m).fresh)))]), (Chunk.row true (EC.node) ((rdS S x.m).nodes)), (Chunk.row true (EC.int) ((rdS S x.m).counts)), (Chunk.row true (EC.bool) ((rdS S x.m).used)), (Chunk.row true (EC.u32) ((rdS S x.m).gen)), (Chunk.row true (EC.u32) ((rdS S x.m).rel))] [0])))))) = _ by kernel_rfl) ?_
  have hrd := hw.rds
  have hb := bf_le t q eq
  refine ⟨⟨⟨i, t, 0, 0, hr, by simp, Nat.le_refl _⟩, ?_⟩, fun x _ => ?_⟩
  · (repeat' first | exact trivial | exact rfl | refine And.intro ?_ ?_)
    rw [rdS_zero]
  obtain ⟨xi, xt, xc, xm, h1', h2, h3⟩ := x
  dsimp only
  have hb2 : bf t q eq = (xc + (bf xt q eq).1, xm + (bf xt q eq).2) := h2
  have hxm : xc ≤ (bf t q eq).1 ∧ xm ≤ (bf t q eq).2 := by rw [hb2]; exact ⟨Nat.le_add_right _ _, Nat.le_add_right _ _⟩
  have hwx : Wf (rdS S xm) hs := hw.rd (by omega)
  refine brS_of (fun c => ?_) fun c => ?_
  · have c : xi ≠ 0 := by simpa using c
    cases xt with
    | nil => exact absurd h1' c
    | node l k v r =>
      obtain ⟨r1, r2, r3, r4, r5⟩ := h1'
      have hsz : l.size + r.size + 1 = (Tr.node l k v r).size := by simp [Tr.size]; omega
      have hsl : (S.nd (S.nd xi).left).size = l.size := r4.size hw
      have hus := us_toNat hw r4
      have hm : ne0 l ≤ 1 := by unfold ne0; split <;> omega
      have hsb : (bf (.node l k v r) q eq).2 ≤ (bf t q eq).2 - xm := by rw [hb2]; simp
      refine ⟨inU_of hw (.inr r1), ⟨_, hwx⟩, by show S.reads + (xm : Int) < _; omega, fun S1 e1 => brS_of (fun d => ?_) fun _ => ?_⟩
      · have d : (!S.us xi) = true := d
        have d : S.us xi = false := by simpa using d
        rw [r1] at d; cases d
      have e1 : S1 = rdS S (xm + 1) := by rw [e1, rdS_rdS]; show rdS S (xm + (S.us xi).toNat) = _; rw [r1]; rfl
      subst e1
      have ek : ((rdS S xm).nd xi).key = k := r2
      rw [ek]
      refine brS_of (fun d => ?_) fun d => brS_of (fun d2 => brS_of (fun d3 => ?_) fun d3 => ?_) fun d2 => ?_
      · have hc : q < k ∨ (k = q ∧ eq = false) := .inl (of_decide_eq_true d)
        refine ⟨⟨(S.nd xi).left, l, xc, xm + 1, r4, by rw [h2]; simp only [bf, if_pos hc]; rw [Nat.add_assoc], by omega⟩, ?_⟩
        (repeat' first | exact trivial | exact rfl | refine And.intro ?_ ?_)
        show l.size < (Tr.node l k v r).size; omega
      · have hc : q < k ∨ (k = q ∧ eq = false) := .inr ⟨by simpa using d2, by simpa using d3⟩
        refine ⟨⟨(S.nd xi).left, l, xc, xm + 1, r4, by rw [h2]; simp only [bf, if_pos hc]; rw [Nat.add_assoc], by omega⟩, ?_⟩
        (repeat' first | exact trivial | exact rfl | refine And.intro ?_ ?_)
        show l.size < (Tr.node l k v r).size; omega
      all_goals
        have d : ¬ q < k := of_decide_eq_false d
        have hc : ¬ (q < k ∨ (k = q ∧ eq = false)) := by first | (rintro (a | ⟨_, a⟩); exact d a; rw [a] at d3; cases d3) | (rintro (a | ⟨a, _⟩); exact d a; rw [a] at d2; simp at d2)
        have hn : (bf (.node l k v r) q eq).2 ≤ 2 * (Tr.node l k v r).size := (bf_le _ _ _).2
        refine ⟨inU_of hw (hw.kid xi r1).1, ⟨_, hw.rd (by omega)⟩, by show S.reads + ((xm + 1 : Nat) : Int) < _; omega, fun S2 e2 => ?_⟩
        have e2 : S2 = rdS S (xm + (1 + ne0 l)) := by rw [e2, rdS_rdS]; show rdS S (xm + 1 + (S.us (S.nd xi).left).toNat) = _; rw [hus, Nat.add_assoc]
        have e2 := e2
        subst e2
        refine ⟨⟨(S.nd xi).right, r, xc + (l.size + 1), xm + (1 + ne0 l), r5, by rw [h2]; simp only [bf, if_neg hc]; exact Prod.ext (by show _ = _; simp only []; omega) (by show _ = _; simp only []; omega), by omega⟩, ?_⟩
        (repeat' first | exact trivial | exact rfl | refine And.intro ?_ ?_)
        · show Value.int .i64 (IntKind.i64.wrap ((xc : Int) + IntKind.i64.wrap ((S.nd (S.nd xi).left).size + 1))) = Value.int .i64 ((xc + (l.size + 1) : Nat) : Int)
          rw [hsl, wrap_id (x := (l.size : Int) + 1) (by omega) (by omega), wrap_id (by omega) (by omega)]
          congr 1
        · show r.size < (Tr.node l k v r).size; omega
        
  · have c : xi = 0 := by simpa using c
    subst c
    have e := h1'.zero hw
    subst e
    exact h _ _ (by rw [hb2]; simp [bf]) (by rw [hb2]; simp [bf])
theorem s_bf : SoundT C0 135 tBf := by
  refine .ofW [0] Try.func135 (by decide) rfl fun args H K h hB => ?_
  unfold tBf at h
  split at h <;> try exact h.elim
  unfold arM at h
  split at h <;> try exact h.elim
  rename_i i q eq _ rd fr nd ct us gn rl
  obtain ⟨hs, t, h1, h2, h3, h4, h5⟩ := h
  exact ⟨aBf ⟨us, gn, rl, fr, nd, ct, rd⟩ t q eq, ⟨frame C0.ok s_node _, frame C0.ok s_size _, trivial⟩, vc_bf ⟨us, gn, rl, fr, nd, ct, rd⟩ i q eq K hs t h1 h2 h3 h4 h5⟩
end Go.Proofs.Ytjbkckcjmmmooaa.Sx
end
section
/- The nearest entries of a tree. No program in sight. -/
namespace Go.Proofs.Ytjbkckcjmmmooaa
open Go

def lsT : Tr → (Int → Bool) → Option Ent → Option Ent × Nat
  | .nil, _, b => (b, 0)
  | .node l k v r, p, b => if p k then ((lsT l p (some (k, v))).1, 1 + (lsT l p (some (k, v))).2) else ((lsT r p b).1, 1 + (lsT r p b).2)
def gtT : Tr → (Int → Bool) → Option Ent → Option Ent × Nat
  | .nil, _, b => (b, 0)
  | .node l k v r, p, b => if p k then ((gtT r p (some (k, v))).1, 1 + (gtT r p (some (k, v))).2) else ((gtT l p b).1, 1 + (gtT l p b).2)
theorem lsT_le : ∀ (t : Tr) (p : Int → Bool) (b : Option Ent), (lsT t p b).2 ≤ t.size
  | .nil, _, _ => by simp [lsT, Tr.size]
  | .node l k v r, p, b => by
    have h1 := lsT_le l p (some (k, v))
    have h2 := lsT_le r p b
    simp only [lsT, Tr.size]
    split <;> simp only [] <;> omega
theorem gtT_le : ∀ (t : Tr) (p : Int → Bool) (b : Option Ent), (gtT t p b).2 ≤ t.size
  | .nil, _, _ => by simp [gtT, Tr.size]
  | .node l k v r, p, b => by
    have h1 := gtT_le r p (some (k, v))
    have h2 := gtT_le l p b
    simp only [gtT, Tr.size]
    split <;> simp only [] <;> omega
/-- The first entry that is admitted, where greater keys are admitted as well. -/
theorem lsT_find : ∀ (t : Tr) (p : Int → Bool) (b : Option Ent), Asc t.list → (∀ i j, i < j → p i = true → p j = true) → (lsT t p b).1 = (t.list.find? fun x => p x.1).or b
  | .nil, _, _, _, _ => by simp [lsT, Tr.list]
  | .node l k v r, p, b, h, hp => by
    obtain ⟨hl, hr, hlk, hkr⟩ := node_asc h
    simp only [lsT, Tr.list]
    rw [List.find?_append, List.find?_cons]
    cases c : p k with
    | true =>
      simp only [if_true]
      rw [lsT_find l p _ hl hp]
      cases (l.list.find? fun x => p x.1) <;> rfl
    | false =>
      simp only [Bool.false_eq_true, if_false]
      have e : (l.list.find? fun x => p x.1) = none := by
        rw [List.find?_eq_none]
        intro x hx hc
        have := hp x.1 k (hlk x hx) hc
        rw [c] at this; cases this
      rw [e, lsT_find r p b hr hp]; rfl
/-- The last entry that is admitted, where lesser keys are admitted as well. -/
theorem gtT_find : ∀ (t : Tr) (p : Int → Bool) (b : Option Ent), Asc t.list → (∀ i j, i < j → p j = true → p i = true) → (gtT t p b).1 = (t.list.reverse.find? fun x => p x.1).or b
  | .nil, _, _, _, _ => by simp [gtT, Tr.list]
  | .node l k v r, p, b, h, hp => by
    obtain ⟨hl, hr, hlk, hkr⟩ := node_asc h
    simp only [gtT, Tr.list]
    rw [List.reverse_append, List.reverse_cons, List.append_assoc, List.find?_append, List.singleton_append, List.find?_cons]
    cases c : p k with
    | true =>
      simp only [if_true]
      rw [gtT_find r p _ hr hp]
      cases (r.list.reverse.find? fun x => p x.1) <;> rfl
    | false =>
      simp only [Bool.false_eq_true, if_false]
      have e : (r.list.reverse.find? fun x => p x.1) = none := by
        rw [List.find?_eq_none]
        intro x hx hc
        have := hp k x.1 (hkr x (by simpa using hx)) hc
        rw [c] at this; cases this
      rw [e, gtT_find l p b hl hp]; rfl
end Go.Proofs.Ytjbkckcjmmmooaa
end
section
/- The nearest entries of a tree: lookup's functions. -/
namespace Go.Proofs.Ytjbkckcjmmmooaa.Sx
open Go

/-KEEP Wf exW inU live Arn.cap Arn.free Rep rdS Tr.size lsT gtT entO-/
abbrev chA (key : Int) (S : Arn) : List (Chunk C0) := [.box [.ptr 2 0, .slc 3, .slc 4, vU64 S.reads], .box [vI key], .box [.slc 5, .slc 6, .slc 7, vU S.fresh], .row true EC.node S.nodes, .row true EC.int S.counts, .row true EC.bool S.used, .row true EC.u32 S.gen, .row true EC.u32 S.rel]
def caM (H : List (Chunk C0)) (k : Int → Arn → Prop) : Prop := match H with
  | [.box [.ptr 2 0, .slc 3, .slc 4, .val (.int .u64 rd)], .box [.val (.int .i64 key)], .box [.slc 5, .slc 6, .slc 7, .val (.int .u32 fr)], .row true .node nd, .row true .int ct, .row true .bool us, .row true .u32 gn, .row true .u32 rl] => k key ⟨us, gn, rl, fr, nd, ct, rd⟩
  | _ => False
def tEntry : Tfm C0 := fun args H K => match args, H with
  | [.agg [.val (.int .i64 k), .val (.int .i64 v), .val (.int .u32 _), .val (.int .u32 _), .val (.int .i64 _), .val (.int .i64 _), .val (.int .i64 _), .val (.int .i64 _)]], [] => K (.one (.agg [vI k, vI v])) [] []
  | _, _ => False
theorem s_entry : SoundT C0 132 tEntry := by
  refine .of Try.func132 (by decide) rfl fun args H K h hB => ⟨A0, trivial, ?_⟩
  unfold tEntry at h
  split at h <;> try exact h.elim
  exact Eq.mp (show _ = _ by kernel_rfl) h
structure XNr (F : Tr → (Int → Bool) → Option Ent → Option Ent × Nat) (S : Arn) (t : Tr) (p : Int → Bool) where
  i : Int
  t' : Tr
  b : Option Ent
  m : Nat
  h : Rep S t' i ∧ F t p none = ((F t' p b).1, m + (F t' p b).2) ∧ t'.size ≤ t.size
def tAdm_ceil : Tfm C0 := fun args H K => match args, H with
  | [.at (.val (.int .i64 k)), .at (.ptr 0 0)], [.box [.val (.int .i64 key)]] => K (.one (.at (vB (decide (k ≥ key))))) [.box [vI key]] []
  | _, _ => False
def tLu_ceil : Tfm C0 := fun args H K => match args with
  | [.at (.ptr 0 0), .at (.val (.int .u32 i)), .at (.val (.int .i64 key))] => arM H fun S => ∃ hs t, Wf S hs ∧ Rep S t i ∧ t.size ≤ 1000000 ∧ S.reads + t.size ≤ 3000000000000000000 ∧
    ∀ S' o, S' = rdS S (lsT t (fun k => decide (k ≥ key)) none).2 → o = (lsT t (fun k => decide (k ≥ key)) none).1 → K (.tup [entO o, .at (vB o.isSome)]) (chS S') [0]
  | _ => False
def tAdm_above : Tfm C0 := fun args H K => match args, H with
  | [.at (.val (.int .i64 k)), .at (.ptr 0 0)], [.box [.val (.int .i64 key)]] => K (.one (.at (vB (decide (k > key))))) [.box [vI key]] []
  | _, _ => False
theorem s_adm_above : SoundT C0 123 tAdm_above := by
  refine .of Try.func123 (by decide) rfl fun args H K h hB => ⟨A0, trivial, ?_⟩
  unfold tAdm_above at h
  split at h <;> try exact h.elim
  exact Eq.mp (show _ = _ by kernel_rfl) h
noncomputable def aNr_above (S : Arn) (t : Tr) (key : Int) : Ann C0 := { Γ := [(49, frameT [] tNode), (123, frameT [] tAdm_above), (132, frameT [] tEntry)], inv := fun n => match n with
  | 4 => some { X := XNr lsT S t (fun k => decide (k > key)), sl := [10, 9, 8, 6], tf := fun x => [vi .u32 x.i, vb x.b.isSome, .one (.at (.ptr 8 0)), .one (.at (.ptr 9 0))], hf := fun x => chA key (rdS S x.m) ++ [.box [vI (x.b.getD (0, 0)).1, vI (x.b.getD (0, 0)).2], .box [vI 0, vI 0]], μ := fun x => x.t'.size, wr := [0] }
  | _ => none }
def tNr_above : Tfm C0 := fun args H K => match args with
  | [.at (.ptr 0 0), .at (.val (.int .u32 i)), .at (.fn 123 [1])] => caM H fun key S => ∃ hs t, Wf S hs ∧ Rep S t i ∧ t.size ≤ 1000000 ∧ S.reads + t.size ≤ 3000000000000000000 ∧
    ∀ S' o, S' = rdS S (lsT t (fun k => decide (k > key)) none).2 → o = (lsT t (fun k => decide (k > key)) none).1 → K (.tup [entO o, .at (vB o.isSome)]) (chA key S') [0]
  | _ => False
noncomputable def aLu_above : Ann C0 := { Γ := [(113, frameT [] tNr_above)] }
def tLu_above : Tfm C0 := fun args H K => match args with
  | [.at (.ptr 0 0), .at (.val (.int .u32 i)), .at (.val (.int .i64 key))] => arM H fun S => ∃ hs t, Wf S hs ∧ Rep S t i ∧ t.size ≤ 1000000 ∧ S.reads + t.size ≤ 3000000000000000000 ∧
    ∀ S' o, S' = rdS S (lsT t (fun k => decide (k > key)) none).2 → o = (lsT t (fun k => decide (k > key)) none).1 → K (.tup [entO o, .at (vB o.isSome)]) (chS S') [0]
  | _ => False
theorem vc_nr_above (S : Arn) (i key : Int) (K : KT) (hs : List Int) (t : Tr) (hw : Wf S hs) (hr : Rep S t i) (h1 : t.size ≤ 1000000) (h2 : S.reads + t.size ≤ 3000000000000000000)
    (h : ∀ S' o, S' = rdS S (lsT t (fun k => decide (k > key)) none).2 → o = (lsT t (fun k => decide (k > key)) none).1 → K (.tup [entO o, .at (vB o.isSome)]) (chA key S') [0]) :
    vc C0 (aNr_above S t key) Try.f113 [.at (.ptr 0 0), .at (vU i), .at (.fn 123 [1])] (chA key S) (normK 8 (wideK [0] K)) := by
  refine Eq.mp (show ((∃ x : XNr lsT S t fun k => decide (k > key), (True ∧ (True ∧ ((At.fn 123 [1]) = (At.fn 123 [1])) ∧ True ∧ True ∧ ((Value.bool false) = (Value.bool (x.b.isSome))) ∧ ((Value.int IntKind.u32 (i)) = (Value.int IntKind.u32 (x.i))) ∧ True) ∧ (True ∧ True ∧ True ∧ ((Value.int IntKind.u64 (S.reads)) = (Value.int IntKind.u64 ((rdS S x.m).reads))) ∧ True) ∧ (((Value.int IntKind.i64 (key)) = (Value.int IntKind.i64 (key))) ∧ True) ∧ (True ∧ True ∧ True ∧ ((Value.int IntKind.u32 (S.fresh)) = (Value.int IntKind.u32 ((rdS S x.m).fresh))) ∧ True) ∧ ((S.nodes) = ((rdS S x.m).nodes)) ∧ ((S.counts) = ((rdS S x.m).counts)) ∧ ((S.used) = ((rdS S x.m).used)) ∧ ((S.gen) = ((rdS S x.m).gen)) ∧ ((S.rel) = ((rdS S x.m).rel)) ∧ (((Value.int IntKind.i64 0) = (Value.int IntKind.i64 ((x.b.getD (0, 0)).fst))) ∧ ((Value.int IntKind.i64 0) = (Value.int IntKind.i64 ((x.b.getD (0, 0)).snd))) ∧ True) ∧ (((Value.int IntKind.i64 0) = (Value.int IntKind.i64 0)) ∧ ((Value.int IntKind.i64 0) = (Value.int IntKind.i64 0)) ∧ True) ∧ True)) ∧
(∀ x : XNr lsT S t fun k => decide (k > key), (True → (brS (x.i != 0) (((inU x.i) ∧ (exW (rdS S x.m)) ∧ ((rdS S x.m).reads < 4000000000000000000) ∧ (∀ S' : Arn, (((S') = (rdS (rdS S x.m) ((rdS S x.m).us x.i).toNat)) → (brS (!(rdS S x.m).us x.i)
    ((K (SV.tup [(TV.agg [(At.val (Value.int IntKind.i64 ((x.b.getD (0, 0)).fst))), (At.val (Value.int IntKind.i64 ((x.b.getD (0, 0)).snd)))]), (TV.at (At.val (Value.bool (x.b.isSome))))]) [(Chunk.box [(At.ptr 2 0), (At.slc 3), (At.slc 4), (At.val (Value.int IntKind.u64 (S'.reads)))]), (Chunk.box [(At.val (Value.int IntKind.i64 (key)))]), (Chunk.box [(At.slc 5), (At.slc 6), (At.slc 7), (At.val (Value.int IntKind.u32 (S'.fresh)))]), (Chunk.row true (EC.node) (S'.nodes)), (Chunk.row true (EC.int) (S'.counts)), (Chunk.row true (EC.bool) (S'.used)), (Chunk.row true (EC.u32) (S'.gen)), (Chunk.row true (EC.u32) (S'.rel))] [0])) ((brS (!decide (((rdS S x.m).nd x.i).key > key)) ((∃ x' : XNr lsT S t fun k => decide (k > key), (True ∧ ((True ∧ ((At.fn 123 [1]) = (At.fn 123 [1])) ∧ True ∧ True ∧ ((Value.bool (x.b.isSome)) = (Value.bool (x'.b.isSome))) ∧ ((Value.int IntKind.u32 (((rdS S x.m).nd x.i).right)) = (Value.int IntKind.u32 (x'.i))) ∧ True) ∧ (True ∧ True ∧ True ∧ ((Value.int IntKind.u64 (S'.reads)) = (Value.int IntKind.u64 ((rdS S x'.m).reads))) ∧ True) ∧ (((Value.int IntKind.i64 (key)) = (Value.int IntKind.i64 (key))) ∧ True) ∧ (True ∧ True ∧ True ∧ ((Value.int IntKind.u32 (S'.fresh)) = (Value.int IntKind.u32 ((rdS S x'.m).fresh))) ∧ True) ∧ ((S'.nodes) = ((rdS S x'.m).nodes)) ∧ ((S'.counts) = ((rdS S x'.m).counts)) ∧ ((S'.used) = ((rdS S x'.m).used)) ∧ ((S'.gen) = ((rdS S x'.m).gen)) ∧ ((S'.rel) = ((rdS S x'.m).rel)) ∧
    (((Value.int IntKind.i64 ((x.b.getD (0, 0)).fst)) = (Value.int IntKind.i64 ((x'.b.getD (0, 0)).fst))) ∧ ((Value.int IntKind.i64 ((x.b.getD (0, 0)).snd)) = (Value.int IntKind.i64 ((x'.b.getD (0, 0)).snd))) ∧ True) ∧ (((Value.int IntKind.i64 0) = (Value.int IntKind.i64 0)) ∧ ((Value.int IntKind.i64 0) = (Value.int IntKind.i64 0)) ∧ True) ∧ True) ∧ (x'.t'.size < x.t'.size)))) ((∃ x' : XNr lsT S t fun k => decide (k > key), (True ∧ ((True ∧ ((At.fn 123 [1]) = (At.fn 123 [1])) ∧ True ∧ True ∧ ((Value.bool true) = (Value.bool (x'.b.isSome))) ∧ ((Value.int IntKind.u32 (((rdS S x.m).nd x.i).left)) = (Value.int IntKind.u32 (x'.i))) ∧ True) ∧ (True ∧ True ∧ True ∧ ((Value.int IntKind.u64 (S'.reads)) = (Value.int IntKind.u64 ((rdS S x'.m).reads))) ∧ True) ∧ (((Value.int IntKind.i64 (key)) = (Value.int IntKind.i64 (key))) ∧ True) ∧ (True ∧ True ∧ True ∧ ((Value.int IntKind.u32 (S'.fresh)) = (Value.int IntKind.u32 ((rdS S x'.m).fresh))) ∧ True) ∧ ((S'.nodes) = ((rdS S x'.m).nodes)) ∧ ((S'.counts) = ((rdS S x'.m).counts)) ∧ ((S'.used) = ((rdS S x'.m).used)) ∧ ((S'.gen) = ((rdS S x'.m).gen)) ∧ ((S'.rel) = ((rdS S x'.m).rel)) ∧ (((Value.int IntKind.i64 (((rdS S x.m).nd x.i).key)) = (Value.int IntKind.i64 ((x'.b.getD (0, 0)).fst))) ∧ ((Value.int IntKind.i64 (((rdS S x.m).nd x.i).value)) = (Value.int IntKind.i64 ((x'.b.getD (0, 0)).snd))) ∧ True) ∧ (((Value.int IntKind.i64 0) = (Value.int IntKind.i64 0)) ∧ ((Value.int IntKind.i64 0) = (Value.int IntKind.i64 0)) ∧ True) ∧ True) ∧
    (x'.t'.size < x.t'.size))))))))))) ((K (SV.tup [(TV.agg [(At.val (Value.int IntKind.i64 ((x.b.getD (0, 0)).fst))), (At.val (Value.int IntKind.i64 ((x.b.getD (0, 0)).snd)))]), (TV.at (At.val (Value.bool (x.b.isSome))))]) [(Chunk.box [(At.ptr 2 0), (At.slc 3), (At.slc 4), (At.val (Value.int IntKind.u64 ((rdS S x.m).reads)))]), (Chunk.box [(At.val (Value.int IntKind.i64 (key)))]), (Chunk.box [(At.slc 5), (At.slc 6), (At.slc 7), (At.val (Value.int IntKind.u32 ((rdS S x.m).fresh)))]), (Chunk.row true (EC.node) ((rdS S x.m).nodes)), (Chunk.row true (EC.int) ((rdS S x.m).counts)), (Chunk.row true (EC.bool) ((rdS S x.m).used)), (Chunk.row true (EC.u32) ((rdS S x.m).gen)), (Chunk.row true (EC.u32) ((rdS S x.m).rel))] [0])))))) = _ by kernel_rfl) ?_
  have hrd := hw.rds
  have hb := lsT_le t (fun k => decide (k > key)) none
  refine ⟨⟨⟨i, t, none, 0, hr, by simp, Nat.le_refl _⟩, ?_⟩, fun x _ => ?_⟩
  · (repeat' first | exact trivial | exact rfl | refine And.intro ?_ ?_)
    rw [rdS_zero]
  obtain ⟨xi, xt, xb, xm, h1', hb2, h3⟩ := x
  dsimp only
  have hxm : xm ≤ (lsT t (fun k => decide (k > key)) none).2 := by rw [hb2]; exact Nat.le_add_right _ _
  have hwx : Wf (rdS S xm) hs := hw.rd (by omega)
  refine brS_of (fun c => ?_) fun c => ?_
  · have c : xi ≠ 0 := by simpa using c
    cases xt with
    | nil => exact absurd h1' c
    | node l k v r =>
      obtain ⟨r1, r2, r3, r4, r5⟩ := h1'
      have hsz : l.size + r.size + 1 = (Tr.node l k v r).size := by simp [Tr.size]; omega
      refine ⟨inU_of hw (.inr r1), ⟨_, hwx⟩, by show S.reads + (xm : Int) < _; omega, fun S1 e1 => brS_of (fun d => ?_) fun _ => ?_⟩
      · have d : (!S.us xi) = true := d
        have d : S.us xi = false := by simpa using d
        rw [r1] at d; cases d
      have e1 : S1 = rdS S (xm + 1) := by rw [e1, rdS_rdS]; show rdS S (xm + (S.us xi).toNat) = _; rw [r1]; rfl
      subst e1
      have ek : ((rdS S xm).nd xi).key = k := r2
      have ev : ((rdS S xm).nd xi).value = v := r3
      rw [ek, ev]
      refine brS_of (fun d => ?_) fun d => ?_
      · have hc : ¬ decide (k > key) = true := by simpa using d
        refine ⟨⟨(S.nd xi).right, r, xb, xm + 1, r5, by rw [hb2]; simp only [lsT, if_neg hc]; exact Prod.ext rfl (by show _ = _; simp only []; omega), by omega⟩, ?_⟩
        (repeat' first | exact trivial | exact rfl | refine And.intro ?_ ?_)
        show r.size < (Tr.node l k v r).size; omega
      · have hc : decide (k > key) = true := by simpa using d
        refine ⟨⟨(S.nd xi).left, l, some (k, v), xm + 1, r4, by rw [hb2]; simp only [lsT, if_pos hc]; exact Prod.ext rfl (by show _ = _; simp only []; omega), by omega⟩, ?_⟩
        (repeat' first | exact trivial | exact rfl | refine And.intro ?_ ?_)
        show l.size < (Tr.node l k v r).size; omega
  · have c : xi = 0 := by simpa using c
    subst c
    have e := h1'.zero hw
    subst e
    exact h _ xb (by rw [hb2]; simp [lsT]) (by rw [hb2]; simp [lsT])
theorem s_nr_above : SoundT C0 113 tNr_above := by
  refine .ofW [0] Try.func113 (by decide) rfl fun args H K h hB => ?_
  unfold tNr_above at h
  split at h <;> try exact h.elim
  unfold caM at h
  split at h <;> try exact h.elim
  rename_i i _ rd key fr nd ct us gn rl
  obtain ⟨hs, t, h1, h2, h3, h4, h5⟩ := h
  exact ⟨aNr_above ⟨us, gn, rl, fr, nd, ct, rd⟩ t key, ⟨frame C0.ok s_node _, frame C0.ok s_adm_above _, frame C0.ok s_entry _, trivial⟩, vc_nr_above ⟨us, gn, rl, fr, nd, ct, rd⟩ i key K hs t h1 h2 h3 h4 h5⟩
theorem vc_lu_above (S : Arn) (i key : Int) (K : KT) (hs : List Int) (t : Tr) (hw : Wf S hs) (hr : Rep S t i) (h1 : t.size ≤ 1000000) (h2 : S.reads + t.size ≤ 3000000000000000000)
    (h : ∀ S' o, S' = rdS S (lsT t (fun k => decide (k > key)) none).2 → o = (lsT t (fun k => decide (k > key)) none).1 → K (.tup [entO o, .at (vB o.isSome)]) (chS S') [0]) :
    vc C0 aLu_above Try.f97 [.at (.ptr 0 0), .at (vU i), .at (vI key)] (chS S) (normK 7 (wideK [0] K)) :=
  Eq.mp (show (∃ hs : List Int, (∃ t : Tr, ((Wf S hs) ∧ (Rep S t i) ∧ (t.size ≤ 1000000) ∧ (S.reads + (↑t.size : Int) ≤ 3000000000000000000) ∧ (∀ S' : Arn, (∀ o : Option Ent, (((S') = (rdS S (lsT t (fun k => decide (k > key)) none).snd)) → (((o) = ((lsT t (fun k => decide (k > key)) none).fst)) → (K (SV.tup [(TV.agg [(At.val (Value.int IntKind.i64 ((o.getD (0, 0)).fst))), (At.val (Value.int IntKind.i64 ((o.getD (0, 0)).snd)))]), (TV.at (At.val (Value.bool (o.isSome))))]) [(Chunk.box [(At.ptr 1 0), (At.slc 2), (At.slc 3), (At.val (Value.int IntKind.u64 (S'.reads)))]), (Chunk.box [(At.slc 4), (At.slc 5), (At.slc 6), (At.val (Value.int IntKind.u32 (S'.fresh)))]), (Chunk.row true (EC.node) (S'.nodes)), (Chunk.row true (EC.int) (S'.counts)), (Chunk.row true (EC.bool) (S'.used)), (Chunk.row true (EC.u32) (S'.gen)), (Chunk.row true (EC.u32) (S'.rel))] [0])))))))) = _ by kernel_rfl) ⟨hs, t, hw, hr, h1, h2, h⟩
theorem s_lu_above : SoundT C0 97 tLu_above := by
  refine .ofW [0] Try.func97 (by decide) rfl fun args H K h hB => ?_
  unfold tLu_above at h
  split at h <;> try exact h.elim
  unfold arM at h
  split at h <;> try exact h.elim
  rename_i i key _ rd fr nd ct us gn rl
  obtain ⟨hs, t, h1, h2, h3, h4, h5⟩ := h
  exact ⟨aLu_above, ⟨frame C0.ok s_nr_above _, trivial⟩, vc_lu_above ⟨us, gn, rl, fr, nd, ct, rd⟩ i key K hs t h1 h2 h3 h4 h5⟩
def tAdm_floor : Tfm C0 := fun args H K => match args, H with
  | [.at (.val (.int .i64 k)), .at (.ptr 0 0)], [.box [.val (.int .i64 key)]] => K (.one (.at (vB (decide (k ≤ key))))) [.box [vI key]] []
  | _, _ => False
def tLu_floor : Tfm C0 := fun args H K => match args with
  | [.at (.ptr 0 0), .at (.val (.int .u32 i)), .at (.val (.int .i64 key))] => arM H fun S => ∃ hs t, Wf S hs ∧ Rep S t i ∧ t.size ≤ 1000000 ∧ S.reads + t.size ≤ 3000000000000000000 ∧
    ∀ S' o, S' = rdS S (gtT t (fun k => decide (k ≤ key)) none).2 → o = (gtT t (fun k => decide (k ≤ key)) none).1 → K (.tup [entO o, .at (vB o.isSome)]) (chS S') [0]
  | _ => False
def tAdm_below : Tfm C0 := fun args H K => match args, H with
  | [.at (.val (.int .i64 k)), .at (.ptr 0 0)], [.box [.val (.int .i64 key)]] => K (.one (.at (vB (decide (k < key))))) [.box [vI key]] []
  | _, _ => False
theorem s_adm_below : SoundT C0 122 tAdm_below := by
  refine .of Try.func122 (by decide) rfl fun args H K h hB => ⟨A0, trivial, ?_⟩
  unfold tAdm_below at h
  split at h <;> try exact h.elim
  exact Eq.mp (show _ = _ by kernel_rfl) h
noncomputable def aNr_below (S : Arn) (t : Tr) (key : Int) : Ann C0 := { Γ := [(49, frameT [] tNode), (122, frameT [] tAdm_below), (132, frameT [] tEntry)], inv := fun n => match n with
  | 4 => some { X := XNr gtT S t (fun k => decide (k < key)), sl := [10, 9, 8, 6], tf := fun x => [vi .u32 x.i, vb x.b.isSome, .one (.at (.ptr 8 0)), .one (.at (.ptr 9 0))], hf := fun x => chA key (rdS S x.m) ++ [.box [vI (x.b.getD (0, 0)).1, vI (x.b.getD (0, 0)).2], .box [vI 0, vI 0]], μ := fun x => x.t'.size, wr := [0] }
  | _ => none }
def tNr_below : Tfm C0 := fun args H K => match args with
  | [.at (.ptr 0 0), .at (.val (.int .u32 i)), .at (.fn 122 [1])] => caM H fun key S => ∃ hs t, Wf S hs ∧ Rep S t i ∧ t.size ≤ 1000000 ∧ S.reads + t.size ≤ 3000000000000000000 ∧
    ∀ S' o, S' = rdS S (gtT t (fun k => decide (k < key)) none).2 → o = (gtT t (fun k => decide (k < key)) none).1 → K (.tup [entO o, .at (vB o.isSome)]) (chA key S') [0]
  | _ => False
noncomputable def aLu_below : Ann C0 := { Γ := [(115, frameT [] tNr_below)] }
def tLu_below : Tfm C0 := fun args H K => match args with
  | [.at (.ptr 0 0), .at (.val (.int .u32 i)), .at (.val (.int .i64 key))] => arM H fun S => ∃ hs t, Wf S hs ∧ Rep S t i ∧ t.size ≤ 1000000 ∧ S.reads + t.size ≤ 3000000000000000000 ∧
    ∀ S' o, S' = rdS S (gtT t (fun k => decide (k < key)) none).2 → o = (gtT t (fun k => decide (k < key)) none).1 → K (.tup [entO o, .at (vB o.isSome)]) (chS S') [0]
  | _ => False
theorem vc_nr_below (S : Arn) (i key : Int) (K : KT) (hs : List Int) (t : Tr) (hw : Wf S hs) (hr : Rep S t i) (h1 : t.size ≤ 1000000) (h2 : S.reads + t.size ≤ 3000000000000000000)
    (h : ∀ S' o, S' = rdS S (gtT t (fun k => decide (k < key)) none).2 → o = (gtT t (fun k => decide (k < key)) none).1 → K (.tup [entO o, .at (vB o.isSome)]) (chA key S') [0]) :
    vc C0 (aNr_below S t key) Try.f115 [.at (.ptr 0 0), .at (vU i), .at (.fn 122 [1])] (chA key S) (normK 8 (wideK [0] K)) := by
  refine Eq.mp (show ((∃ x : XNr gtT S t fun k => decide (k < key), (True ∧ (True ∧ ((At.fn 122 [1]) = (At.fn 122 [1])) ∧ True ∧ True ∧ ((Value.bool false) = (Value.bool (x.b.isSome))) ∧ ((Value.int IntKind.u32 (i)) = (Value.int IntKind.u32 (x.i))) ∧ True) ∧ (True ∧ True ∧ True ∧ ((Value.int IntKind.u64 (S.reads)) = (Value.int IntKind.u64 ((rdS S x.m).reads))) ∧ True) ∧ (((Value.int IntKind.i64 (key)) = (Value.int IntKind.i64 (key))) ∧ True) ∧ (True ∧ True ∧ True ∧ ((Value.int IntKind.u32 (S.fresh)) = (Value.int IntKind.u32 ((rdS S x.m).fresh))) ∧ True) ∧ ((S.nodes) = ((rdS S x.m).nodes)) ∧ ((S.counts) = ((rdS S x.m).counts)) ∧ ((S.used) = ((rdS S x.m).used)) ∧ ((S.gen) = ((rdS S x.m).gen)) ∧ ((S.rel) = ((rdS S x.m).rel)) ∧ (((Value.int IntKind.i64 0) = (Value.int IntKind.i64 ((x.b.getD (0, 0)).fst))) ∧ ((Value.int IntKind.i64 0) = (Value.int IntKind.i64 ((x.b.getD (0, 0)).snd))) ∧ True) ∧ (((Value.int IntKind.i64 0) = (Value.int IntKind.i64 0)) ∧ ((Value.int IntKind.i64 0) = (Value.int IntKind.i64 0)) ∧ True) ∧ True)) ∧
(∀ x : XNr gtT S t fun k => decide (k < key), (True → (brS (x.i != 0) (((inU x.i) ∧ (exW (rdS S x.m)) ∧ ((rdS S x.m).reads < 4000000000000000000) ∧ (∀ S' : Arn, (((S') = (rdS (rdS S x.m) ((rdS S x.m).us x.i).toNat)) → (brS (!(rdS S x.m).us x.i)
    ((K (SV.tup [(TV.agg [(At.val (Value.int IntKind.i64 ((x.b.getD (0, 0)).fst))), (At.val (Value.int IntKind.i64 ((x.b.getD (0, 0)).snd)))]), (TV.at (At.val (Value.bool (x.b.isSome))))]) [(Chunk.box [(At.ptr 2 0), (At.slc 3), (At.slc 4), (At.val (Value.int IntKind.u64 (S'.reads)))]), (Chunk.box [(At.val (Value.int IntKind.i64 (key)))]), (Chunk.box [(At.slc 5), (At.slc 6), (At.slc 7), (At.val (Value.int IntKind.u32 (S'.fresh)))]), (Chunk.row true (EC.node) (S'.nodes)), (Chunk.row true (EC.int) (S'.counts)), (Chunk.row true (EC.bool) (S'.used)), (Chunk.row true (EC.u32) (S'.gen)), (Chunk.row true (EC.u32) (S'.rel))] [0])) ((brS (!decide (((rdS S x.m).nd x.i).key < key)) ((∃ x' : XNr gtT S t fun k => decide (k < key), (True ∧ ((True ∧ ((At.fn 122 [1]) = (At.fn 122 [1])) ∧ True ∧ True ∧ ((Value.bool (x.b.isSome)) = (Value.bool (x'.b.isSome))) ∧ ((Value.int IntKind.u32 (((rdS S x.m).nd x.i).left)) = (Value.int IntKind.u32 (x'.i))) ∧ True) ∧ (True ∧ True ∧ True ∧ ((Value.int IntKind.u64 (S'.reads)) = (Value.int IntKind.u64 ((rdS S x'.m).reads))) ∧ True) ∧ (((Value.int IntKind.i64 (key)) = (Value.int IntKind.i64 (key))) ∧ True) ∧ (True ∧ True ∧ True ∧ ((Value.int IntKind.u32 (S'.fresh)) = (Value.int IntKind.u32 ((rdS S x'.m).fresh))) ∧ True) ∧ ((S'.nodes) = ((rdS S x'.m).nodes)) ∧ ((S'.counts) = ((rdS S x'.m).counts)) ∧ ((S'.used) = ((rdS S x'.m).used)) ∧ ((S'.gen) = ((rdS S x'.m).gen)) ∧ ((S'.rel) = ((rdS S x'.m).rel)) ∧
    (((Value.int IntKind.i64 ((x.b.getD (0, 0)).fst)) = (Value.int IntKind.i64 ((x'.b.getD (0, 0)).fst))) ∧ ((Value.int IntKind.i64 ((x.b.getD (0, 0)).snd)) = (Value.int IntKind.i64 ((x'.b.getD (0, 0)).snd))) ∧ True) ∧ (((Value.int IntKind.i64 0) = (Value.int IntKind.i64 0)) ∧ ((Value.int IntKind.i64 0) = (Value.int IntKind.i64 0)) ∧ True) ∧ True) ∧ (x'.t'.size < x.t'.size)))) ((∃ x' : XNr gtT S t fun k => decide (k < key), (True ∧ ((True ∧ ((At.fn 122 [1]) = (At.fn 122 [1])) ∧ True ∧ True ∧ ((Value.bool true) = (Value.bool (x'.b.isSome))) ∧ ((Value.int IntKind.u32 (((rdS S x.m).nd x.i).right)) = (Value.int IntKind.u32 (x'.i))) ∧ True) ∧ (True ∧ True ∧ True ∧ ((Value.int IntKind.u64 (S'.reads)) = (Value.int IntKind.u64 ((rdS S x'.m).reads))) ∧ True) ∧ (((Value.int IntKind.i64 (key)) = (Value.int IntKind.i64 (key))) ∧ True) ∧ (True ∧ True ∧ True ∧ ((Value.int IntKind.u32 (S'.fresh)) = (Value.int IntKind.u32 ((rdS S x'.m).fresh))) ∧ True) ∧ ((S'.nodes) = ((rdS S x'.m).nodes)) ∧ ((S'.counts) = ((rdS S x'.m).counts)) ∧ ((S'.used) = ((rdS S x'.m).used)) ∧ ((S'.gen) = ((rdS S x'.m).gen)) ∧ ((S'.rel) = ((rdS S x'.m).rel)) ∧ (((Value.int IntKind.i64 (((rdS S x.m).nd x.i).key)) = (Value.int IntKind.i64 ((x'.b.getD (0, 0)).fst))) ∧ ((Value.int IntKind.i64 (((rdS S x.m).nd x.i).value)) = (Value.int IntKind.i64 ((x'.b.getD (0, 0)).snd))) ∧ True) ∧ (((Value.int IntKind.i64 0) = (Value.int IntKind.i64 0)) ∧ ((Value.int IntKind.i64 0) = (Value.int IntKind.i64 0)) ∧ True) ∧ True) ∧
    (x'.t'.size < x.t'.size))))))))))) ((K (SV.tup [(TV.agg [(At.val (Value.int IntKind.i64 ((x.b.getD (0, 0)).fst))), (At.val (Value.int IntKind.i64 ((x.b.getD (0, 0)).snd)))]), (TV.at (At.val (Value.bool (x.b.isSome))))]) [(Chunk.box [(At.ptr 2 0), (At.slc 3), (At.slc 4), (At.val (Value.int IntKind.u64 ((rdS S x.m).reads)))]), (Chunk.box [(At.val (Value.int IntKind.i64 (key)))]), (Chunk.box [(At.slc 5), (At.slc 6), (At.slc 7), (At.val (Value.int IntKind.u32 ((rdS S x.m).fresh)))]), (Chunk.row true (EC.node) ((rdS S x.m).nodes)), (Chunk.row true (EC.int) ((rdS S x.m).counts)), (Chunk.row true (EC.bool) ((rdS S x.m).used)), (Chunk.row true (EC.u32) ((rdS S x.m).gen)), (Chunk.row true (EC.u32) ((rdS S x.m).rel))] [0])))))) = _ by kernel_rfl) ?_
  have hrd := hw.rds
  have hb := gtT_le t (fun k => decide (k < key)) none
  refine ⟨⟨⟨i, t, none, 0, hr, by simp, Nat.le_refl _⟩, ?_⟩, fun x _ => ?_⟩
  · (repeat' first | exact trivial | exact rfl | refine And.intro ?_ ?_)
    rw [rdS_zero]
  obtain ⟨xi, xt, xb, xm, h1', hb2, h3⟩ := x
  dsimp only
  have hxm : xm ≤ (gtT t (fun k => decide (k < key)) none).2 := by rw [hb2]; exact Nat.le_add_right _ _
  have hwx : Wf (rdS S xm) hs := hw.rd (by omega)
  refine brS_of (fun c => ?_) fun c => ?_
  · have c : xi ≠ 0 := by simpa using c
    cases xt with
    | nil => exact absurd h1' c
    | node l k v r =>
      obtain ⟨r1, r2, r3, r4, r5⟩ := h1'
      have hsz : l.size + r.size + 1 = (Tr.node l k v r).size := by simp [Tr.size]; omega
      refine ⟨inU_of hw (.inr r1), ⟨_, hwx⟩, by show S.reads + (xm : Int) < _; omega, fun S1 e1 => brS_of (fun d => ?_) fun _ => ?_⟩
      · have d : (!S.us xi) = true := d
        have d : S.us xi = false := by simpa using d
        rw [r1] at d; cases d
      have e1 : S1 = rdS S (xm + 1) := by rw [e1, rdS_rdS]; show rdS S (xm + (S.us xi).toNat) = _; rw [r1]; rfl
      subst e1
      have ek : ((rdS S xm).nd xi).key = k := r2
      have ev : ((rdS S xm).nd xi).value = v := r3
      rw [ek, ev]
      refine brS_of (fun d => ?_) fun d => ?_
      · have hc : ¬ decide (k < key) = true := by simpa using d
        refine ⟨⟨(S.nd xi).left, l, xb, xm + 1, r4, by rw [hb2]; simp only [gtT, if_neg hc]; exact Prod.ext rfl (by show _ = _; simp only []; omega), by omega⟩, ?_⟩
        (repeat' first | exact trivial | exact rfl | refine And.intro ?_ ?_)
        show l.size < (Tr.node l k v r).size; omega
      · have hc : decide (k < key) = true := by simpa using d
        refine ⟨⟨(S.nd xi).right, r, some (k, v), xm + 1, r5, by rw [hb2]; simp only [gtT, if_pos hc]; exact Prod.ext rfl (by show _ = _; simp only []; omega), by omega⟩, ?_⟩
        (repeat' first | exact trivial | exact rfl | refine And.intro ?_ ?_)
        show r.size < (Tr.node l k v r).size; omega
  · have c : xi = 0 := by simpa using c
    subst c
    have e := h1'.zero hw
    subst e
    exact h _ xb (by rw [hb2]; simp [gtT]) (by rw [hb2]; simp [gtT])
theorem s_nr_below : SoundT C0 115 tNr_below := by
  refine .ofW [0] Try.func115 (by decide) rfl fun args H K h hB => ?_
  unfold tNr_below at h
  split at h <;> try exact h.elim
  unfold caM at h
  split at h <;> try exact h.elim
  rename_i i _ rd key fr nd ct us gn rl
  obtain ⟨hs, t, h1, h2, h3, h4, h5⟩ := h
  exact ⟨aNr_below ⟨us, gn, rl, fr, nd, ct, rd⟩ t key, ⟨frame C0.ok s_node _, frame C0.ok s_adm_below _, frame C0.ok s_entry _, trivial⟩, vc_nr_below ⟨us, gn, rl, fr, nd, ct, rd⟩ i key K hs t h1 h2 h3 h4 h5⟩
theorem vc_lu_below (S : Arn) (i key : Int) (K : KT) (hs : List Int) (t : Tr) (hw : Wf S hs) (hr : Rep S t i) (h1 : t.size ≤ 1000000) (h2 : S.reads + t.size ≤ 3000000000000000000)
    (h : ∀ S' o, S' = rdS S (gtT t (fun k => decide (k < key)) none).2 → o = (gtT t (fun k => decide (k < key)) none).1 → K (.tup [entO o, .at (vB o.isSome)]) (chS S') [0]) :
    vc C0 aLu_below Try.f95 [.at (.ptr 0 0), .at (vU i), .at (vI key)] (chS S) (normK 7 (wideK [0] K)) :=
  Eq.mp (show (∃ hs : List Int, (∃ t : Tr, ((Wf S hs) ∧ (Rep S t i) ∧ (t.size ≤ 1000000) ∧ (S.reads + (↑t.size : Int) ≤ 3000000000000000000) ∧ (∀ S' : Arn, (∀ o : Option Ent, (((S') = (rdS S (gtT t (fun k => decide (k < key)) none).snd)) → (((o) = ((gtT t (fun k => decide (k < key)) none).fst)) → (K (SV.tup [(TV.agg [(At.val (Value.int IntKind.i64 ((o.getD (0, 0)).fst))), (At.val (Value.int IntKind.i64 ((o.getD (0, 0)).snd)))]), (TV.at (At.val (Value.bool (o.isSome))))]) [(Chunk.box [(At.ptr 1 0), (At.slc 2), (At.slc 3), (At.val (Value.int IntKind.u64 (S'.reads)))]), (Chunk.box [(At.slc 4), (At.slc 5), (At.slc 6), (At.val (Value.int IntKind.u32 (S'.fresh)))]), (Chunk.row true (EC.node) (S'.nodes)), (Chunk.row true (EC.int) (S'.counts)), (Chunk.row true (EC.bool) (S'.used)), (Chunk.row true (EC.u32) (S'.gen)), (Chunk.row true (EC.u32) (S'.rel))] [0])))))))) = _ by kernel_rfl) ⟨hs, t, hw, hr, h1, h2, h⟩
theorem s_lu_below : SoundT C0 95 tLu_below := by
  refine .ofW [0] Try.func95 (by decide) rfl fun args H K h hB => ?_
  unfold tLu_below at h
  split at h <;> try exact h.elim
  unfold arM at h
  split at h <;> try exact h.elim
  rename_i i key _ rd fr nd ct us gn rl
  obtain ⟨hs, t, h1, h2, h3, h4, h5⟩ := h
  exact ⟨aLu_below, ⟨frame C0.ok s_nr_below _, trivial⟩, vc_lu_below ⟨us, gn, rl, fr, nd, ct, rd⟩ i key K hs t h1 h2 h3 h4 h5⟩
end Go.Proofs.Ytjbkckcjmmmooaa.Sx
end
