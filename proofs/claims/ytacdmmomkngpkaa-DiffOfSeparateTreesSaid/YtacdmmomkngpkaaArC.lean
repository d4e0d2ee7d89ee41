/- Making a node of two trees that are handed over; planting a tree. No program in sight. -/
import Derived.Test.YtacdmmomkngpkaaArB
namespace Go.Proofs.Ytacdmmomkngpkaa
open Go

variable {S S' S'' : Arn} {hs : List Int}

theorem indeg_pos (h : Wf S hs) {i j : Int} (hj : S.us j = true) (he : (S.nd j).left = i ∨ (S.nd j).right = i) : 1 ≤ S.indeg i := by
  have hp := h.pos hj
  have hn := h.nnod
  have hm : S.nd j ∈ S.nodes := by
    have : j.toNat < S.nodes.length := by omega
    unfold Arn.nd
    rw [List.getD_eq_getElem?_getD, List.getElem?_eq_getElem this]
    exact List.getElem_mem this
  unfold Arn.indeg
  rcases he with he | he
  · have := (List.countP_pos_iff (p := fun x : NodeT => x.left == i)).2 ⟨S.nd j, hm, by simpa using he⟩
    omega
  · have := (List.countP_pos_iff (p := fun x : NodeT => x.right == i)).2 ⟨S.nd j, hm, by simpa using he⟩
    omega
/-- A reference is given back to a tree that is held otherwise as well. -/
def relA (S : Arn) (i : Int) : Arn := if S.us i then decS S i else S
theorem relA_same (S : Arn) (i j : Int) : (relA S i).us j = S.us j ∧ (relA S i).nd j = S.nd j ∧ (relA S i).gn j = S.gn j ∧ (relA S i).indeg j = S.indeg j := by
  unfold relA; split <;> exact ⟨rfl, rfl, rfl, rfl⟩
theorem relA_flds (S : Arn) (i : Int) : (relA S i).reads = S.reads ∧ (relA S i).used = S.used ∧ (relA S i).nu = S.nu ∧ (relA S i).free = S.free ∧ (relA S i).nodes = S.nodes ∧ (relA S i).rel = S.rel ∧ (relA S i).fresh = S.fresh := by
  unfold relA; split <;> exact ⟨rfl, rfl, rfl, rfl, rfl, rfl, rfl⟩
theorem Wf.two {i : Int} (h : Wf S (i :: hs)) (hi : S.us i = true) (hd : 1 ≤ S.indeg i) : 1 < S.ct i := by
  obtain ⟨h1, _⟩ := h.cnt i hi
  rw [List.count_cons_self] at h1
  omega
theorem Wf.give {i : Int} (h : Wf S (i :: hs)) (hd : S.us i = true → 1 ≤ S.indeg i) : Wf (relA S i) hs := by
  unfold relA
  split
  · rename_i hi
    exact h.dec hi (h.two hi (hd hi))
  · rename_i hi
    have : i = 0 := (h.held i (by simp)).resolve_right hi
    subst this
    exact h.of_zero
theorem Wf.given {i : Int} (h : Wf S (i :: hs)) (hd : S.us i = true → 1 ≤ S.indeg i) (h1 : 1 < S.ct i → S.us i = true → S' = decS S i) (h2 : S.us i = false → S' = S) : S' = relA S i := by
  unfold relA
  cases hi : S.us i with
  | true => rw [if_pos rfl]; exact h1 (h.two hi (hd hi)) hi
  | false => simp; exact h2 hi
theorem Rep.same (hu : ∀ j, S'.us j = S.us j) (hn : ∀ j, S'.nd j = S.nd j) : ∀ {t : Tr} {i : Int}, Rep S t i → Rep S' t i
  | .nil, i, hr => hr
  | .node l k v r, i, hr => by
    obtain ⟨h1, h2, h3, h4, h5⟩ := hr
    exact ⟨(hu i).trans h1, by rw [hn]; exact h2, by rw [hn]; exact h3, by rw [hn]; exact Rep.same hu hn h4, by rw [hn]; exact Rep.same hu hn h5⟩
theorem stay_same (hu : ∀ j, S'.us j = S.us j) (hn : ∀ j, S'.nd j = S.nd j) (hg : ∀ j, S'.gn j = S.gn j) (hs : List Int) : Stay S S' hs := fun i hi => ⟨(hu i).trans hi.us, hn i, hg i⟩
theorem stay_relA (S : Arn) (i : Int) (hs : List Int) : Stay S (relA S i) hs := stay_same (fun j => (relA_same S i j).1) (fun j => (relA_same S i j).2.1) (fun j => (relA_same S i j).2.2.1) hs

def nodeS (S : Arn) (k v l r : Int) : Arn := relA (relA (makeS S k v l r) l) r
theorem make_flds (h : Wf S hs) (hf : 0 < S.free) {k v l r : Int} : (makeS S k v l r).reads = S.reads ∧ (makeS S k v l r).used.length = S.used.length ∧ (makeS S k v l r).nu = S.nu + 1 := by
  obtain ⟨h1, h2, h3, _⟩ := h.nxt_spec hf
  refine ⟨rfl, by simp [makeS], ?_⟩
  have a := countP_set' id S.used (nxt S).toNat true false (by omega)
  have : S.used.getD (nxt S).toNat false = false := h3
  rw [this] at a
  simp at a
  unfold Arn.nu makeS
  simp
  omega
theorem make_rep (h : Wf S hs) (hf : 0 < S.free) {k v l r : Int} : ∀ {t : Tr} {i : Int}, Rep S t i → Rep (makeS S k v l r) t i
  | .nil, i, hr => hr
  | .node tl kk vv tr, i, hr => by
    obtain ⟨h1, h2, h3, h4, h5⟩ := hr
    have hx := (h.nxt_spec hf).2.2.1
    have e : i ≠ nxt S := fun e => by rw [e, hx] at h1; cases h1
    have en : (makeS S k v l r).nd i = S.nd i := by rw [make_nd h hf, if_neg e]
    exact ⟨(make_us h hf i).2 (.inr h1), by rw [en]; exact h2, by rw [en]; exact h3, by rw [en]; exact make_rep h hf h4, by rw [en]; exact make_rep h hf h5⟩

/-- The steps from a new node to the two references given back, from what the calls promise. -/
structure NodeR (S : Arn) (hs : List Int) (k v : Int) (tl tr : Tr) (S' : Arn) (i : Int) : Prop where
  wf : Wf S' (i :: hs)
  rep : Rep S' (.node tl k v tr) i
  stay : Stay S S' hs
  len : S'.used.length = S.used.length
  rds : S'.reads = S.reads
  nu : S'.nu = S.nu + 1
  pos : 1 ≤ i
theorem node_two {k v l r : Int} (h : Wf S (l :: r :: hs)) (hf : 0 < S.free) (hz : (mkNode S k v l r).size ≤ maxSize) (hl : hs.length ≤ 999999990) :
    Wf (makeS S k v l r) (l :: (nxt S :: r :: hs)) ∧ ((makeS S k v l r).us l = true → 1 ≤ (makeS S k v l r).indeg l) ∧ Wf (relA (makeS S k v l r) l) (r :: (nxt S :: hs)) ∧ ((relA (makeS S k v l r) l).us r = true → 1 ≤ (relA (makeS S k v l r) l).indeg r) := by
  have hl1 := h.held l (by simp)
  have hr1 := h.held r (by simp)
  have hm := h.make (k := k) (v := v) hl1 hr1 hf hz (by simp; omega)
  obtain ⟨h1, h2, h3, _⟩ := h.nxt_spec hf
  have hm1 : Wf (makeS S k v l r) (l :: (nxt S :: r :: hs)) := hm.perm (List.Perm.swap _ _ _)
  have hu : (makeS S k v l r).us (nxt S) = true := (make_us h hf _).2 (.inl rfl)
  have hn : (makeS S k v l r).nd (nxt S) = mkNode S k v l r := by rw [make_nd h hf, if_pos rfl]
  obtain ⟨_, _, m1, m2⟩ := mkNode_flds S k v l r
  have d1 : 1 ≤ (makeS S k v l r).indeg l := indeg_pos hm hu (.inl (by rw [hn, m1]))
  have d2 : 1 ≤ (makeS S k v l r).indeg r := indeg_pos hm hu (.inr (by rw [hn, m2]))
  refine ⟨hm1, fun _ => d1, (hm1.give fun _ => d1).perm (List.Perm.swap _ _ _), fun _ => ?_⟩
  rw [(relA_same _ _ _).2.2.2]; exact d2
theorem node_ok {k v l r : Int} {tl tr : Tr} (h : Wf S (l :: r :: hs)) (hf : 0 < S.free) (hz : (mkNode S k v l r).size ≤ maxSize) (hl : hs.length ≤ 999999990) (h1 : Rep S tl l) (h2 : Rep S tr r) : NodeR S hs k v tl tr (nodeS S k v l r) (nxt S) := by
  obtain ⟨a1, a2, a3, a4⟩ := node_two (k := k) (v := v) h hf hz hl
  obtain ⟨x1, x2, x3, _⟩ := h.nxt_spec hf
  have e1 : ∀ j, (nodeS S k v l r).us j = (makeS S k v l r).us j := fun j => by unfold nodeS; rw [(relA_same _ _ _).1, (relA_same _ _ _).1]
  have e2 : ∀ j, (nodeS S k v l r).nd j = (makeS S k v l r).nd j := fun j => by unfold nodeS; rw [(relA_same _ _ _).2.1, (relA_same _ _ _).2.1]
  have e3 : ∀ j, (nodeS S k v l r).gn j = (makeS S k v l r).gn j := fun j => by unfold nodeS; rw [(relA_same _ _ _).2.2.1, (relA_same _ _ _).2.2.1]
  obtain ⟨f1, f2, f3⟩ := make_flds h hf (k := k) (v := v) (l := l) (r := r)
  obtain ⟨p1, p2, p3, _⟩ := relA_flds (makeS S k v l r) l
  obtain ⟨q1, q2, q3, _⟩ := relA_flds (relA (makeS S k v l r) l) r
  have hn : (makeS S k v l r).nd (nxt S) = mkNode S k v l r := by rw [make_nd h hf, if_pos rfl]
  obtain ⟨m3, m4, m1, m2⟩ := mkNode_flds S k v l r
  refine ⟨a3.give a4, ?_, (stay_make h hf hs).trans (stay_same e1 e2 e3 hs), ?_, ?_, ?_, x1⟩
  · refine ⟨by rw [e1, make_us h hf]; exact .inl rfl, by rw [e2, hn, m3], by rw [e2, hn, m4], ?_, ?_⟩
    · rw [e2, hn, m1]; exact (make_rep h hf h1).same e1 e2
    · rw [e2, hn, m2]; exact (make_rep h hf h2).same e1 e2
  · unfold nodeS; rw [q2, p2]; exact f2
  · unfold nodeS; rw [q1, p1]; exact f1
  · unfold nodeS; rw [q3, p3]; exact f3
theorem mk_size {k v l r : Int} (h : Wf S hs) {tl tr : Tr} (h1 : Rep S tl l) (h2 : Rep S tr r) : (mkNode S k v l r).size = 1 + tl.size + tr.size := by
  rw [h.mkNode_size, h1.size h, h2.size h]

/-! ### Balance -/
def balN (l r : Int) : Prop := l + 1 ≤ 3 * (r + 1) ∧ r + 1 ≤ 3 * (l + 1)
instance (l r : Int) : Decidable (balN l r) := by unfold balN; infer_instance
def Tr.Bal : Tr → Prop
  | .nil => True
  | .node l _ _ r => balN l.size r.size ∧ l.Bal ∧ r.Bal

/-- A tree with the entries of a list is made, and held. -/
structure PlantR (S : Arn) (hs : List Int) (l : List Ent) (S' : Arn) (i : Int) : Prop where
  wf : Wf S' (i :: hs)
  rep : ∃ t, Rep S' t i ∧ t.list = l ∧ t.Bal
  stay : Stay S S' hs
  len : S'.used.length = S.used.length
  rds : S'.reads = S.reads
  nu : S'.nu = S.nu + l.length
theorem PlantR.nil (h : Wf S hs) (hl : hs.length ≤ 1000000000) : PlantR S hs [] S 0 := ⟨h.zero_cons hl, ⟨.nil, rfl, rfl, trivial⟩, Stay.refl _ _, rfl, rfl, rfl⟩
/-- From two planted trees to the tree of both with an entry between. -/
theorem PlantR.node {S1 S2 S3 : Arn} {a b : List Ent} {e : Ent} {il ir i : Int} (h1 : PlantR S hs a S1 il) (h2 : PlantR S1 (il :: hs) b S2 ir) (hb : balN a.length b.length)
    (h3 : ∀ tl tr, Rep S2 tl il → Rep S2 tr ir → NodeR S2 hs e.1 e.2 tl tr S3 i) : PlantR S hs (a ++ e :: b) S3 i := by
  obtain ⟨tl, r1, r2, r3⟩ := h1.rep
  obtain ⟨tr, q1, q2, q3⟩ := h2.rep
  have r1' : Rep S2 tl il := r1.held h1.wf h2.stay (.inr (by simp))
  have n := h3 tl tr r1' q1
  refine ⟨n.wf, ⟨_, n.rep, ?_, ?_, r3, q3⟩, ?_, ?_, ?_, ?_⟩
  · simp [Tr.list, r2, q2]
  · rw [← tl.list_len, ← tr.list_len, r2, q2]; exact hb
  · exact (h1.stay.trans (h2.stay.mono (by simp_all))).trans n.stay
  · rw [n.len, h2.len, h1.len]
  · rw [n.rds, h2.rds, h1.rds]
  · rw [n.nu, h2.nu, h1.nu]; simp; omega
end Go.Proofs.Ytacdmmomkngpkaa
