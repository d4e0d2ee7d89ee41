/- A part of the proof. -/
import Derived.Test.YtmjnoiajenoinaaG8
import Derived.Test.YtmjnoiajenoinaaG6
section
/- A move of a cursor and of the reference's. -/
namespace Go.Proofs.Ytmjnoiajenoinaa.Sx
open Go

/-KEEP Wf exW inU live Arn.cap Arn.free Rep rdS Tr.size Tr.list nextC prevC findC entO betE entR relC rkE Asc tgtE entC mvC-/
def keepC (c c' : Cur) : Prop := c'.root = c.root ∧ c'.lo = c.lo ∧ c'.hi = c.hi ∧ c'.closed = c.closed
theorem mvC_keep (c : Cur) (o : Option Ent) (p : Int) : keepC c (mvC c o p) := by cases o <;> exact ⟨rfl, rfl, rfl, rfl⟩
theorem next_rel {t : Tr} {c : Cur} {k : Int} {W : List Ent} (hW : W = betE t.list c.lo c.hi) (ha : Asc t.list) (hc : c.closed = false) (hk : relC W c k) :
    ∃ c', nextC t c = (c', entR W (if k ≤ W.length then k + 1 else k), errE (entR W (if k ≤ W.length then k + 1 else k))) ∧ relC W c' (if k ≤ W.length then k + 1 else k) ∧ keepC c c' := by
  subst hW
  by_cases z : k ≤ ((betE t.list c.lo c.hi).length : Int)
  · rw [if_pos z]
    have k0 : 0 ≤ k := by rcases hk with h | h | h <;> omega
    have hp : posN (betE t.list c.lo c.hi) c k.toNat := by
      rcases hk with h | h | h
      · exact .inl ⟨by omega, h.2⟩
      · exact .inr ⟨by omega, h.2.2.1, h.2.2.2⟩
      · omega
    have e : entR (betE t.list c.lo c.hi) (k + 1) = (betE t.list c.lo c.hi)[k.toNat]? := by
      unfold entR; rw [if_neg (by omega), show (k + 1).toNat - 1 = k.toNat by omega]
    rw [nextC_pos ha hc hp, e]
    refine ⟨_, rfl, ?_, mvC_keep _ _ _⟩
    by_cases y : k.toNat < (betE t.list c.lo c.hi).length
    · rw [List.getElem?_eq_getElem y]
      exact .inr (.inl ⟨by omega, by omega, rfl, by rw [show (k + 1).toNat - 1 = k.toNat by omega, List.getElem?_eq_getElem y]; rfl⟩)
    · rw [List.getElem?_eq_none (by omega)]
      exact .inr (.inr ⟨by omega, rfl⟩)
  · rw [if_neg z]
    have h3 : k = ((betE t.list c.lo c.hi).length : Int) + 1 ∧ c.place = 2 := by
      rcases hk with h | h | h
      · omega
      · omega
      · exact h
    have e : entR (betE t.list c.lo c.hi) k = none := by unfold entR; rw [if_neg (by omega), List.getElem?_eq_none (by omega)]
    rw [nextC_end hc h3.2, e]
    exact ⟨c, rfl, .inr (.inr h3), rfl, rfl, rfl, rfl⟩
theorem prev_rel {t : Tr} {c : Cur} {k : Int} {W : List Ent} (hW : W = betE t.list c.lo c.hi) (ha : Asc t.list) (hc : c.closed = false) (hk : relC W c k) :
    ∃ c', prevC t c = (c', entR W (if 0 < k then k - 1 else k), errE (entR W (if 0 < k then k - 1 else k))) ∧ relC W c' (if 0 < k then k - 1 else k) ∧ keepC c c' := by
  subst hW
  by_cases z : 0 < k
  · rw [if_pos z]
    have hp : posP (betE t.list c.lo c.hi) c (k - 1).toNat := by
      rcases hk with h | h | h
      · omega
      · exact .inr ⟨by omega, h.2.2.1, by rw [show (k - 1).toNat = k.toNat - 1 by omega]; exact h.2.2.2⟩
      · exact .inl ⟨by omega, h.2⟩
    have hn : k ≤ ((betE t.list c.lo c.hi).length : Int) + 1 := by rcases hk with h | h | h <;> omega
    have e : entR (betE t.list c.lo c.hi) (k - 1) = if (k - 1).toNat = 0 then none else (betE t.list c.lo c.hi)[(k - 1).toNat - 1]? := by
      unfold entR
      by_cases y : k - 1 ≤ 0
      · rw [if_pos y, if_pos (by omega)]
      · rw [if_neg y, if_neg (by omega)]
    rw [prevC_pos ha hc hp, e]
    refine ⟨_, rfl, ?_, mvC_keep _ _ _⟩
    by_cases y : (k - 1).toNat = 0
    · rw [if_pos y]; exact .inl ⟨by omega, rfl⟩
    · have hlt : (k - 1).toNat - 1 < (betE t.list c.lo c.hi).length := by omega
      rw [if_neg y, List.getElem?_eq_getElem hlt]
      exact .inr (.inl ⟨by omega, by omega, rfl, by rw [List.getElem?_eq_getElem hlt]; rfl⟩)
  · rw [if_neg z]
    have h1 : k = 0 ∧ c.place = 0 := by
      rcases hk with h | h | h
      · exact h
      · omega
      · omega
    have e : entR (betE t.list c.lo c.hi) k = none := by unfold entR; rw [if_pos (by omega)]
    rw [prevC_end hc h1.2, e]
    exact ⟨c, rfl, .inl h1, rfl, rfl, rfl, rfl⟩
theorem find_rk {q : Int} : ∀ {W : List Ent}, Asc W → (W.find? fun x => decide (x.1 ≥ q)) = W[rkE W q]?
  | [], _ => rfl
  | a :: W, h => by
    have hh := h.head
    rw [List.find?_cons]
    by_cases c : a.1 ≥ q
    · have e : rkE (a :: W) q = 0 := by
        unfold rkE
        rw [List.length_eq_zero_iff, List.filter_eq_nil_iff]
        intro x hx
        rcases List.mem_cons.1 hx with rfl | hx
        · simp; omega
        · have : a.1 < x.1 := hh x hx
          simp; omega
      rw [e, decide_eq_true c]; rfl
    · have e : rkE (a :: W) q = rkE W q + 1 := by
        unfold rkE
        rw [List.filter_cons, if_pos (by simp; omega)]; rfl
      rw [e, decide_eq_false c]
      simp only [List.getElem?_cons_succ]
      exact find_rk h.tail
theorem find_cong {α : Type} {p q : α → Bool} : ∀ {l : List α}, (∀ x ∈ l, p x = q x) → l.find? p = l.find? q
  | [], _ => rfl
  | a :: l, h => by
    rw [List.find?_cons, List.find?_cons, h a (by simp), find_cong fun x hx => h x (by simp [hx])]
theorem find_rel {t : Tr} {c : Cur} {key : Int} {W : List Ent} (hW : W = betE t.list c.lo c.hi) (ha : Asc t.list) :
    ∃ c', findC t c key = (c', entR W ((rkE W key : Int) + 1)) ∧ relC W c' ((rkE W key : Int) + 1) ∧ keepC c c' := by
  subst hW
  have hWa : Asc (betE t.list c.lo c.hi) := ha.filter _
  have e0 : ((lsT t (fun k => decide (k ≥ if c.lo > key then c.lo else key)) none).1).filter (inC c) = (betE t.list c.lo c.hi)[rkE (betE t.list c.lo c.hi) key]? := by
    rw [lsT_find t _ none ha (by intro i j h1 h2; simp at h2 ⊢; omega), Option.or_none]
    rw [find_filter (fun x : Ent => decide (x.1 ≥ if c.lo > key then c.lo else key)) (inC c) (List.Pairwise.imp (fun {x y} hxy hp hi => ?_) ha)]
    · have e1 : (t.list.filter (inC c)) = betE t.list c.lo c.hi := rfl
      rw [e1, ← find_rk hWa]
      refine find_cong fun x hx => ?_
      have := betE_mem hx
      apply decide_eq_decide.2
      split <;> omega
    · have hxy : x.1 < y.1 := hxy
      unfold inC at hi ⊢
      simp at hp hi ⊢
      intro _
      split at hp <;> omega
  have e : entR (betE t.list c.lo c.hi) ((rkE (betE t.list c.lo c.hi) key : Int) + 1) = (betE t.list c.lo c.hi)[rkE (betE t.list c.lo c.hi) key]? := by
    unfold entR; rw [if_neg (by omega)]; congr 1
  unfold findC
  rw [moveC_eq, e0, e]
  refine ⟨_, rfl, ?_, mvC_keep _ _ _⟩
  have hr := rkE_le (betE t.list c.lo c.hi) key
  by_cases y : rkE (betE t.list c.lo c.hi) key < (betE t.list c.lo c.hi).length
  · rw [List.getElem?_eq_getElem y]
    refine .inr (.inl ⟨by omega, by omega, rfl, ?_⟩)
    have : ((rkE (betE t.list c.lo c.hi) key : Int) + 1).toNat - 1 = rkE (betE t.list c.lo c.hi) key := by omega
    rw [this, List.getElem?_eq_getElem y]; rfl
  · rw [List.getElem?_eq_none (by omega)]
    exact .inr (.inr ⟨by omega, rfl⟩)
theorem entry_rel {W : List Ent} {c : Cur} {k : Int} (hk : relC W c k) : entC c = entR W k := by
  unfold entC entR
  rcases hk with h | h | h
  · rw [if_neg (by omega), if_pos (by omega)]
  · rw [if_pos h.2.2.1, if_neg (by omega), h.2.2.2]
  · rw [if_neg (by omega), if_neg (by omega), List.getElem?_eq_none (by omega)]
theorem relC_rng {W : List Ent} {c : Cur} {k : Int} (hk : relC W c k) : 0 ≤ k ∧ k ≤ W.length + 1 := by rcases hk with h | h | h <;> omega
def cuMr (H : List (Chunk C0)) (k : Cur → Arn → List (Chunk C0) → Prop) : Prop := match H with
  | .box [.ptr 1 0, .val (.int .u32 root), .val (.int .i64 lo), .val (.int .i64 hi), .val (.int .i64 place), .val (.int .i64 ek), .val (.int .i64 ev), .val (.bool closed)] :: .box [.ptr 2 0, .slc 3, .slc 4, .val (.int .u64 rd)] :: .box [.slc 5, .slc 6, .slc 7, .val (.int .u32 fr)] :: .row true .node nd :: .row true .int ct :: .row true .bool us :: .row true .u32 gn :: .row true .u32 rl :: rest => k ⟨root, lo, hi, place, ek, ev, closed⟩ ⟨us, gn, rl, fr, nd, ct, rd⟩ rest
  | _ => False
structure XMv (P : Arn → Cur → Int → Prop) where
  S : Arn
  c : Cur
  k : Int
  o : Option Ent
  e : Int
  h : P S c k
noncomputable def aMv (P : Arn → Cur → Int → Prop) (W l : List Ent) : Ann C0 := { quiet := [90, 91], Γ := [(10, frameT [] tMod), (42, frameT [] tCu_next), (82, frameT [] tCu_prev), (89, frameT [] tCu_find), (92, frameT [] tCu_entry), (94, frameT [] tCu_rew), (87, frameT [] tN24), (88, frameT [] tP24), (91, frameT [] tF24), (93, frameT [] tE24), (95, frameT [] tR24), (90, frameT [] tTgt)], inv := fun n => match n with
  | 1023 => some { X := XMv P, sl := [5, 8, 10, 11, 12, 13], tf := fun x => [.one (.at (.ptr 10 0)), .one (.at (.ptr 11 0)), .one (.at (.ptr 12 0)), .one (.at (.ptr 13 0)), vi .i64 x.e, vi .i64 x.e], hf := fun x => chC x.c x.S ++ [.row false EC.ent W, .row false EC.ent l, .box [.slc 8, vI x.k, vB false], .box [.any, .any, .any], .box [vI (x.o.getD (0, 0)).1, vI (x.o.getD (0, 0)).2], .box [vI (x.o.getD (0, 0)).1, vI (x.o.getD (0, 0)).2]], wr := [0, 1] }
  | _ => none }
def tMv : Tfm C0 := fun args H K => match args with
  | [.at (.ptr 0 0), .agg [.slc 8, .val (.int .i64 k), .val (.bool cl)], .agg [.val (.int .i64 kd), .val (.int .i64 key), .val (.int .i64 n)], .at (.slc 9)] => cuMr H fun c S rest => match rest with
    | [.row false .ent W, .row false .ent l] => cl = false ∧ c.closed = false ∧ l.length ≤ 1000000 ∧ ∃ hs t, Wf S hs ∧ Rep S t c.root ∧ Asc t.list ∧ W = betE t.list c.lo c.hi ∧ relC W c k ∧ t.size ≤ 1000000 ∧ S.reads + t.size ≤ 3000000000000000000 ∧
      ∀ S' m c' k', S' = rdS S m → m ≤ t.size → relC W c' k' → keepC c c' → K (.tup [.agg [.slc 8, vI k', vB false], .at (vB true)]) (chC c' S' ++ [.row false EC.ent W, .row false EC.ent l]) [0, 1]
    | _ => False
  | _ => False
def PMv (S : Arn) (t : Tr) (W : List Ent) (c : Cur) (S' : Arn) (c' : Cur) (k' : Int) : Prop := (∃ m, S' = rdS S m ∧ m ≤ t.size) ∧ relC W c' k' ∧ keepC c c'
theorem vc_mv (W l : List Ent) (c : Cur) (S : Arn) (k kd key n : Int) (K : KT) (hc : c.closed = false) (hl : l.length ≤ 1000000) (hs : List Int) (tr : Tr) (w : Wf S hs) (p : Rep S tr c.root) (ha : Asc tr.list) (hW : W = betE tr.list c.lo c.hi) (hk : relC W c k) (z1 : tr.size ≤ 1000000) (z2 : S.reads + tr.size ≤ 3000000000000000000)
    (h : ∀ S' m c' k', S' = rdS S m → m ≤ tr.size → relC W c' k' → keepC c c' → K (.tup [.agg [.slc 8, vI k', vB false], .at (vB true)]) (chC c' S' ++ [.row false EC.ent W, .row false EC.ent l]) [0, 1]) :
    vc C0 (aMv (PMv S tr W c) W l) Try.f44 [.at (.ptr 0 0), .agg [.slc 8, vI k, vB false], .agg [vI kd, vI key, vI n], .at (.slc 9)] (chC c S ++ [.row false EC.ent W, .row false EC.ent l]) (normK 10 (wideK [0, 1] K)) := by
  have hWl : W.length ≤ 1000000 := by
    rw [hW]; unfold betE
    have := List.length_filter_le (fun x : Ent => decide (c.lo ≤ x.1) && decide (x.1 ≤ c.hi)) tr.list
    rw [tr.list_len] at this; omega
  obtain ⟨k0, k1⟩ := relC_rng hk
  have n1 := next_rel hW ha hc hk
  have n2 := prev_rel hW ha hc hk
  have n3 := fun q : Int => find_rel (key := q) hW ha
  have n4 := entry_rel hk
  have stay : ∃ m, S = rdS S m ∧ m ≤ tr.size := ⟨0, (rdS_zero S).symm, Nat.zero_le _⟩
  clear hW
  generalize hP : PMv S tr W c = P
  refine Eq.mp (show ((((0 : Int) < 10) ∧
((10 : Int) ≤ 9223372036854775807) ∧
(∀ x : Int, (((x) = (kd % 10)) → (brS (x == 0) ((∃ hs : List Int, (∃ t : Tr, ((Wf S hs) ∧ (Rep S t c.root) ∧ (t.size ≤ 1000000) ∧ (S.reads + (↑t.size : Int) ≤ 3000000000000000000) ∧ (∀ S' : Arn, (∀ m : Nat, (∀ c' : Cur, (∀ r : Option Ent, (∀ e : Int, (((S') = (rdS S m)) → ((m ≤ t.size) → (((Prod.mk (c') (Prod.mk (r) (e))) = (nextC t c)) → ((false = false) ∧ (0 ≤ k) ∧ (k ≤ (↑W.length : Int) + 1) ∧ (W.length ≤ 1000000) ∧ (∀ k' : Int, (∀ o : Option Ent, (((k') = (if k ≤ (↑W.length : Int) then k + 1 else k)) → (((o) = (entR W k')) → (∃ x1 : XMv P, (True ∧ (True ∧ True ∧ True ∧ True ∧ ((Value.int IntKind.i64 (e)) = (Value.int IntKind.i64 (x1.e))) ∧ ((Value.int IntKind.i64 (errE o)) = (Value.int IntKind.i64 (x1.e))) ∧ True) ∧ (True ∧ ((Value.int IntKind.u32 (c'.root)) = (Value.int IntKind.u32 (x1.c.root))) ∧ ((Value.int IntKind.i64 (c'.lo)) = (Value.int IntKind.i64 (x1.c.lo))) ∧ ((Value.int IntKind.i64 (c'.hi)) = (Value.int IntKind.i64 (x1.c.hi))) ∧ ((Value.int IntKind.i64 (c'.place)) = (Value.int IntKind.i64 (x1.c.place))) ∧ ((Value.int IntKind.i64 (c'.ek)) = (Value.int IntKind.i64 (x1.c.ek))) ∧ ((Value.int IntKind.i64 (c'.ev)) = (Value.int IntKind.i64 (x1.c.ev))) ∧ ((Value.bool (c'.closed)) = (Value.bool (x1.c.closed))) ∧ True) ∧ (True ∧ True ∧ True ∧ ((Value.int IntKind.u64 (S'.reads)) = (Value.int IntKind.u64 (x1.S.reads))) ∧ True) ∧ (True ∧ True ∧ True ∧
    ((Value.int IntKind.u32 (S'.fresh)) = (Value.int IntKind.u32 (x1.S.fresh))) ∧ True) ∧ ((S'.nodes) = (x1.S.nodes)) ∧ ((S'.counts) = (x1.S.counts)) ∧ ((S'.used) = (x1.S.used)) ∧ ((S'.gen) = (x1.S.gen)) ∧ ((S'.rel) = (x1.S.rel)) ∧ ((W) = (W)) ∧ ((l) = (l)) ∧ (True ∧ ((Value.int IntKind.i64 (k')) = (Value.int IntKind.i64 (x1.k))) ∧ ((Value.bool false) = (Value.bool false)) ∧ True) ∧ True ∧ (((Value.int IntKind.i64 ((r.getD (0, 0)).fst)) = (Value.int IntKind.i64 ((x1.o.getD (0, 0)).fst))) ∧ ((Value.int IntKind.i64 ((r.getD (0, 0)).snd)) = (Value.int IntKind.i64 ((x1.o.getD (0, 0)).snd))) ∧ True) ∧ (((Value.int IntKind.i64 ((o.getD (0, 0)).fst)) = (Value.int IntKind.i64 ((x1.o.getD (0, 0)).fst))) ∧ ((Value.int IntKind.i64 ((o.getD (0, 0)).snd)) = (Value.int IntKind.i64 ((x1.o.getD (0, 0)).snd))) ∧ True) ∧ True))))))))))))))))))) ((brS (x == 1) ((∃ hs : List Int, (∃ t : Tr, ((Wf S hs) ∧ (Rep S t c.root) ∧ (t.size ≤ 1000000) ∧ (S.reads + (↑t.size : Int) ≤ 3000000000000000000) ∧ (∀ S' : Arn, (∀ m : Nat, (∀ c' : Cur, (∀ r : Option Ent, (∀ e : Int, (((S') = (rdS S m)) → ((m ≤ t.size) → (((Prod.mk (c') (Prod.mk (r) (e))) = (nextC t c)) → ((false = false) ∧ (0 ≤ k) ∧ (k ≤ (↑W.length : Int) + 1) ∧ (W.length ≤ 1000000) ∧ (∀ k' : Int, (∀ o : Option Ent, (((k') = (if k ≤ (↑W.length : Int) then k + 1 else k)) → (((o) = (entR W k')) → (∃ x1 : XMv P, (True ∧ (True ∧ True ∧ True ∧ True ∧ ((Value.int IntKind.i64 (e)) = (Value.int IntKind.i64 (x1.e))) ∧
    ((Value.int IntKind.i64 (errE o)) = (Value.int IntKind.i64 (x1.e))) ∧ True) ∧ (True ∧ ((Value.int IntKind.u32 (c'.root)) = (Value.int IntKind.u32 (x1.c.root))) ∧ ((Value.int IntKind.i64 (c'.lo)) = (Value.int IntKind.i64 (x1.c.lo))) ∧ ((Value.int IntKind.i64 (c'.hi)) = (Value.int IntKind.i64 (x1.c.hi))) ∧ ((Value.int IntKind.i64 (c'.place)) = (Value.int IntKind.i64 (x1.c.place))) ∧ ((Value.int IntKind.i64 (c'.ek)) = (Value.int IntKind.i64 (x1.c.ek))) ∧ ((Value.int IntKind.i64 (c'.ev)) = (Value.int IntKind.i64 (x1.c.ev))) ∧ ((Value.bool (c'.closed)) = (Value.bool (x1.c.closed))) ∧ True) ∧ (True ∧ True ∧ True ∧ ((Value.int IntKind.u64 (S'.reads)) = (Value.int IntKind.u64 (x1.S.reads))) ∧ True) ∧ (True ∧ True ∧ True ∧ ((Value.int IntKind.u32 (S'.fresh)) = (Value.int IntKind.u32 (x1.S.fresh))) ∧ True) ∧ ((S'.nodes) = (x1.S.nodes)) ∧ ((S'.counts) = (x1.S.counts)) ∧ ((S'.used) = (x1.S.used)) ∧ ((S'.gen) = (x1.S.gen)) ∧ ((S'.rel) = (x1.S.rel)) ∧ ((W) = (W)) ∧ ((l) = (l)) ∧ (True ∧ ((Value.int IntKind.i64 (k')) = (Value.int IntKind.i64 (x1.k))) ∧ ((Value.bool false) = (Value.bool false)) ∧ True) ∧ True ∧ (((Value.int IntKind.i64 ((r.getD (0, 0)).fst)) = (Value.int IntKind.i64 ((x1.o.getD (0, 0)).fst))) ∧ ((Value.int IntKind.i64 ((r.getD (0, 0)).snd)) = (Value.int IntKind.i64 ((x1.o.getD (0, 0)).snd))) ∧ True) ∧ (((Value.int IntKind.i64 ((o.getD (0, 0)).fst)) = (Value.int IntKind.i64 ((x1.o.getD (0, 0)).fst))) ∧
    ((Value.int IntKind.i64 ((o.getD (0, 0)).snd)) = (Value.int IntKind.i64 ((x1.o.getD (0, 0)).snd))) ∧ True) ∧ True))))))))))))))))))) ((brS (x == 2) ((∃ hs : List Int, (∃ t : Tr, ((Wf S hs) ∧ (Rep S t c.root) ∧ (t.size ≤ 1000000) ∧ (S.reads + (↑t.size : Int) ≤ 3000000000000000000) ∧ (∀ S' : Arn, (∀ m : Nat, (∀ c' : Cur, (∀ r : Option Ent, (∀ e : Int, (((S') = (rdS S m)) → ((m ≤ t.size) → (((Prod.mk (c') (Prod.mk (r) (e))) = (nextC t c)) → ((false = false) ∧ (0 ≤ k) ∧ (k ≤ (↑W.length : Int) + 1) ∧ (W.length ≤ 1000000) ∧ (∀ k' : Int, (∀ o : Option Ent, (((k') = (if k ≤ (↑W.length : Int) then k + 1 else k)) → (((o) = (entR W k')) → (∃ x1 : XMv P, (True ∧ (True ∧ True ∧ True ∧ True ∧ ((Value.int IntKind.i64 (e)) = (Value.int IntKind.i64 (x1.e))) ∧ ((Value.int IntKind.i64 (errE o)) = (Value.int IntKind.i64 (x1.e))) ∧ True) ∧ (True ∧ ((Value.int IntKind.u32 (c'.root)) = (Value.int IntKind.u32 (x1.c.root))) ∧ ((Value.int IntKind.i64 (c'.lo)) = (Value.int IntKind.i64 (x1.c.lo))) ∧ ((Value.int IntKind.i64 (c'.hi)) = (Value.int IntKind.i64 (x1.c.hi))) ∧ ((Value.int IntKind.i64 (c'.place)) = (Value.int IntKind.i64 (x1.c.place))) ∧ ((Value.int IntKind.i64 (c'.ek)) = (Value.int IntKind.i64 (x1.c.ek))) ∧ ((Value.int IntKind.i64 (c'.ev)) = (Value.int IntKind.i64 (x1.c.ev))) ∧ ((Value.bool (c'.closed)) = (Value.bool (x1.c.closed))) ∧ True) ∧ (True ∧ True ∧ True ∧ ((Value.int IntKind.u64 (S'.reads)) = (Value.int IntKind.u64 (x1.S.reads))) ∧ True) ∧ (True ∧ True ∧ True ∧
    ((Value.int IntKind.u32 (S'.fresh)) = (Value.int IntKind.u32 (x1.S.fresh))) ∧ True) ∧ ((S'.nodes) = (x1.S.nodes)) ∧ ((S'.counts) = (x1.S.counts)) ∧ ((S'.used) = (x1.S.used)) ∧ ((S'.gen) = (x1.S.gen)) ∧ ((S'.rel) = (x1.S.rel)) ∧ ((W) = (W)) ∧ ((l) = (l)) ∧ (True ∧ ((Value.int IntKind.i64 (k')) = (Value.int IntKind.i64 (x1.k))) ∧ ((Value.bool false) = (Value.bool false)) ∧ True) ∧ True ∧ (((Value.int IntKind.i64 ((r.getD (0, 0)).fst)) = (Value.int IntKind.i64 ((x1.o.getD (0, 0)).fst))) ∧ ((Value.int IntKind.i64 ((r.getD (0, 0)).snd)) = (Value.int IntKind.i64 ((x1.o.getD (0, 0)).snd))) ∧ True) ∧ (((Value.int IntKind.i64 ((o.getD (0, 0)).fst)) = (Value.int IntKind.i64 ((x1.o.getD (0, 0)).fst))) ∧ ((Value.int IntKind.i64 ((o.getD (0, 0)).snd)) = (Value.int IntKind.i64 ((x1.o.getD (0, 0)).snd))) ∧ True) ∧ True))))))))))))))))))) ((brS (x == 3) ((∃ hs : List Int, (∃ t : Tr, ((Wf S hs) ∧ (Rep S t c.root) ∧ (t.size ≤ 1000000) ∧ (S.reads + (↑t.size : Int) ≤ 3000000000000000000) ∧ (∀ S' : Arn, (∀ m : Nat, (∀ c' : Cur, (∀ r : Option Ent, (∀ e : Int, (((S') = (rdS S m)) → ((m ≤ t.size) → (((Prod.mk (c') (Prod.mk (r) (e))) = (prevC t c)) → ((false = false) ∧ (0 ≤ k) ∧ (k ≤ (↑W.length : Int) + 1) ∧ (W.length ≤ 1000000) ∧ (∀ k' : Int, (∀ o : Option Ent, (((k') = (if 0 < k then k - 1 else k)) → (((o) = (entR W k')) → (∃ x1 : XMv P, (True ∧ (True ∧ True ∧ True ∧ True ∧ ((Value.int IntKind.i64 (e)) = (Value.int IntKind.i64 (x1.e))) ∧
    ((Value.int IntKind.i64 (errE o)) = (Value.int IntKind.i64 (x1.e))) ∧ True) ∧ (True ∧ ((Value.int IntKind.u32 (c'.root)) = (Value.int IntKind.u32 (x1.c.root))) ∧ ((Value.int IntKind.i64 (c'.lo)) = (Value.int IntKind.i64 (x1.c.lo))) ∧ ((Value.int IntKind.i64 (c'.hi)) = (Value.int IntKind.i64 (x1.c.hi))) ∧ ((Value.int IntKind.i64 (c'.place)) = (Value.int IntKind.i64 (x1.c.place))) ∧ ((Value.int IntKind.i64 (c'.ek)) = (Value.int IntKind.i64 (x1.c.ek))) ∧ ((Value.int IntKind.i64 (c'.ev)) = (Value.int IntKind.i64 (x1.c.ev))) ∧ ((Value.bool (c'.closed)) = (Value.bool (x1.c.closed))) ∧ True) ∧ (True ∧ True ∧ True ∧ ((Value.int IntKind.u64 (S'.reads)) = (Value.int IntKind.u64 (x1.S.reads))) ∧ True) ∧ (True ∧ True ∧ True ∧ ((Value.int IntKind.u32 (S'.fresh)) = (Value.int IntKind.u32 (x1.S.fresh))) ∧ True) ∧ ((S'.nodes) = (x1.S.nodes)) ∧ ((S'.counts) = (x1.S.counts)) ∧ ((S'.used) = (x1.S.used)) ∧ ((S'.gen) = (x1.S.gen)) ∧ ((S'.rel) = (x1.S.rel)) ∧ ((W) = (W)) ∧ ((l) = (l)) ∧ (True ∧ ((Value.int IntKind.i64 (k')) = (Value.int IntKind.i64 (x1.k))) ∧ ((Value.bool false) = (Value.bool false)) ∧ True) ∧ True ∧ (((Value.int IntKind.i64 ((r.getD (0, 0)).fst)) = (Value.int IntKind.i64 ((x1.o.getD (0, 0)).fst))) ∧ ((Value.int IntKind.i64 ((r.getD (0, 0)).snd)) = (Value.int IntKind.i64 ((x1.o.getD (0, 0)).snd))) ∧ True) ∧ (((Value.int IntKind.i64 ((o.getD (0, 0)).fst)) = (Value.int IntKind.i64 ((x1.o.getD (0, 0)).fst))) ∧
    ((Value.int IntKind.i64 ((o.getD (0, 0)).snd)) = (Value.int IntKind.i64 ((x1.o.getD (0, 0)).snd))) ∧ True) ∧ True))))))))))))))))))) ((brS (x == 4) ((∃ hs : List Int, (∃ t : Tr, ((Wf S hs) ∧ (Rep S t c.root) ∧ (t.size ≤ 1000000) ∧ (S.reads + (↑t.size : Int) ≤ 3000000000000000000) ∧ (∀ S' : Arn, (∀ m : Nat, (∀ c' : Cur, (∀ r : Option Ent, (∀ e : Int, (((S') = (rdS S m)) → ((m ≤ t.size) → (((Prod.mk (c') (Prod.mk (r) (e))) = (prevC t c)) → ((false = false) ∧ (0 ≤ k) ∧ (k ≤ (↑W.length : Int) + 1) ∧ (W.length ≤ 1000000) ∧ (∀ k' : Int, (∀ o : Option Ent, (((k') = (if 0 < k then k - 1 else k)) → (((o) = (entR W k')) → (∃ x1 : XMv P, (True ∧ (True ∧ True ∧ True ∧ True ∧ ((Value.int IntKind.i64 (e)) = (Value.int IntKind.i64 (x1.e))) ∧ ((Value.int IntKind.i64 (errE o)) = (Value.int IntKind.i64 (x1.e))) ∧ True) ∧ (True ∧ ((Value.int IntKind.u32 (c'.root)) = (Value.int IntKind.u32 (x1.c.root))) ∧ ((Value.int IntKind.i64 (c'.lo)) = (Value.int IntKind.i64 (x1.c.lo))) ∧ ((Value.int IntKind.i64 (c'.hi)) = (Value.int IntKind.i64 (x1.c.hi))) ∧ ((Value.int IntKind.i64 (c'.place)) = (Value.int IntKind.i64 (x1.c.place))) ∧ ((Value.int IntKind.i64 (c'.ek)) = (Value.int IntKind.i64 (x1.c.ek))) ∧ ((Value.int IntKind.i64 (c'.ev)) = (Value.int IntKind.i64 (x1.c.ev))) ∧ ((Value.bool (c'.closed)) = (Value.bool (x1.c.closed))) ∧ True) ∧ (True ∧ True ∧ True ∧ ((Value.int IntKind.u64 (S'.reads)) = (Value.int IntKind.u64 (x1.S.reads))) ∧ True) ∧ (True ∧ True ∧ True ∧
    ((Value.int IntKind.u32 (S'.fresh)) = (Value.int IntKind.u32 (x1.S.fresh))) ∧ True) ∧ ((S'.nodes) = (x1.S.nodes)) ∧ ((S'.counts) = (x1.S.counts)) ∧ ((S'.used) = (x1.S.used)) ∧ ((S'.gen) = (x1.S.gen)) ∧ ((S'.rel) = (x1.S.rel)) ∧ ((W) = (W)) ∧ ((l) = (l)) ∧ (True ∧ ((Value.int IntKind.i64 (k')) = (Value.int IntKind.i64 (x1.k))) ∧ ((Value.bool false) = (Value.bool false)) ∧ True) ∧ True ∧ (((Value.int IntKind.i64 ((r.getD (0, 0)).fst)) = (Value.int IntKind.i64 ((x1.o.getD (0, 0)).fst))) ∧ ((Value.int IntKind.i64 ((r.getD (0, 0)).snd)) = (Value.int IntKind.i64 ((x1.o.getD (0, 0)).snd))) ∧ True) ∧ (((Value.int IntKind.i64 ((o.getD (0, 0)).fst)) = (Value.int IntKind.i64 ((x1.o.getD (0, 0)).fst))) ∧ ((Value.int IntKind.i64 ((o.getD (0, 0)).snd)) = (Value.int IntKind.i64 ((x1.o.getD (0, 0)).snd))) ∧ True) ∧ True))))))))))))))))))) ((brS (x == 5) ((∃ hs : List Int, (∃ t : Tr, ((Wf S hs) ∧ (Rep S t c.root) ∧ (t.size ≤ 1000000) ∧ (S.reads + (↑t.size : Int) ≤ 3000000000000000000) ∧ (∀ S' : Arn, (∀ m : Nat, (∀ c' : Cur, (∀ r : Option Ent, (∀ e : Int, (((S') = (rdS S m)) → ((m ≤ t.size) → (((Prod.mk (c') (Prod.mk (r) (e))) = (prevC t c)) → ((false = false) ∧ (0 ≤ k) ∧ (k ≤ (↑W.length : Int) + 1) ∧ (W.length ≤ 1000000) ∧ (∀ k' : Int, (∀ o : Option Ent, (((k') = (if 0 < k then k - 1 else k)) → (((o) = (entR W k')) → (∃ x1 : XMv P, (True ∧ (True ∧ True ∧ True ∧ True ∧ ((Value.int IntKind.i64 (e)) = (Value.int IntKind.i64 (x1.e))) ∧
    ((Value.int IntKind.i64 (errE o)) = (Value.int IntKind.i64 (x1.e))) ∧ True) ∧ (True ∧ ((Value.int IntKind.u32 (c'.root)) = (Value.int IntKind.u32 (x1.c.root))) ∧ ((Value.int IntKind.i64 (c'.lo)) = (Value.int IntKind.i64 (x1.c.lo))) ∧ ((Value.int IntKind.i64 (c'.hi)) = (Value.int IntKind.i64 (x1.c.hi))) ∧ ((Value.int IntKind.i64 (c'.place)) = (Value.int IntKind.i64 (x1.c.place))) ∧ ((Value.int IntKind.i64 (c'.ek)) = (Value.int IntKind.i64 (x1.c.ek))) ∧ ((Value.int IntKind.i64 (c'.ev)) = (Value.int IntKind.i64 (x1.c.ev))) ∧ ((Value.bool (c'.closed)) = (Value.bool (x1.c.closed))) ∧ True) ∧ (True ∧ True ∧ True ∧ ((Value.int IntKind.u64 (S'.reads)) = (Value.int IntKind.u64 (x1.S.reads))) ∧ True) ∧ (True ∧ True ∧ True ∧ ((Value.int IntKind.u32 (S'.fresh)) = (Value.int IntKind.u32 (x1.S.fresh))) ∧ True) ∧ ((S'.nodes) = (x1.S.nodes)) ∧ ((S'.counts) = (x1.S.counts)) ∧ ((S'.used) = (x1.S.used)) ∧ ((S'.gen) = (x1.S.gen)) ∧ ((S'.rel) = (x1.S.rel)) ∧ ((W) = (W)) ∧ ((l) = (l)) ∧ (True ∧ ((Value.int IntKind.i64 (k')) = (Value.int IntKind.i64 (x1.k))) ∧ ((Value.bool false) = (Value.bool false)) ∧ True) ∧ True ∧ (((Value.int IntKind.i64 ((r.getD (0, 0)).fst)) = (Value.int IntKind.i64 ((x1.o.getD (0, 0)).fst))) ∧ ((Value.int IntKind.i64 ((r.getD (0, 0)).snd)) = (Value.int IntKind.i64 ((x1.o.getD (0, 0)).snd))) ∧ True) ∧ (((Value.int IntKind.i64 ((o.getD (0, 0)).fst)) = (Value.int IntKind.i64 ((x1.o.getD (0, 0)).fst))) ∧
    ((Value.int IntKind.i64 ((o.getD (0, 0)).snd)) = (Value.int IntKind.i64 ((x1.o.getD (0, 0)).snd))) ∧ True) ∧ True))))))))))))))))))) ((brS (x == 6) (((l.length ≤ 1000000) ∧ (∀ x1 : Int, (((x1) = (tgtE l key n)) → ((((c.closed) = true) → ((l.length ≤ 1000000) ∧ (∀ x2 : Int, (((x2) = (tgtE l key n)) → ((false = false) ∧ (W.length ≤ 1000000) ∧ (∀ k' : Int, (∀ o : Option Ent, (((k') = ((↑(rkE W x2) : Int) + 1)) → (((o) = (entR W k')) → (∃ x3 : XMv P, (True ∧ (True ∧ True ∧ True ∧ True ∧ ((Value.int IntKind.i64 6) = (Value.int IntKind.i64 (x3.e))) ∧ ((Value.int IntKind.i64 (errE o)) = (Value.int IntKind.i64 (x3.e))) ∧ True) ∧ (True ∧ ((Value.int IntKind.u32 (c.root)) = (Value.int IntKind.u32 (x3.c.root))) ∧ ((Value.int IntKind.i64 (c.lo)) = (Value.int IntKind.i64 (x3.c.lo))) ∧ ((Value.int IntKind.i64 (c.hi)) = (Value.int IntKind.i64 (x3.c.hi))) ∧ ((Value.int IntKind.i64 (c.place)) = (Value.int IntKind.i64 (x3.c.place))) ∧ ((Value.int IntKind.i64 (c.ek)) = (Value.int IntKind.i64 (x3.c.ek))) ∧ ((Value.int IntKind.i64 (c.ev)) = (Value.int IntKind.i64 (x3.c.ev))) ∧ ((Value.bool (c.closed)) = (Value.bool (x3.c.closed))) ∧ True) ∧ (True ∧ True ∧ True ∧ ((Value.int IntKind.u64 (S.reads)) = (Value.int IntKind.u64 (x3.S.reads))) ∧ True) ∧ (True ∧ True ∧ True ∧ ((Value.int IntKind.u32 (S.fresh)) = (Value.int IntKind.u32 (x3.S.fresh))) ∧ True) ∧ ((S.nodes) = (x3.S.nodes)) ∧ ((S.counts) = (x3.S.counts)) ∧ ((S.used) = (x3.S.used)) ∧ ((S.gen) = (x3.S.gen)) ∧ ((S.rel) = (x3.S.rel)) ∧
    ((W) = (W)) ∧ ((l) = (l)) ∧ (True ∧ ((Value.int IntKind.i64 (k')) = (Value.int IntKind.i64 (x3.k))) ∧ ((Value.bool false) = (Value.bool false)) ∧ True) ∧ True ∧ (((Value.int IntKind.i64 0) = (Value.int IntKind.i64 ((x3.o.getD (0, 0)).fst))) ∧ ((Value.int IntKind.i64 0) = (Value.int IntKind.i64 ((x3.o.getD (0, 0)).snd))) ∧ True) ∧ (((Value.int IntKind.i64 ((o.getD (0, 0)).fst)) = (Value.int IntKind.i64 ((x3.o.getD (0, 0)).fst))) ∧ ((Value.int IntKind.i64 ((o.getD (0, 0)).snd)) = (Value.int IntKind.i64 ((x3.o.getD (0, 0)).snd))) ∧ True) ∧ True))))))))))) ∧ (((c.closed) = false) → (∃ hs : List Int, (∃ t : Tr, ((Wf S hs) ∧ (Rep S t c.root) ∧ (t.size ≤ 1000000) ∧ (S.reads + (↑t.size : Int) ≤ 3000000000000000000) ∧ (∀ S' : Arn, (∀ m : Nat, (∀ c' : Cur, (∀ o : Option Ent, (((S') = (rdS S m)) → ((m ≤ t.size) → (((Prod.mk (c') (o)) = (findC t c x1)) → ((l.length ≤ 1000000) ∧ (∀ x2 : Int, (((x2) = (tgtE l key n)) → ((false = false) ∧ (W.length ≤ 1000000) ∧ (∀ k' : Int, (∀ o1 : Option Ent, (((k') = ((↑(rkE W x2) : Int) + 1)) → (((o1) = (entR W k')) → (∃ x3 : XMv P, (True ∧ (True ∧ True ∧ True ∧ True ∧ ((Value.int IntKind.i64 (errE o)) = (Value.int IntKind.i64 (x3.e))) ∧ ((Value.int IntKind.i64 (errE o1)) = (Value.int IntKind.i64 (x3.e))) ∧ True) ∧ (True ∧ ((Value.int IntKind.u32 (c'.root)) = (Value.int IntKind.u32 (x3.c.root))) ∧ ((Value.int IntKind.i64 (c'.lo)) = (Value.int IntKind.i64 (x3.c.lo))) ∧ ((Value.int IntKind.i64 (c'.hi)) = (Value.int IntKind.i64 (x3.c.hi))) ∧
    ((Value.int IntKind.i64 (c'.place)) = (Value.int IntKind.i64 (x3.c.place))) ∧ ((Value.int IntKind.i64 (c'.ek)) = (Value.int IntKind.i64 (x3.c.ek))) ∧ ((Value.int IntKind.i64 (c'.ev)) = (Value.int IntKind.i64 (x3.c.ev))) ∧ ((Value.bool (c'.closed)) = (Value.bool (x3.c.closed))) ∧ True) ∧ (True ∧ True ∧ True ∧ ((Value.int IntKind.u64 (S'.reads)) = (Value.int IntKind.u64 (x3.S.reads))) ∧ True) ∧ (True ∧ True ∧ True ∧ ((Value.int IntKind.u32 (S'.fresh)) = (Value.int IntKind.u32 (x3.S.fresh))) ∧ True) ∧ ((S'.nodes) = (x3.S.nodes)) ∧ ((S'.counts) = (x3.S.counts)) ∧ ((S'.used) = (x3.S.used)) ∧ ((S'.gen) = (x3.S.gen)) ∧ ((S'.rel) = (x3.S.rel)) ∧ ((W) = (W)) ∧ ((l) = (l)) ∧ (True ∧ ((Value.int IntKind.i64 (k')) = (Value.int IntKind.i64 (x3.k))) ∧ ((Value.bool false) = (Value.bool false)) ∧ True) ∧ True ∧ (((Value.int IntKind.i64 ((o.getD (0, 0)).fst)) = (Value.int IntKind.i64 ((x3.o.getD (0, 0)).fst))) ∧ ((Value.int IntKind.i64 ((o.getD (0, 0)).snd)) = (Value.int IntKind.i64 ((x3.o.getD (0, 0)).snd))) ∧ True) ∧ (((Value.int IntKind.i64 ((o1.getD (0, 0)).fst)) = (Value.int IntKind.i64 ((x3.o.getD (0, 0)).fst))) ∧ ((Value.int IntKind.i64 ((o1.getD (0, 0)).snd)) = (Value.int IntKind.i64 ((x3.o.getD (0, 0)).snd))) ∧ True) ∧ True)))))))))))))))))))))))))) ((brS (x == 7) (((l.length ≤ 1000000) ∧ (∀ x1 : Int, (((x1) = (tgtE l key n)) → ((((c.closed) = true) → ((l.length ≤ 1000000) ∧ (∀ x2 : Int, (((x2) = (tgtE l key n)) → ((false = false) ∧ (W.length ≤ 1000000) ∧ (∀ k' : Int,
    (∀ o : Option Ent, (((k') = ((↑(rkE W x2) : Int) + 1)) → (((o) = (entR W k')) → (∃ x3 : XMv P, (True ∧ (True ∧ True ∧ True ∧ True ∧ ((Value.int IntKind.i64 6) = (Value.int IntKind.i64 (x3.e))) ∧ ((Value.int IntKind.i64 (errE o)) = (Value.int IntKind.i64 (x3.e))) ∧ True) ∧ (True ∧ ((Value.int IntKind.u32 (c.root)) = (Value.int IntKind.u32 (x3.c.root))) ∧ ((Value.int IntKind.i64 (c.lo)) = (Value.int IntKind.i64 (x3.c.lo))) ∧ ((Value.int IntKind.i64 (c.hi)) = (Value.int IntKind.i64 (x3.c.hi))) ∧ ((Value.int IntKind.i64 (c.place)) = (Value.int IntKind.i64 (x3.c.place))) ∧ ((Value.int IntKind.i64 (c.ek)) = (Value.int IntKind.i64 (x3.c.ek))) ∧ ((Value.int IntKind.i64 (c.ev)) = (Value.int IntKind.i64 (x3.c.ev))) ∧ ((Value.bool (c.closed)) = (Value.bool (x3.c.closed))) ∧ True) ∧ (True ∧ True ∧ True ∧ ((Value.int IntKind.u64 (S.reads)) = (Value.int IntKind.u64 (x3.S.reads))) ∧ True) ∧ (True ∧ True ∧ True ∧ ((Value.int IntKind.u32 (S.fresh)) = (Value.int IntKind.u32 (x3.S.fresh))) ∧ True) ∧ ((S.nodes) = (x3.S.nodes)) ∧ ((S.counts) = (x3.S.counts)) ∧ ((S.used) = (x3.S.used)) ∧ ((S.gen) = (x3.S.gen)) ∧ ((S.rel) = (x3.S.rel)) ∧ ((W) = (W)) ∧ ((l) = (l)) ∧ (True ∧ ((Value.int IntKind.i64 (k')) = (Value.int IntKind.i64 (x3.k))) ∧ ((Value.bool false) = (Value.bool false)) ∧ True) ∧ True ∧ (((Value.int IntKind.i64 0) = (Value.int IntKind.i64 ((x3.o.getD (0, 0)).fst))) ∧ ((Value.int IntKind.i64 0) = (Value.int IntKind.i64 ((x3.o.getD (0, 0)).snd))) ∧ True) ∧
    (((Value.int IntKind.i64 ((o.getD (0, 0)).fst)) = (Value.int IntKind.i64 ((x3.o.getD (0, 0)).fst))) ∧ ((Value.int IntKind.i64 ((o.getD (0, 0)).snd)) = (Value.int IntKind.i64 ((x3.o.getD (0, 0)).snd))) ∧ True) ∧ True))))))))))) ∧ (((c.closed) = false) → (∃ hs : List Int, (∃ t : Tr, ((Wf S hs) ∧ (Rep S t c.root) ∧ (t.size ≤ 1000000) ∧ (S.reads + (↑t.size : Int) ≤ 3000000000000000000) ∧ (∀ S' : Arn, (∀ m : Nat, (∀ c' : Cur, (∀ o : Option Ent, (((S') = (rdS S m)) → ((m ≤ t.size) → (((Prod.mk (c') (o)) = (findC t c x1)) → ((l.length ≤ 1000000) ∧ (∀ x2 : Int, (((x2) = (tgtE l key n)) → ((false = false) ∧ (W.length ≤ 1000000) ∧ (∀ k' : Int, (∀ o1 : Option Ent, (((k') = ((↑(rkE W x2) : Int) + 1)) → (((o1) = (entR W k')) → (∃ x3 : XMv P, (True ∧ (True ∧ True ∧ True ∧ True ∧ ((Value.int IntKind.i64 (errE o)) = (Value.int IntKind.i64 (x3.e))) ∧ ((Value.int IntKind.i64 (errE o1)) = (Value.int IntKind.i64 (x3.e))) ∧ True) ∧ (True ∧ ((Value.int IntKind.u32 (c'.root)) = (Value.int IntKind.u32 (x3.c.root))) ∧ ((Value.int IntKind.i64 (c'.lo)) = (Value.int IntKind.i64 (x3.c.lo))) ∧ ((Value.int IntKind.i64 (c'.hi)) = (Value.int IntKind.i64 (x3.c.hi))) ∧ ((Value.int IntKind.i64 (c'.place)) = (Value.int IntKind.i64 (x3.c.place))) ∧ ((Value.int IntKind.i64 (c'.ek)) = (Value.int IntKind.i64 (x3.c.ek))) ∧ ((Value.int IntKind.i64 (c'.ev)) = (Value.int IntKind.i64 (x3.c.ev))) ∧ ((Value.bool (c'.closed)) = (Value.bool (x3.c.closed))) ∧ True) ∧ (True ∧ True ∧ True ∧
    ((Value.int IntKind.u64 (S'.reads)) = (Value.int IntKind.u64 (x3.S.reads))) ∧ True) ∧ (True ∧ True ∧ True ∧ ((Value.int IntKind.u32 (S'.fresh)) = (Value.int IntKind.u32 (x3.S.fresh))) ∧ True) ∧ ((S'.nodes) = (x3.S.nodes)) ∧ ((S'.counts) = (x3.S.counts)) ∧ ((S'.used) = (x3.S.used)) ∧ ((S'.gen) = (x3.S.gen)) ∧ ((S'.rel) = (x3.S.rel)) ∧ ((W) = (W)) ∧ ((l) = (l)) ∧ (True ∧ ((Value.int IntKind.i64 (k')) = (Value.int IntKind.i64 (x3.k))) ∧ ((Value.bool false) = (Value.bool false)) ∧ True) ∧ True ∧ (((Value.int IntKind.i64 ((o.getD (0, 0)).fst)) = (Value.int IntKind.i64 ((x3.o.getD (0, 0)).fst))) ∧ ((Value.int IntKind.i64 ((o.getD (0, 0)).snd)) = (Value.int IntKind.i64 ((x3.o.getD (0, 0)).snd))) ∧ True) ∧ (((Value.int IntKind.i64 ((o1.getD (0, 0)).fst)) = (Value.int IntKind.i64 ((x3.o.getD (0, 0)).fst))) ∧ ((Value.int IntKind.i64 ((o1.getD (0, 0)).snd)) = (Value.int IntKind.i64 ((x3.o.getD (0, 0)).snd))) ∧ True) ∧ True)))))))))))))))))))))))))) ((brS (x == 8) (((((c.closed) = true) → ((false = false) ∧ (0 ≤ k) ∧ (k ≤ (↑W.length : Int) + 1) ∧ (W.length ≤ 1000000) ∧ (∀ o : Option Ent, (((o) = (entR W k)) → (∃ x1 : XMv P, (True ∧ (True ∧ True ∧ True ∧ True ∧ ((Value.int IntKind.i64 6) = (Value.int IntKind.i64 (x1.e))) ∧ ((Value.int IntKind.i64 (errE o)) = (Value.int IntKind.i64 (x1.e))) ∧ True) ∧ (True ∧ ((Value.int IntKind.u32 (c.root)) = (Value.int IntKind.u32 (x1.c.root))) ∧ ((Value.int IntKind.i64 (c.lo)) = (Value.int IntKind.i64 (x1.c.lo))) ∧
    ((Value.int IntKind.i64 (c.hi)) = (Value.int IntKind.i64 (x1.c.hi))) ∧ ((Value.int IntKind.i64 (c.place)) = (Value.int IntKind.i64 (x1.c.place))) ∧ ((Value.int IntKind.i64 (c.ek)) = (Value.int IntKind.i64 (x1.c.ek))) ∧ ((Value.int IntKind.i64 (c.ev)) = (Value.int IntKind.i64 (x1.c.ev))) ∧ ((Value.bool (c.closed)) = (Value.bool (x1.c.closed))) ∧ True) ∧ (True ∧ True ∧ True ∧ ((Value.int IntKind.u64 (S.reads)) = (Value.int IntKind.u64 (x1.S.reads))) ∧ True) ∧ (True ∧ True ∧ True ∧ ((Value.int IntKind.u32 (S.fresh)) = (Value.int IntKind.u32 (x1.S.fresh))) ∧ True) ∧ ((S.nodes) = (x1.S.nodes)) ∧ ((S.counts) = (x1.S.counts)) ∧ ((S.used) = (x1.S.used)) ∧ ((S.gen) = (x1.S.gen)) ∧ ((S.rel) = (x1.S.rel)) ∧ ((W) = (W)) ∧ ((l) = (l)) ∧ (True ∧ ((Value.int IntKind.i64 (k)) = (Value.int IntKind.i64 (x1.k))) ∧ ((Value.bool false) = (Value.bool false)) ∧ True) ∧ True ∧ (((Value.int IntKind.i64 0) = (Value.int IntKind.i64 ((x1.o.getD (0, 0)).fst))) ∧ ((Value.int IntKind.i64 0) = (Value.int IntKind.i64 ((x1.o.getD (0, 0)).snd))) ∧ True) ∧ (((Value.int IntKind.i64 ((o.getD (0, 0)).fst)) = (Value.int IntKind.i64 ((x1.o.getD (0, 0)).fst))) ∧ ((Value.int IntKind.i64 ((o.getD (0, 0)).snd)) = (Value.int IntKind.i64 ((x1.o.getD (0, 0)).snd))) ∧ True) ∧ True)))))) ∧ (((c.closed) = false) → (∀ o : Option Ent, (((o) = (entC c)) → ((false = false) ∧ (0 ≤ k) ∧ (k ≤ (↑W.length : Int) + 1) ∧ (W.length ≤ 1000000) ∧ (∀ o1 : Option Ent, (((o1) = (entR W k)) → (∃ x1 : XMv P, (True ∧ (True ∧ True ∧ True ∧ True ∧
    ((Value.int IntKind.i64 (errE o)) = (Value.int IntKind.i64 (x1.e))) ∧ ((Value.int IntKind.i64 (errE o1)) = (Value.int IntKind.i64 (x1.e))) ∧ True) ∧ (True ∧ ((Value.int IntKind.u32 (c.root)) = (Value.int IntKind.u32 (x1.c.root))) ∧ ((Value.int IntKind.i64 (c.lo)) = (Value.int IntKind.i64 (x1.c.lo))) ∧ ((Value.int IntKind.i64 (c.hi)) = (Value.int IntKind.i64 (x1.c.hi))) ∧ ((Value.int IntKind.i64 (c.place)) = (Value.int IntKind.i64 (x1.c.place))) ∧ ((Value.int IntKind.i64 (c.ek)) = (Value.int IntKind.i64 (x1.c.ek))) ∧ ((Value.int IntKind.i64 (c.ev)) = (Value.int IntKind.i64 (x1.c.ev))) ∧ ((Value.bool (c.closed)) = (Value.bool (x1.c.closed))) ∧ True) ∧ (True ∧ True ∧ True ∧ ((Value.int IntKind.u64 (S.reads)) = (Value.int IntKind.u64 (x1.S.reads))) ∧ True) ∧ (True ∧ True ∧ True ∧ ((Value.int IntKind.u32 (S.fresh)) = (Value.int IntKind.u32 (x1.S.fresh))) ∧ True) ∧ ((S.nodes) = (x1.S.nodes)) ∧ ((S.counts) = (x1.S.counts)) ∧ ((S.used) = (x1.S.used)) ∧ ((S.gen) = (x1.S.gen)) ∧ ((S.rel) = (x1.S.rel)) ∧ ((W) = (W)) ∧ ((l) = (l)) ∧ (True ∧ ((Value.int IntKind.i64 (k)) = (Value.int IntKind.i64 (x1.k))) ∧ ((Value.bool false) = (Value.bool false)) ∧ True) ∧ True ∧ (((Value.int IntKind.i64 ((o.getD (0, 0)).fst)) = (Value.int IntKind.i64 ((x1.o.getD (0, 0)).fst))) ∧ ((Value.int IntKind.i64 ((o.getD (0, 0)).snd)) = (Value.int IntKind.i64 ((x1.o.getD (0, 0)).snd))) ∧ True) ∧ (((Value.int IntKind.i64 ((o1.getD (0, 0)).fst)) = (Value.int IntKind.i64 ((x1.o.getD (0, 0)).fst))) ∧
    ((Value.int IntKind.i64 ((o1.getD (0, 0)).snd)) = (Value.int IntKind.i64 ((x1.o.getD (0, 0)).snd))) ∧ True) ∧ True)))))))))) (((((c.closed) = true) → ((false = false) ∧ (∃ x1 : XMv P, (True ∧ (True ∧ True ∧ True ∧ True ∧ ((Value.int IntKind.i64 6) = (Value.int IntKind.i64 (x1.e))) ∧ ((Value.int IntKind.i64 0) = (Value.int IntKind.i64 (x1.e))) ∧ True) ∧ (True ∧ ((Value.int IntKind.u32 (c.root)) = (Value.int IntKind.u32 (x1.c.root))) ∧ ((Value.int IntKind.i64 (c.lo)) = (Value.int IntKind.i64 (x1.c.lo))) ∧ ((Value.int IntKind.i64 (c.hi)) = (Value.int IntKind.i64 (x1.c.hi))) ∧ ((Value.int IntKind.i64 (c.place)) = (Value.int IntKind.i64 (x1.c.place))) ∧ ((Value.int IntKind.i64 (c.ek)) = (Value.int IntKind.i64 (x1.c.ek))) ∧ ((Value.int IntKind.i64 (c.ev)) = (Value.int IntKind.i64 (x1.c.ev))) ∧ ((Value.bool (c.closed)) = (Value.bool (x1.c.closed))) ∧ True) ∧ (True ∧ True ∧ True ∧ ((Value.int IntKind.u64 (S.reads)) = (Value.int IntKind.u64 (x1.S.reads))) ∧ True) ∧ (True ∧ True ∧ True ∧ ((Value.int IntKind.u32 (S.fresh)) = (Value.int IntKind.u32 (x1.S.fresh))) ∧ True) ∧ ((S.nodes) = (x1.S.nodes)) ∧ ((S.counts) = (x1.S.counts)) ∧ ((S.used) = (x1.S.used)) ∧ ((S.gen) = (x1.S.gen)) ∧ ((S.rel) = (x1.S.rel)) ∧ ((W) = (W)) ∧ ((l) = (l)) ∧ (True ∧ ((Value.int IntKind.i64 0) = (Value.int IntKind.i64 (x1.k))) ∧ ((Value.bool false) = (Value.bool false)) ∧ True) ∧ True ∧ (((Value.int IntKind.i64 0) = (Value.int IntKind.i64 ((x1.o.getD (0, 0)).fst))) ∧
    ((Value.int IntKind.i64 0) = (Value.int IntKind.i64 ((x1.o.getD (0, 0)).snd))) ∧ True) ∧ (((Value.int IntKind.i64 0) = (Value.int IntKind.i64 ((x1.o.getD (0, 0)).fst))) ∧ ((Value.int IntKind.i64 0) = (Value.int IntKind.i64 ((x1.o.getD (0, 0)).snd))) ∧ True) ∧ True)))) ∧ (((c.closed) = false) → (∀ c' : Cur, (((c') = (mvC c none 0)) → ((false = false) ∧ (∃ x1 : XMv P, (True ∧ (True ∧ True ∧ True ∧ True ∧ ((Value.int IntKind.i64 0) = (Value.int IntKind.i64 (x1.e))) ∧ ((Value.int IntKind.i64 0) = (Value.int IntKind.i64 (x1.e))) ∧ True) ∧ (True ∧ ((Value.int IntKind.u32 (c'.root)) = (Value.int IntKind.u32 (x1.c.root))) ∧ ((Value.int IntKind.i64 (c'.lo)) = (Value.int IntKind.i64 (x1.c.lo))) ∧ ((Value.int IntKind.i64 (c'.hi)) = (Value.int IntKind.i64 (x1.c.hi))) ∧ ((Value.int IntKind.i64 (c'.place)) = (Value.int IntKind.i64 (x1.c.place))) ∧ ((Value.int IntKind.i64 (c'.ek)) = (Value.int IntKind.i64 (x1.c.ek))) ∧ ((Value.int IntKind.i64 (c'.ev)) = (Value.int IntKind.i64 (x1.c.ev))) ∧ ((Value.bool (c'.closed)) = (Value.bool (x1.c.closed))) ∧ True) ∧ (True ∧ True ∧ True ∧ ((Value.int IntKind.u64 (S.reads)) = (Value.int IntKind.u64 (x1.S.reads))) ∧ True) ∧ (True ∧ True ∧ True ∧ ((Value.int IntKind.u32 (S.fresh)) = (Value.int IntKind.u32 (x1.S.fresh))) ∧ True) ∧ ((S.nodes) = (x1.S.nodes)) ∧ ((S.counts) = (x1.S.counts)) ∧ ((S.used) = (x1.S.used)) ∧ ((S.gen) = (x1.S.gen)) ∧ ((S.rel) = (x1.S.rel)) ∧ ((W) = (W)) ∧ ((l) = (l)) ∧ (True ∧
    ((Value.int IntKind.i64 0) = (Value.int IntKind.i64 (x1.k))) ∧ ((Value.bool false) = (Value.bool false)) ∧ True) ∧ True ∧ (((Value.int IntKind.i64 0) = (Value.int IntKind.i64 ((x1.o.getD (0, 0)).fst))) ∧ ((Value.int IntKind.i64 0) = (Value.int IntKind.i64 ((x1.o.getD (0, 0)).snd))) ∧ True) ∧ (((Value.int IntKind.i64 0) = (Value.int IntKind.i64 ((x1.o.getD (0, 0)).fst))) ∧ ((Value.int IntKind.i64 0) = (Value.int IntKind.i64 ((x1.o.getD (0, 0)).snd))) ∧ True) ∧ True)))))))))))))))))))))))))))) ∧
(∀ x : XMv P, (True → (brS ((x.o.getD (0, 0)).fst == (x.o.getD (0, 0)).fst && ((x.o.getD (0, 0)).snd == (x.o.getD (0, 0)).snd && true))
    ((K (SV.tup [(TV.agg [(At.slc 8), (At.val (Value.int IntKind.i64 (x.k))), (At.val (Value.bool false))]), (TV.at (At.val (Value.bool (x.e == x.e))))]) [(Chunk.box [(At.ptr 1 0), (At.val (Value.int IntKind.u32 (x.c.root))), (At.val (Value.int IntKind.i64 (x.c.lo))), (At.val (Value.int IntKind.i64 (x.c.hi))), (At.val (Value.int IntKind.i64 (x.c.place))), (At.val (Value.int IntKind.i64 (x.c.ek))), (At.val (Value.int IntKind.i64 (x.c.ev))), (At.val (Value.bool (x.c.closed)))]), (Chunk.box [(At.ptr 2 0), (At.slc 3), (At.slc 4), (At.val (Value.int IntKind.u64 (x.S.reads)))]), (Chunk.box [(At.slc 5), (At.slc 6), (At.slc 7), (At.val (Value.int IntKind.u32 (x.S.fresh)))]), (Chunk.row true (EC.node) (x.S.nodes)), (Chunk.row true (EC.int) (x.S.counts)), (Chunk.row true (EC.bool) (x.S.used)), (Chunk.row true (EC.u32) (x.S.gen)), (Chunk.row true (EC.u32) (x.S.rel)), (Chunk.row false (EC.ent) (W)), (Chunk.row false (EC.ent) (l))] [0, 1]))
    ((K (SV.tup [(TV.agg [(At.slc 8), (At.val (Value.int IntKind.i64 (x.k))), (At.val (Value.bool false))]), (TV.at (At.val (Value.bool false)))]) [(Chunk.box [(At.ptr 1 0), (At.val (Value.int IntKind.u32 (x.c.root))), (At.val (Value.int IntKind.i64 (x.c.lo))), (At.val (Value.int IntKind.i64 (x.c.hi))), (At.val (Value.int IntKind.i64 (x.c.place))), (At.val (Value.int IntKind.i64 (x.c.ek))), (At.val (Value.int IntKind.i64 (x.c.ev))), (At.val (Value.bool (x.c.closed)))]), (Chunk.box [(At.ptr 2 0), (At.slc 3), (At.slc 4), (At.val (Value.int IntKind.u64 (x.S.reads)))]), (Chunk.box [(At.slc 5), (At.slc 6), (At.slc 7), (At.val (Value.int IntKind.u32 (x.S.fresh)))]), (Chunk.row true (EC.node) (x.S.nodes)), (Chunk.row true (EC.int) (x.S.counts)), (Chunk.row true (EC.bool) (x.S.used)), (Chunk.row true (EC.u32) (x.S.gen)), (Chunk.row true (EC.u32) (x.S.rel)), (Chunk.row false (EC.ent) (W)), (Chunk.row false (EC.ent) (l))] [0, 1])))))) = _ by kernel_rfl) ?_
  subst hP
  have aN : (∃ hs : List Int,
      (∃ t : Tr,
        ((Wf S hs) ∧
        (Rep S t c.root) ∧
        (t.size ≤ 1000000) ∧
        (S.reads + (↑t.size : Int) ≤ 3000000000000000000) ∧
        (∀ S' : Arn,
          (∀ m : Nat,
            (∀ c' : Cur,
              (∀ r : Option Ent,
                (∀ e : Int,
                  (((S') = (rdS S m)) →
                  ((m ≤ t.size) →
                  (((Prod.mk (c') (Prod.mk (r) (e))) = (nextC t c)) →
                  ((false = false) ∧
                  (0 ≤ k) ∧
                  (k ≤ (↑W.length : Int) + 1) ∧
                  (W.length ≤ 1000000) ∧
                  (∀ k' : Int,
                    (∀ o : Option Ent,
                      (((k') = (if k ≤ (↑W.length : Int) then k + 1 else k)) →
                      (((o) = (entR W k')) →
                      (∃ x1 : XMv (PMv S tr W c),
                        (True ∧
                        (True ∧
                        True ∧
                        True ∧
                        True ∧
                        ((Value.int IntKind.i64 (e)) = (Value.int IntKind.i64 (x1.e))) ∧
                        ((Value.int IntKind.i64 (errE o)) = (Value.int IntKind.i64 (x1.e))) ∧
                        True) ∧
                        (True ∧
                        ((Value.int IntKind.u32 (c'.root)) = (Value.int IntKind.u32 (x1.c.root))) ∧
                        ((Value.int IntKind.i64 (c'.lo)) = (Value.int IntKind.i64 (x1.c.lo))) ∧
                        ((Value.int IntKind.i64 (c'.hi)) = (Value.int IntKind.i64 (x1.c.hi))) ∧
                        ((Value.int IntKind.i64 (c'.place)) = (Value.int IntKind.i64 (x1.c.place))) ∧
                        ((Value.int IntKind.i64 (c'.ek)) = (Value.int IntKind.i64 (x1.c.ek))) ∧
                        ((Value.int IntKind.i64 (c'.ev)) = (Value.int IntKind.i64 (x1.c.ev))) ∧
                        ((Value.bool (c'.closed)) = (Value.bool (x1.c.closed))) ∧
                        True) ∧
                        (True ∧
                        True ∧
                        True ∧
                        ((Value.int IntKind.u64 (S'.reads)) = (Value.int IntKind.u64 (x1.S.reads))) ∧
                        True) ∧
                        (True ∧
                        True ∧
                        True ∧
                        ((Value.int IntKind.u32 (S'.fresh)) = (Value.int IntKind.u32 (x1.S.fresh))) ∧
                        True) ∧
                        ((S'.nodes) = (x1.S.nodes)) ∧
                        ((S'.counts) = (x1.S.counts)) ∧
                        ((S'.used) = (x1.S.used)) ∧
                        ((S'.gen) = (x1.S.gen)) ∧
                        ((S'.rel) = (x1.S.rel)) ∧
                        ((W) = (W)) ∧
                        ((l) = (l)) ∧
                        (True ∧
                        ((Value.int IntKind.i64 (k')) = (Value.int IntKind.i64 (x1.k))) ∧
                        ((Value.bool false) = (Value.bool false)) ∧
                        True) ∧
                        True ∧
                        (((Value.int IntKind.i64 ((r.getD (0, 0)).fst)) = (Value.int IntKind.i64 ((x1.o.getD (0, 0)).fst))) ∧
                        ((Value.int IntKind.i64 ((r.getD (0, 0)).snd)) = (Value.int IntKind.i64 ((x1.o.getD (0, 0)).snd))) ∧
                        True) ∧
                        (((Value.int IntKind.i64 ((o.getD (0, 0)).fst)) = (Value.int IntKind.i64 ((x1.o.getD (0, 0)).fst))) ∧
                        ((Value.int IntKind.i64 ((o.getD (0, 0)).snd)) = (Value.int IntKind.i64 ((x1.o.getD (0, 0)).snd))) ∧
                        True) ∧
                        True)))))))))))))))))) := by
    refine ⟨hs, tr, w, p, z1, z2, fun S' m c' r e e1 e2 e3 => ⟨rfl, k0, k1, hWl, fun k' o e4 e5 => ?_⟩⟩
    obtain ⟨d, f1, f2, f3⟩ := n1
    rw [f1] at e3
    obtain ⟨rfl, e6⟩ := Prod.mk.inj e3
    obtain ⟨rfl, rfl⟩ := Prod.mk.inj e6
    subst e4 e5
    refine ⟨⟨S', _, _, entR W (if k ≤ (W.length : Int) then k + 1 else k), errE (entR W (if k ≤ (W.length : Int) then k + 1 else k)), ⟨m, e1, e2⟩, f2, f3⟩, ?_⟩
    (repeat' first | exact trivial | exact rfl | refine And.intro ?_ ?_)
  have aP : (∃ hs : List Int,
              (∃ t : Tr,
                ((Wf S hs) ∧
                (Rep S t c.root) ∧
                (t.size ≤ 1000000) ∧
                (S.reads + (↑t.size : Int) ≤ 3000000000000000000) ∧
                (∀ S' : Arn,
                  (∀ m : Nat,
                    (∀ c' : Cur,
                      (∀ r : Option Ent,
                        (∀ e : Int,
                          (((S') = (rdS S m)) →
                          ((m ≤ t.size) →
                          (((Prod.mk (c') (Prod.mk (r) (e))) = (prevC t c)) →
                          ((false = false) ∧
                          (0 ≤ k) ∧
                          (k ≤ (↑W.length : Int) + 1) ∧
                          (W.length ≤ 1000000) ∧
                          (∀ k' : Int,
                            (∀ o : Option Ent,
                              (((k') = (if 0 < k then k - 1 else k)) →
                              (((o) = (entR W k')) →
                              (∃ x1 : XMv (PMv S tr W c),
                                (True ∧
                                (True ∧
                                True ∧
                                True ∧
                                True ∧
                                ((Value.int IntKind.i64 (e)) = (Value.int IntKind.i64 (x1.e))) ∧
                                ((Value.int IntKind.i64 (errE o)) = (Value.int IntKind.i64 (x1.e))) ∧
                                True) ∧
                                (True ∧
                                ((Value.int IntKind.u32 (c'.root)) = (Value.int IntKind.u32 (x1.c.root))) ∧
                                ((Value.int IntKind.i64 (c'.lo)) = (Value.int IntKind.i64 (x1.c.lo))) ∧
                                ((Value.int IntKind.i64 (c'.hi)) = (Value.int IntKind.i64 (x1.c.hi))) ∧
                                ((Value.int IntKind.i64 (c'.place)) = (Value.int IntKind.i64 (x1.c.place))) ∧
                                ((Value.int IntKind.i64 (c'.ek)) = (Value.int IntKind.i64 (x1.c.ek))) ∧
                                ((Value.int IntKind.i64 (c'.ev)) = (Value.int IntKind.i64 (x1.c.ev))) ∧
                                ((Value.bool (c'.closed)) = (Value.bool (x1.c.closed))) ∧
                                True) ∧
                                (True ∧
                                True ∧
                                True ∧
                                ((Value.int IntKind.u64 (S'.reads)) = (Value.int IntKind.u64 (x1.S.reads))) ∧
                                True) ∧
                                (True ∧
                                True ∧
                                True ∧
                                ((Value.int IntKind.u32 (S'.fresh)) = (Value.int IntKind.u32 (x1.S.fresh))) ∧
                                True) ∧
                                ((S'.nodes) = (x1.S.nodes)) ∧
                                ((S'.counts) = (x1.S.counts)) ∧
                                ((S'.used) = (x1.S.used)) ∧
                                ((S'.gen) = (x1.S.gen)) ∧
                                ((S'.rel) = (x1.S.rel)) ∧
                                ((W) = (W)) ∧
                                ((l) = (l)) ∧
                                (True ∧
                                ((Value.int IntKind.i64 (k')) = (Value.int IntKind.i64 (x1.k))) ∧
                                ((Value.bool false) = (Value.bool false)) ∧
                                True) ∧
                                True ∧
                                (((Value.int IntKind.i64 ((r.getD (0, 0)).fst)) = (Value.int IntKind.i64 ((x1.o.getD (0, 0)).fst))) ∧
                                ((Value.int IntKind.i64 ((r.getD (0, 0)).snd)) = (Value.int IntKind.i64 ((x1.o.getD (0, 0)).snd))) ∧
                                True) ∧
                                (((Value.int IntKind.i64 ((o.getD (0, 0)).fst)) = (Value.int IntKind.i64 ((x1.o.getD (0, 0)).fst))) ∧
                                ((Value.int IntKind.i64 ((o.getD (0, 0)).snd)) = (Value.int IntKind.i64 ((x1.o.getD (0, 0)).snd))) ∧
                                True) ∧
                                True)))))))))))))))))) := by
    refine ⟨hs, tr, w, p, z1, z2, fun S' m c' r e e1 e2 e3 => ⟨rfl, k0, k1, hWl, fun k' o e4 e5 => ?_⟩⟩
    obtain ⟨d, f1, f2, f3⟩ := n2
    rw [f1] at e3
    obtain ⟨rfl, e6⟩ := Prod.mk.inj e3
    obtain ⟨rfl, rfl⟩ := Prod.mk.inj e6
    subst e4 e5
    refine ⟨⟨S', _, _, entR W (if 0 < k then k - 1 else k), errE (entR W (if 0 < k then k - 1 else k)), ⟨m, e1, e2⟩, f2, f3⟩, ?_⟩
    (repeat' first | exact trivial | exact rfl | refine And.intro ?_ ?_)
  have aF : (∀ x1 : Int,
                  (((x1) = (tgtE l key n)) →
                  ((((c.closed) = true) →
                  ((l.length ≤ 1000000) ∧
                  (∀ x2 : Int,
                    (((x2) = (tgtE l key n)) →
                    ((false = false) ∧
                    (W.length ≤ 1000000) ∧
                    (∀ k' : Int,
                      (∀ o : Option Ent,
                        (((k') = ((↑(rkE W x2) : Int) + 1)) →
                        (((o) = (entR W k')) →
                        (∃ x3 : XMv (PMv S tr W c),
                          (True ∧
                          (True ∧
                          True ∧
                          True ∧
                          True ∧
                          ((Value.int IntKind.i64 6) = (Value.int IntKind.i64 (x3.e))) ∧
                          ((Value.int IntKind.i64 (errE o)) = (Value.int IntKind.i64 (x3.e))) ∧
                          True) ∧
                          (True ∧
                          ((Value.int IntKind.u32 (c.root)) = (Value.int IntKind.u32 (x3.c.root))) ∧
                          ((Value.int IntKind.i64 (c.lo)) = (Value.int IntKind.i64 (x3.c.lo))) ∧
                          ((Value.int IntKind.i64 (c.hi)) = (Value.int IntKind.i64 (x3.c.hi))) ∧
                          ((Value.int IntKind.i64 (c.place)) = (Value.int IntKind.i64 (x3.c.place))) ∧
                          ((Value.int IntKind.i64 (c.ek)) = (Value.int IntKind.i64 (x3.c.ek))) ∧
                          ((Value.int IntKind.i64 (c.ev)) = (Value.int IntKind.i64 (x3.c.ev))) ∧
                          ((Value.bool (c.closed)) = (Value.bool (x3.c.closed))) ∧
                          True) ∧
                          (True ∧
                          True ∧
                          True ∧
                          ((Value.int IntKind.u64 (S.reads)) = (Value.int IntKind.u64 (x3.S.reads))) ∧
                          True) ∧
                          (True ∧
                          True ∧
                          True ∧
                          ((Value.int IntKind.u32 (S.fresh)) = (Value.int IntKind.u32 (x3.S.fresh))) ∧
                          True) ∧
                          ((S.nodes) = (x3.S.nodes)) ∧
                          ((S.counts) = (x3.S.counts)) ∧
                          ((S.used) = (x3.S.used)) ∧
                          ((S.gen) = (x3.S.gen)) ∧
                          ((S.rel) = (x3.S.rel)) ∧
                          ((W) = (W)) ∧
                          ((l) = (l)) ∧
                          (True ∧
                          ((Value.int IntKind.i64 (k')) = (Value.int IntKind.i64 (x3.k))) ∧
                          ((Value.bool false) = (Value.bool false)) ∧
                          True) ∧
                          True ∧
                          (((Value.int IntKind.i64 0) = (Value.int IntKind.i64 ((x3.o.getD (0, 0)).fst))) ∧
                          ((Value.int IntKind.i64 0) = (Value.int IntKind.i64 ((x3.o.getD (0, 0)).snd))) ∧
                          True) ∧
                          (((Value.int IntKind.i64 ((o.getD (0, 0)).fst)) = (Value.int IntKind.i64 ((x3.o.getD (0, 0)).fst))) ∧
                          ((Value.int IntKind.i64 ((o.getD (0, 0)).snd)) = (Value.int IntKind.i64 ((x3.o.getD (0, 0)).snd))) ∧
                          True) ∧
                          True))))))))))) ∧
                  (((c.closed) = false) →
                  (∃ hs : List Int,
                    (∃ t : Tr,
                      ((Wf S hs) ∧
                      (Rep S t c.root) ∧
                      (t.size ≤ 1000000) ∧
                      (S.reads + (↑t.size : Int) ≤ 3000000000000000000) ∧
                      (∀ S' : Arn,
                        (∀ m : Nat,
                          (∀ c' : Cur,
                            (∀ o : Option Ent,
                              (((S') = (rdS S m)) →
                              ((m ≤ t.size) →
                              (((Prod.mk (c') (o)) = (findC t c x1)) →
                              ((l.length ≤ 1000000) ∧
                              (∀ x2 : Int,
                                (((x2) = (tgtE l key n)) →
                                ((false = false) ∧
                                (W.length ≤ 1000000) ∧
                                (∀ k' : Int,
                                  (∀ o1 : Option Ent,
                                    (((k') = ((↑(rkE W x2) : Int) + 1)) →
                                    (((o1) = (entR W k')) →
                                    (∃ x3 : XMv (PMv S tr W c),
                                      (True ∧
                                      (True ∧
                                      True ∧
                                      True ∧
                                      True ∧
                                      ((Value.int IntKind.i64 (errE o)) = (Value.int IntKind.i64 (x3.e))) ∧
                                      ((Value.int IntKind.i64 (errE o1)) = (Value.int IntKind.i64 (x3.e))) ∧
                                      True) ∧
                                      (True ∧
                                      ((Value.int IntKind.u32 (c'.root)) = (Value.int IntKind.u32 (x3.c.root))) ∧
                                      ((Value.int IntKind.i64 (c'.lo)) = (Value.int IntKind.i64 (x3.c.lo))) ∧
                                      ((Value.int IntKind.i64 (c'.hi)) = (Value.int IntKind.i64 (x3.c.hi))) ∧
                                      ((Value.int IntKind.i64 (c'.place)) = (Value.int IntKind.i64 (x3.c.place))) ∧
                                      ((Value.int IntKind.i64 (c'.ek)) = (Value.int IntKind.i64 (x3.c.ek))) ∧
                                      ((Value.int IntKind.i64 (c'.ev)) = (Value.int IntKind.i64 (x3.c.ev))) ∧
                                      ((Value.bool (c'.closed)) = (Value.bool (x3.c.closed))) ∧
                                      True) ∧
                                      (True ∧
                                      True ∧
                                      True ∧
                                      ((Value.int IntKind.u64 (S'.reads)) = (Value.int IntKind.u64 (x3.S.reads))) ∧
                                      True) ∧
                                      (True ∧
                                      True ∧
                                      True ∧
                                      ((Value.int IntKind.u32 (S'.fresh)) = (Value.int IntKind.u32 (x3.S.fresh))) ∧
                                      True) ∧
                                      ((S'.nodes) = (x3.S.nodes)) ∧
                                      ((S'.counts) = (x3.S.counts)) ∧
                                      ((S'.used) = (x3.S.used)) ∧
                                      ((S'.gen) = (x3.S.gen)) ∧
                                      ((S'.rel) = (x3.S.rel)) ∧
                                      ((W) = (W)) ∧
                                      ((l) = (l)) ∧
                                      (True ∧
                                      ((Value.int IntKind.i64 (k')) = (Value.int IntKind.i64 (x3.k))) ∧
                                      ((Value.bool false) = (Value.bool false)) ∧
                                      True) ∧
                                      True ∧
                                      (((Value.int IntKind.i64 ((o.getD (0, 0)).fst)) = (Value.int IntKind.i64 ((x3.o.getD (0, 0)).fst))) ∧
                                      ((Value.int IntKind.i64 ((o.getD (0, 0)).snd)) = (Value.int IntKind.i64 ((x3.o.getD (0, 0)).snd))) ∧
                                      True) ∧
                                      (((Value.int IntKind.i64 ((o1.getD (0, 0)).fst)) = (Value.int IntKind.i64 ((x3.o.getD (0, 0)).fst))) ∧
                                      ((Value.int IntKind.i64 ((o1.getD (0, 0)).snd)) = (Value.int IntKind.i64 ((x3.o.getD (0, 0)).snd))) ∧
                                      True) ∧
                                      True)))))))))))))))))))))))) := by
    intro q eq
    refine ⟨(fun z => absurd z (by rw [hc]; decide)), fun _ => ⟨hs, tr, w, p, z1, z2, fun S' m c' o e1 e2 e3 => ⟨hl, fun q2 eq2 => ⟨rfl, hWl, fun k' o2 e4 e5 => ?_⟩⟩⟩⟩
    have eqq : q2 = q := by rw [eq, eq2]
    subst eqq
    obtain ⟨d, f1, f2, f3⟩ := n3 q2
    rw [f1] at e3
    obtain ⟨rfl, rfl⟩ := Prod.mk.inj e3
    subst e4 e5
    refine ⟨⟨S', _, _, entR W ((rkE W q2 : Int) + 1), errE (entR W ((rkE W q2 : Int) + 1)), ⟨m, e1, e2⟩, f2, f3⟩, ?_⟩
    (repeat' first | exact trivial | exact rfl | refine And.intro ?_ ?_)
  refine ⟨⟨by decide, by decide, fun x _ => brS_of (fun _ => aN) fun _ => brS_of (fun _ => aN) fun _ => brS_of (fun _ => aN) fun _ => brS_of (fun _ => aP) fun _ => brS_of (fun _ => aP) fun _ => brS_of (fun _ => aP) fun _ => brS_of (fun _ => ⟨hl, aF⟩) fun _ => brS_of (fun _ => ⟨hl, aF⟩) fun _ => brS_of (fun _ => ?_) fun _ => ?_⟩, fun x _ => ?_⟩
  · refine ⟨(fun z => absurd z (by rw [hc]; decide)), fun _ o eo => ⟨rfl, k0, k1, hWl, fun o2 e2 => ?_⟩⟩
    rw [n4] at eo
    subst eo e2
    refine ⟨⟨S, c, k, entR W k, errE (entR W k), stay, hk, rfl, rfl, rfl, rfl⟩, ?_⟩
    (repeat' first | exact trivial | exact rfl | refine And.intro ?_ ?_)
  · refine ⟨(fun z => absurd z (by rw [hc]; decide)), fun _ c' ec => ⟨rfl, ⟨S, c', 0, none, 0, stay, .inl ⟨rfl, by rw [ec]; rfl⟩, by rw [ec]; exact mvC_keep _ _ _⟩, ?_⟩⟩
    (repeat' first | exact trivial | exact rfl | refine And.intro ?_ ?_)
  · obtain ⟨S', c', k', o, e, ⟨m, m1, m2⟩, r1, r2⟩ := x
    dsimp only
    refine brS_of (fun _ => ?_) fun z => ?_
    · have ee : (e == e) = true := beq_self_eq_true e
      rw [ee]
      exact h S' m c' k' m1 m2 r1 r2
    · simp at z
theorem s_mv : SoundT C0 44 tMv := by
  refine .ofW [0, 1] Try.func44 (by decide) rfl fun args H K h hB => ?_
  unfold tMv at h
  split at h <;> try exact h.elim
  unfold cuMr at h
  split at h <;> try exact h.elim
  split at h <;> try exact h.elim
  rename_i k cl kd key n _ root lo hi place ek ev closed rd fr nd ct us gn rl _ W l
  obtain ⟨rfl, hc, hl, hs, t, w, p, ha, hW, hk, z1, z2, h⟩ := h
  refine ⟨_, ?_, vc_mv W l ⟨root, lo, hi, place, ek, ev, closed⟩ ⟨us, gn, rl, fr, nd, ct, rd⟩ k kd key n K hc hl hs t w p ha hW hk z1 z2 h⟩
  exact ⟨frame C0.ok s_mod _, frame C0.ok s_cu_next _, frame C0.ok s_cu_prev _, frame C0.ok s_cu_find _, frame C0.ok s_cu_entry _, frame C0.ok s_cu_rew _, frame C0.ok s_n24 _, frame C0.ok s_p24 _, frame C0.ok s_f24 _, frame C0.ok s_e24 _, frame C0.ok s_r24 _, frame C0.ok s_tgt _, trivial⟩
end Go.Proofs.Ytmjnoiajenoinaa.Sx
end
section
/- The law that a cursor lists all. -/
namespace Go.Proofs.Ytmjnoiajenoinaa.Sx
open Go

/-KEEP Wf exW inU live Arn.cap Arn.free Rep rdS opS Tr.size PlantR betE listE nextC prevC newS-/
noncomputable def aAwake24 : Ann C0 := { Γ := [(37, frameT [] tGrow), (40, frameT [] tOpenL), (42, frameT [] tCu_next), (82, frameT [] tCu_prev)] }
def tAwake24 : Tfm C0 := fun args H K => match args, H with
  | [], [] => K (.one (.at (vB true))) [] []
  | _, _ => False
abbrev W24 (raw : List Ent) (c : Cur) : List Ent := betE (listE raw 100) c.lo c.hi
structure XLa (raw : List Ent) (P : Arn → Cur → Nat → Prop) where
  S : Arn
  c : Cur
  k : Nat
  h : P S c k
def tCla : Tfm C0 := fun args H K => match args, H with
  | [.at (.slc 0), .at (.val (.int .u64 t)), .at (.val (.int .i64 _)), .at (.val (.int .i64 _)), .at (.val (.int .i64 _))], [.row false .ent raw] => 0 ≤ t ∧ K (.one (.at (vB true))) [.row false EC.ent raw] []
  | _, _ => False
theorem rep_rd24 {S : Arn} {t : Tr} {i : Int} (h : Rep S t i) (m : Nat) : Rep (rdS S m) t i := Rep.same (S := S) (S' := rdS S m) (fun _ => rfl) (fun _ => rfl) h
theorem vc_awake24 (K : KT) (h : K (.one (.at (vB true))) [] []) :
    vc C0 aAwake24 Try.f39 [] [] (normK 0 K) := by
  refine Eq.mp (show (((0 : Int) ≤ 0) ∧
((1 : Int) ≤ 1) ∧
((1 : Int) ≤ 30000) ∧
(([(1, 0), (4, 0), (9, 0)] : List Ent).length ≤ 30000) ∧
(∀ S' : Arn, (∀ i : Int, ((PlantR (newS ((↑([(1, 0), (4, 0), (9, 0)] : List Ent).length : Int) + 1).toNat) [] ([(1, 0), (4, 0), (9, 0)] : List Ent) S' i) → ((exW S') ∧ (live S' i) ∧ (∀ S'1 : Arn, (((S'1) = (opS S' i)) → (∃ hs : List Int, (∃ t : Tr, ((Wf S'1 hs) ∧ (Rep S'1 t i) ∧ (t.size ≤ 1000000) ∧ (S'1.reads + (↑t.size : Int) ≤ 3000000000000000000) ∧ (∀ S'2 : Arn, (∀ m : Nat, (∀ c' : Cur, (∀ r : Option Ent, (∀ e : Int, (((S'2) = (rdS S'1 m)) → ((m ≤ t.size) → (((Prod.mk (c') (Prod.mk (r) (e))) = (nextC t { root := i, lo := 2, hi := 9, place := 0, ek := 0, ev := 0, closed := false : Cur })) → (∃ hs1 : List Int, (∃ t1 : Tr, ((Wf S'2 hs1) ∧ (Rep S'2 t1 c'.root) ∧ (t1.size ≤ 1000000) ∧ (S'2.reads + (↑t1.size : Int) ≤ 3000000000000000000) ∧ (∀ S'3 : Arn, (∀ m1 : Nat, (∀ c'1 : Cur, (∀ r1 : Option Ent, (∀ e1 : Int, (((S'3) = (rdS S'2 m1)) → ((m1 ≤ t1.size) → (((Prod.mk (c'1) (Prod.mk (r1) (e1))) = (nextC t1 c')) → (∃ hs2 : List Int, (∃ t2 : Tr, ((Wf S'3 hs2) ∧ (Rep S'3 t2 c'1.root) ∧ (t2.size ≤ 1000000) ∧ (S'3.reads + (↑t2.size : Int) ≤ 3000000000000000000) ∧ (∀ S'4 : Arn, (∀ m2 : Nat, (∀ c'2 : Cur, (∀ r2 : Option Ent, (∀ e2 : Int, (((S'4) = (rdS S'3 m2)) → ((m2 ≤ t2.size) → (((Prod.mk (c'2) (Prod.mk (r2) (e2))) = (nextC t2 c'1)) → (∃ hs3 : List Int, (∃ t3 : Tr, ((Wf S'4 hs3) ∧ (Rep S'4 t3 c'2.root) ∧ (t3.size ≤ 1000000) ∧
    (S'4.reads + (↑t3.size : Int) ≤ 3000000000000000000) ∧ (∀ S'5 : Arn, (∀ m3 : Nat, (∀ c'3 : Cur, (∀ r3 : Option Ent, (∀ e3 : Int, (((S'5) = (rdS S'4 m3)) → ((m3 ≤ t3.size) → (((Prod.mk (c'3) (Prod.mk (r3) (e3))) = (prevC t3 c'2)) → (brS ((r.getD (0, 0)).fst == 4) ((brS ((r1.getD (0, 0)).fst == 9) ((brS (e2 == 4) ((K (SV.one (TV.at (At.val (Value.bool ((r3.getD (0, 0)).fst == 9))))) [] [])) ((K (SV.one (TV.at (At.val (Value.bool false)))) [] [])))) ((K (SV.one (TV.at (At.val (Value.bool false)))) [] [])))) ((K (SV.one (TV.at (At.val (Value.bool false)))) [] [])))))))))))))))))))))))))))))))))))))))))))))))))))))) = _ by kernel_rfl) ?_
  refine ⟨by decide, by decide, by decide, by decide, fun S1 i hp => ?_⟩
  obtain ⟨t, r1, r2, _⟩ := hp.rep
  have hsz : t.size = 3 := by rw [← t.list_len, r2]; rfl
  have hrd : S1.reads = 0 := by rw [hp.rds]; rfl
  have ha : Asc t.list := by rw [r2]; unfold Asc Srt; simp
  refine ⟨⟨_, hp.wf⟩, r1.us, fun S2 e2 => ?_⟩
  obtain ⟨hs, w2⟩ := opS_wf hp.wf (i := i) (by simp)
  have p2 := opS_rep r1 i
  have d2 := opS_reads S1 i
  rw [← e2] at w2 p2 d2
  refine ⟨hs, t, w2, p2, by omega, by omega, fun S3 m1 c1 o1 x1 e3 b1 f1 => ?_⟩
  rw [nextC_pos ha rfl (k := 0) (.inl ⟨rfl, rfl⟩), r2] at f1
  obtain ⟨rfl, g1⟩ := Prod.mk.inj f1
  obtain ⟨rfl, rfl⟩ := Prod.mk.inj g1
  have w3 : Wf S3 hs := by rw [e3]; exact w2.rd (by omega)
  have p3 : Rep S3 t i := by rw [e3]; exact rep_rd24 p2 _
  have d3 : S3.reads = S2.reads + m1 := by rw [e3]; rfl
  refine ⟨hs, t, w3, p3, by omega, by omega, fun S4 m2 c2 o2 x2 e4 b2 f2 => ?_⟩
  rw [nextC_pos ha rfl (k := 1) (.inr ⟨by decide, rfl, by rw [r2]; rfl⟩), r2] at f2
  obtain ⟨rfl, g2⟩ := Prod.mk.inj f2
  obtain ⟨rfl, rfl⟩ := Prod.mk.inj g2
  have w4 : Wf S4 hs := by rw [e4]; exact w3.rd (by omega)
  have p4 : Rep S4 t i := by rw [e4]; exact rep_rd24 p3 _
  have d4 : S4.reads = S3.reads + m2 := by rw [e4]; rfl
  refine ⟨hs, t, w4, p4, by omega, by omega, fun S5 m3 c3 o3 x3 e5 b3 f3 => ?_⟩
  rw [nextC_pos ha rfl (k := 2) (.inr ⟨by decide, rfl, by rw [r2]; rfl⟩), r2] at f3
  obtain ⟨rfl, g3⟩ := Prod.mk.inj f3
  obtain ⟨rfl, rfl⟩ := Prod.mk.inj g3
  have w5 : Wf S5 hs := by rw [e5]; exact w4.rd (by omega)
  have p5 : Rep S5 t i := by rw [e5]; exact rep_rd24 p4 _
  have d5 : S5.reads = S4.reads + m3 := by rw [e5]; rfl
  refine ⟨hs, t, w5, p5, by omega, by omega, fun S6 m4 c4 o4 x4 e6 b4 f4 => ?_⟩
  rw [prevC_pos ha rfl (j := 2) (.inl ⟨by rw [r2]; rfl, rfl⟩), r2] at f4
  obtain ⟨rfl, g4⟩ := Prod.mk.inj f4
  obtain ⟨rfl, rfl⟩ := Prod.mk.inj g4
  exact h
theorem s_awake24 : SoundT C0 39 tAwake24 := by
  refine .of Try.func39 (by decide) rfl fun args H K h hB => ?_
  unfold tAwake24 at h
  split at h <;> try exact h.elim
  exact ⟨aAwake24, ⟨frame C0.ok s_grow _, frame C0.ok s_openL _, frame C0.ok s_cu_next _, frame C0.ok s_cu_prev _, trivial⟩, vc_awake24 K h⟩
def PN (raw : List Ent) (S : Arn) (c : Cur) (k : Nat) : Prop := (∃ hs t, Wf S hs ∧ Rep S t c.root ∧ t.list = listE raw 100) ∧ c.closed = false ∧ posN (W24 raw c) c k ∧ k ≤ (W24 raw c).length ∧ S.reads ≤ 1000 * (k + 1)
def PP (raw : List Ent) (S : Arn) (c : Cur) (j : Nat) : Prop := (∃ hs t, Wf S hs ∧ Rep S t c.root ∧ t.list = listE raw 100) ∧ c.closed = false ∧ posP (W24 raw c) c j ∧ j ≤ (W24 raw c).length ∧ S.reads ≤ 1000 * (500 - j)
end Go.Proofs.Ytmjnoiajenoinaa.Sx
end
