/- The law that lists are what the reference gives, with few reads. -/
import Derived.Test.YtacdmmomkngpkaaQSd
import Derived.Test.YtacdmmomkngpkaaQMh
import Derived.Test.YtacdmmomkngpkaaQCl
import Derived.Test.YtacdmmomkngpkaaQSa
namespace Go.Proofs.Ytacdmmomkngpkaa.Sx
open Go

/-KEEP Wf exW inU live Arn.cap Arn.free Rep rdS Tr.size BuildR PlantR rangeR sliceR newS listE sameB slotsOf orderOf betE Hn-/
structure XHd (n : Nat) (m : Int) where
  i : Nat
  h : i ≤ n ∧ i ≤ m.toNat
noncomputable def aHd (l : List Ent) (m : Int) : Ann C0 := { Γ := [], inv := fun n => match n with
  | 3 => some { X := XHd l.length m, sl := [6, 5], tf := fun x => [vi .i64 x.i, .one (.at (.slc 1))], hf := fun x => [.row false EC.ent l, .row true EC.ent (l.take x.i)], μ := fun x => l.length - x.i }
  | _ => none }
def tHd : Tfm C0 := fun args H K => match args, H with
  | [.at (.slc 0), .at (.val (.int .i64 m))], [.row false .ent l] => l.length ≤ 1000000 ∧ ∀ r : List Ent, r = l.take m.toNat → K (.one (.at (.slc 1))) [.row false EC.ent l, .row true EC.ent r] []
  | _, _ => False
structure XLs (P : Arn → Int → Nat → Prop) where
  S : Arn
  r : Int
  k : Nat
  lo : Int
  hi : Int
  lim : Int
  fr : Int
  to : Int
  h : P S r k
abbrev L17 (raw : List Ent) : List Ent := listE raw 150
structure XLz (raw : List Ent) (P : Arn → Int → Nat → Prop) where
  S : Arn
  r : Int
  k : Nat
  fr : Int
  to : Int
  z : List Ent
  h : P S r k
noncomputable def aLs (raw : List Ent) (P : Arn → Int → Nat → Prop) : Ann C0 := { quiet := [13], Γ := [(24, frameT [] tLst), (33, frameT [] tGrow), (23, frameT [] tAwake15), (25, frameT [] tDump), (48, frameT [] tReads), (58, frameT [] tSlice), (54, frameT [] tRange), (59, frameT [] tList), (37, frameT [] tBet), (56, frameT [] tHd), (55, frameT [] tSame_ent), (57, frameT [] tMh), (50, frameT [] tWi), (13, frameT [] tMod), (28, frameT [] tSameD)], inv := fun n => match n with
  | 7 => some { X := XLs P, sl := [20, 15, 16, 17, 19, 2, 3, 4, 5, 6], tf := fun x => [vi .i64 x.k, .one (.at (.slc 1)), .one (.at (.ptr 2 0)), vi .u32 x.r, .one (.at (.ptr 9 0)), vi .i64 x.lo, vi .i64 x.hi, vi .i64 x.lim, vi .i64 x.fr, vi .i64 x.to], hf := fun x => [.row false EC.ent raw, .row false EC.ent (L17 raw)] ++ chSk 2 x.S ++ [.box [.slc 10, .slc 11], .row true EC.slot (slotsOf x.S), .row true EC.u32 (orderOf x.S)], μ := fun x => 2 - x.k }
  | _ => none }
def tLs : Tfm C0 := fun args H K => match args, H with
  | [.at (.slc 0), .at (.val (.int .u64 t)), .at (.val (.int .i64 _)), .at (.val (.int .i64 _)), .at (.val (.int .i64 _)), .at (.val (.int .i64 _)), .at (.val (.int .i64 _))], [.row false .ent raw] => 0 ≤ t ∧ (∀ x ∈ raw, -9223372036854775808 ≤ x.1 ∧ x.1 ≤ 9223372036854775807) ∧ K (.one (.at (vB true))) [.row false EC.ent raw] []
  | _, _ => False
theorem hd_next {l : List Ent} {i : Nat} (h : i < l.length) : l.take i ++ [eA l i] = l.take (i + 1) := by
  rw [List.take_add_one, List.getElem?_eq_getElem h]
  simp [eA, List.getD_eq_getElem?_getD, List.getElem?_eq_getElem h]
theorem vc_hd (l : List Ent) (m : Int) (K : KT) (h1 : l.length ≤ 1000000) (h : ∀ r : List Ent, r = l.take m.toNat → K (.one (.at (.slc 1))) [.row false EC.ent l, .row true EC.ent r] []) :
    vc C0 (aHd l m) Try.f56 [.at (.slc 0), .at (vI m)] [.row false EC.ent l] (normK 1 K) := by
  refine Eq.mp (show ((∃ x : XHd l.length m,
  (True ∧
  (True ∧
  ((Value.int IntKind.i64 (m)) = (Value.int IntKind.i64 (m))) ∧
  True ∧
  ((Value.int IntKind.i64 0) = (Value.int IntKind.i64 ((↑x.i : Int)))) ∧
  True) ∧
  ((l) = (l)) ∧
  ([] = (List.take x.i l)) ∧
  True)) ∧
(∀ x : XHd l.length m,
  (True →
  (brS (decide ((↑x.i : Int) < (↑l.length : Int)))
    ((brS (decide ((↑x.i : Int) < m))
      (((0 ≤ (↑x.i : Int)) ∧
      ((↑x.i : Int) < (↑l.length : Int)) ∧
      (((List.take x.i l).length + [eA l x.i].length) * bytesOf C0 EC.ent ≤ 140737488355328) ∧
      (∃ x' : XHd l.length m,
        (True ∧
        ((True ∧
        ((Value.int IntKind.i64 (m)) = (Value.int IntKind.i64 (m))) ∧
        True ∧
        ((Value.int IntKind.i64 (IntKind.i64.wrap ((↑x.i : Int) + 1))) = (Value.int IntKind.i64 ((↑x'.i : Int)))) ∧
        True) ∧
        ((l) = (l)) ∧
        ((List.take x.i l ++ [eA l x.i]) = (List.take x'.i l)) ∧
        True) ∧
        (l.length - x'.i < l.length - x.i)))))
      ((K (SV.one (TV.at (At.slc 1))) [(Chunk.row false (EC.ent) (l)), (Chunk.row true (EC.ent) (List.take x.i l))] []))))
    ((K (SV.one (TV.at (At.slc 1))) [(Chunk.row false (EC.ent) (l)), (Chunk.row true (EC.ent) (List.take x.i l))] [])))))) = _ by kernel_rfl) ?_
  rw [bytes_ent]
  refine ⟨⟨⟨0, Nat.zero_le _, Nat.zero_le _⟩, ?_⟩, fun x _ => ?_⟩
  · (repeat' first | exact trivial | exact rfl | refine And.intro ?_ ?_)
  obtain ⟨i, h2, h3⟩ := x
  dsimp only
  refine brS_of (fun c => brS_of (fun d => ?_) fun d => ?_) fun c => ?_
  · have c : i < l.length := by have := of_decide_eq_true c; omega
    have d : (i : Int) < m := of_decide_eq_true d
    refine ⟨by omega, by omega, ?_, ⟨i + 1, c, by omega⟩, ?_⟩
    · have : (l.take i).length ≤ l.length := by simp; omega
      show ((l.take i).length + 1) * 16 ≤ 140737488355328
      omega
    have v : IntKind.i64.wrap ((i : Int) + 1) = ((i + 1 : Nat) : Int) := by rw [wrap_id (by omega) (by omega)]; rfl
    (repeat' first | exact trivial | exact rfl | exact congrArg (Value.int IntKind.i64) v | exact hd_next c | refine And.intro ?_ ?_)
    show l.length - (i + 1) < l.length - i
    omega
  · have d : ¬ (i : Int) < m := of_decide_eq_false d
    have e : l.take i = l.take m.toNat := by rw [show i = m.toNat by omega]
    exact h _ e
  · have c : i = l.length := by have := of_decide_eq_false c; omega
    have e : l.take i = l.take m.toNat := by rw [List.take_of_length_le (by omega), List.take_of_length_le (by omega)]
    exact h _ e
theorem s_hd : SoundT C0 56 tHd := by
  refine .of Try.func56 (by decide) rfl fun args H K h hB => ?_
  unfold tHd at h
  split at h <;> try exact h.elim
  rename_i m l
  exact ⟨aHd l m, trivial, vc_hd l m K h.1 h.2⟩
theorem rangeR_head {t : Tr} (h : Asc t.list) (lo hi lim : Int) : (rangeR t lo hi lim).1 = (betE t.list lo hi).take lim.toNat := by
  unfold rangeR
  by_cases c : lim ≤ 0 ∨ hi < lo
  · rw [if_pos c]
    rcases c with c | c
    · rw [show lim.toNat = 0 by omega]; rfl
    · have : betE t.list lo hi = [] := by
        unfold betE; rw [List.filter_eq_nil_iff]; intro x _; simp; omega
      rw [this]; simp
  · rw [if_neg c]; exact lk_spec t lo hi _ h
theorem rangeR_few {t : Tr} (h : Asc t.list) (lo hi lim : Int) : (rangeR t lo hi lim).2 ≤ 2 * ht t + (rangeR t lo hi lim).1.length := by
  unfold rangeR
  split
  · simp
  · exact lk_reads t lo hi _ h
theorem sliceR_few (t : Tr) (x y : Int) : (sliceR t x y).2 ≤ 1 + 4 * ht t + 2 * (sliceR t x y).1.length := by
  have h1 := Go.Proofs.Ytacdmmomkngpkaa.pl_reads t x y
  have h2 := ne0_le t
  unfold sliceR
  split
  · simp
  · split <;> simp only [] <;> omega
theorem sliceR_in {t : Tr} {x y : Int} (h1 : 0 ≤ x) (h2 : x ≤ y) (h3 : y ≤ (t.size : Int)) : (sliceR t x y).1 = (t.list.take y.toNat).drop x.toNat := by
  unfold sliceR
  rw [if_neg (by omega), if_neg (by omega)]
  have := pl_spec t x.toNat y.toNat (by omega)
  rw [show ((x.toNat : Nat) : Int) = x by omega, show ((y.toNat : Nat) : Int) = y by omega] at this
  rw [this, List.drop_take]
theorem sliceR_out {t : Tr} {x y : Int} (h : ¬ (0 ≤ x ∧ x ≤ y ∧ y ≤ (t.size : Int))) : (sliceR t x y).1 = [] := by
  unfold sliceR
  by_cases c : x < 0 ∨ y < x
  · rw [if_pos c]
  · rw [if_neg c, if_pos (by omega)]
theorem same_yes {l m : List Ent} (h : l = m) : (!sameB l m) = false := by subst h; simp [sameB]
theorem ls_arms {x y n : Int} {p q r F Q : Prop} {o z1 : List Ent} (hp : 0 ≤ x → x ≤ y → y ≤ n → (p ∧ q ∧ r) ∧ o = z1) (hn : ¬ (0 ≤ x ∧ x ≤ y ∧ y ≤ n) → o = []) (hQ : Q) :
    brS (decide (0 ≤ x)) (brS (decide (x ≤ y)) (brS (decide (y ≤ n)) (p ∧ q ∧ r ∧ brS (!sameB o z1) F Q) (brS (!sameB o []) F Q)) (brS (!sameB o []) F Q)) (brS (!sameB o []) F Q) := by
  have key : ¬ (0 ≤ x ∧ x ≤ y ∧ y ≤ n) → brS (!sameB o []) F Q := fun h => bff (same_yes (hn h)) hQ
  refine brS_of (fun a => brS_of (fun b => brS_of (fun c => ?_) fun c => key ?_) fun b => key ?_) fun a => key ?_
  · obtain ⟨⟨h1, h2, h3⟩, h4⟩ := hp (of_decide_eq_true a) (of_decide_eq_true b) (of_decide_eq_true c)
    exact ⟨h1, h2, h3, bff (same_yes h4) hQ⟩
  · have := of_decide_eq_false c; omega
  · have := of_decide_eq_false b; omega
  · have := of_decide_eq_false a; omega
theorem listE_mem (raw : List Ent) (n : Nat) : ∀ x ∈ listE raw n, x ∈ raw := by
  have key : ∀ (l acc : List Ent), Asc acc → ∀ x ∈ l.foldl insE acc, x ∈ acc ∨ x ∈ l := by
    intro l
    induction l with
    | nil => intro acc _ x hx; exact .inl hx
    | cons a l ih =>
      intro acc ha x hx
      rcases ih (insE acc a) (insE_asc a ha) x hx with h | h
      · rcases insE_mem ha h with h | h
        · exact .inr (by simp [h])
        · exact .inl h
      · exact .inr (by simp [h])
  intro x hx
  unfold listE at hx
  rcases key (raw.take n) [] (by simp [Srt]) x hx with h | h
  · simp at h
  · exact List.mem_of_mem_take h
def PLs (L : List Ent) (S : Arn) (r : Int) (k : Nat) : Prop := (∃ hs t, Wf S hs ∧ Rep S t r ∧ t.list = L ∧ t.Bal) ∧ k ≤ 2 ∧ 0 ≤ S.reads ∧ S.reads ≤ 10000 * (k + 1)
theorem vc_ls (raw : List Ent) (t lo hi lim fr to : Int) (K : KT) (h0 : 0 ≤ t) (hq : ∀ x ∈ raw, -9223372036854775808 ≤ x.1 ∧ x.1 ≤ 9223372036854775807) (h : K (.one (.at (vB true))) [.row false EC.ent raw] []) :
    vc C0 (aLs raw (PLs (L17 raw))) Try.f9 [.at (.slc 0), .at (vU64 t), .at (vI lo), .at (vI hi), .at (vI lim), .at (vI fr), .at (vI to)] [.row false EC.ent raw] (normK 1 K) := by
  generalize hP : PLs (L17 raw) = P
  refine Eq.mp (show (((0 : Int) ≤ 150) ∧
((150 : Int) ≤ 1000000) ∧
(0 ≤ t) ∧
((1 : Int) ≤ 1) ∧
((1 : Int) ≤ 30000) ∧
((listE raw (Int.toNat 150)).length ≤ 30000) ∧
(∀ S' : Arn,
  (∀ i : Int,
    ((PlantR (newS ((↑(listE raw (Int.toNat 150)).length : Int) + 1).toNat) [] (listE raw (Int.toNat 150)) S' i) →
    ((exW S') ∧
    (∀ d : List SlotT,
      (∀ o : List Int,
        (((d) = (slotsOf S')) →
        (((o) = (orderOf S')) →
        ((∃ x : XLs P,
          (True ∧
          (((Value.int IntKind.i64 (lo)) = (Value.int IntKind.i64 (x.lo))) ∧
          ((Value.int IntKind.i64 (hi)) = (Value.int IntKind.i64 (x.hi))) ∧
          ((Value.int IntKind.i64 (lim)) = (Value.int IntKind.i64 (x.lim))) ∧
          ((Value.int IntKind.i64 (fr)) = (Value.int IntKind.i64 (x.fr))) ∧
          ((Value.int IntKind.i64 (to)) = (Value.int IntKind.i64 (x.to))) ∧
          True ∧
          True ∧
          ((Value.int IntKind.u32 (i)) = (Value.int IntKind.u32 (x.r))) ∧
          True ∧
          ((Value.int IntKind.i64 0) = (Value.int IntKind.i64 ((↑x.k : Int)))) ∧
          True) ∧
          ((raw) = (raw)) ∧
          ((listE raw (Int.toNat 150)) = (L17 raw)) ∧
          (True ∧
          True ∧
          True ∧
          ((Value.int IntKind.u64 (S'.reads)) = (Value.int IntKind.u64 (x.S.reads))) ∧
          True) ∧
          (True ∧
          True ∧
          True ∧
          ((Value.int IntKind.u32 (S'.fresh)) = (Value.int IntKind.u32 (x.S.fresh))) ∧
          True) ∧
          ((S'.nodes) = (x.S.nodes)) ∧
          ((S'.counts) = (x.S.counts)) ∧
          ((S'.used) = (x.S.used)) ∧
          ((S'.gen) = (x.S.gen)) ∧
          ((S'.rel) = (x.S.rel)) ∧
          (True ∧
          True ∧
          True) ∧
          ((d) = (slotsOf x.S)) ∧
          ((o) = (orderOf x.S)) ∧
          True)) ∧
        (∀ x : XLs P,
          (True →
          (brS (decide ((↑x.k : Int) < 2))
            ((∃ hs : List Int,
              (∃ t1 : Tr,
                ((Wf x.S hs) ∧
                (Rep x.S t1 x.r) ∧
                (t1.size ≤ 1000000) ∧
                (x.S.reads + (↑t1.size : Int) ≤ 3000000000000000000) ∧
                (∀ S'1 : Arn,
                  (∀ out : List Ent,
                    (((S'1) = (rdS x.S (rangeR t1 x.lo x.hi x.lim).snd)) →
                    (((out) = ((rangeR t1 x.lo x.hi x.lim).fst)) →
                    (((L17 raw).length ≤ 1000000) ∧
                    (∀ r : List Ent,
                      (((r) = (betE (L17 raw) x.lo x.hi)) →
                      ((r.length ≤ 1000000) ∧
                      (∀ r1 : List Ent,
                        (((r1) = (List.take x.lim.toNat r)) →
                        (brS (!sameB out r1)
                          ((K (SV.one (TV.at (At.val (Value.bool false)))) [(Chunk.row false (EC.ent) (raw))] []))
                          (((0 ≤ (↑(L17 raw).length : Int)) ∧
                          ((↑(L17 raw).length : Int) ≤ 2147483647) ∧
                          (∀ h : Int,
                            (((h) = (Hn (↑(L17 raw).length : Int))) →
                            ((0 ≤ x.S.reads) ∧
                            (x.S.reads ≤ S'1.reads) ∧
                            (S'1.reads ≤ 4000000000000000000) ∧
                            (S'1.reads - x.S.reads ≤ IntKind.i64.wrap (IntKind.i64.wrap (12 * IntKind.i64.wrap (h + 2)) + IntKind.i64.wrap (4 * (↑out.length : Int)))) ∧
                            (IntKind.i64.wrap (IntKind.i64.wrap (12 * IntKind.i64.wrap (h + 2)) + IntKind.i64.wrap (4 * (↑out.length : Int))) ≤ 4000000000000000000) ∧
                            (∃ hs1 : List Int,
                              (∃ t2 : Tr,
                                ((Wf S'1 hs1) ∧
                                (Rep S'1 t2 x.r) ∧
                                (t2.size ≤ 1000000) ∧
                                (S'1.reads + 2 * (↑t2.size : Int) ≤ 2000000000000000000) ∧
                                (∀ S'2 : Arn,
                                  (∀ out1 : List Ent,
                                    (((S'2) = (rdS S'1 (sliceR t2 x.fr x.to).snd)) →
                                    (((out1) = ((sliceR t2 x.fr x.to).fst)) →
                                    (brS (decide (0 ≤ x.fr))
                                      ((brS (decide (x.fr ≤ x.to))
                                        ((brS (decide (x.to ≤ (↑(L17 raw).length : Int)))
                                          (((0 ≤ x.fr) ∧
                                          (x.fr ≤ x.to) ∧
                                          (x.to ≤ (↑(L17 raw).length : Int)) ∧
                                          (brS (!sameB out1 (List.drop x.fr.toNat (List.take x.to.toNat (L17 raw))))
                                            ((K (SV.one (TV.at (At.val (Value.bool false)))) [(Chunk.row false (EC.ent) (raw))] []))
                                            (((0 ≤ (↑(L17 raw).length : Int)) ∧
                                            ((↑(L17 raw).length : Int) ≤ 2147483647) ∧
                                            (∀ h1 : Int,
                                              (((h1) = (Hn (↑(L17 raw).length : Int))) →
                                              ((0 ≤ S'1.reads) ∧
                                              (S'1.reads ≤ S'2.reads) ∧
                                              (S'2.reads ≤ 4000000000000000000) ∧
                                              (S'2.reads - S'1.reads ≤ IntKind.i64.wrap (IntKind.i64.wrap (12 * IntKind.i64.wrap (h1 + 2)) + IntKind.i64.wrap (4 * (↑out1.length : Int)))) ∧
                                              (IntKind.i64.wrap (IntKind.i64.wrap (12 * IntKind.i64.wrap (h1 + 2)) + IntKind.i64.wrap (4 * (↑out1.length : Int))) ≤ 4000000000000000000) ∧
                                              ((0 : Int) < 40) ∧
                                              ((40 : Int) ≤ 9223372036854775807) ∧
                                              (∀ x1 : Int,
                                                (((x1) = (x.lim % 40)) →
                                                ((0 < IntKind.i64.wrap ((↑(L17 raw).length : Int) + 1)) ∧
                                                (IntKind.i64.wrap ((↑(L17 raw).length : Int) + 1) ≤ 9223372036854775807) ∧
                                                (∀ x2 : Int,
                                                  (((x2) = (x.fr % IntKind.i64.wrap ((↑(L17 raw).length : Int) + 1))) →
                                                  ((0 < IntKind.i64.wrap ((↑(L17 raw).length : Int) + 2)) ∧
                                                  (IntKind.i64.wrap ((↑(L17 raw).length : Int) + 2) ≤ 9223372036854775807) ∧
                                                  (∀ x3 : Int,
                                                    (((x3) = (x.to % IntKind.i64.wrap ((↑(L17 raw).length : Int) + 2))) →
                                                    (brS (decide ((↑(L17 raw).length : Int) > 0))
                                                      (((0 < (↑(L17 raw).length : Int)) ∧
                                                      ((↑(L17 raw).length : Int) ≤ 9223372036854775807) ∧
                                                      (∀ x4 : Int,
                                                        (((x4) = (x2 % (↑(L17 raw).length : Int))) →
                                                        ((0 ≤ x4) ∧
                                                        (x4 < (↑(L17 raw).length : Int)) ∧
                                                        (0 < (↑(L17 raw).length : Int)) ∧
                                                        ((↑(L17 raw).length : Int) ≤ 9223372036854775807) ∧
                                                        (∀ x5 : Int,
                                                          (((x5) = (x1 % (↑(L17 raw).length : Int))) →
                                                          ((0 ≤ IntKind.i64.wrap (IntKind.i64.wrap ((↑(L17 raw).length : Int) - 1) - x5)) ∧
                                                          (IntKind.i64.wrap (IntKind.i64.wrap ((↑(L17 raw).length : Int) - 1) - x5) < (↑(L17 raw).length : Int)) ∧
                                                          (∃ x' : XLs P,
                                                            (True ∧
                                                            ((((Value.int IntKind.i64 (((L17 raw).getD x4.toNat (0, 0)).fst)) = (Value.int IntKind.i64 (x'.lo))) ∧
                                                            ((Value.int IntKind.i64 (((L17 raw).getD (IntKind.i64.wrap (IntKind.i64.wrap ((↑(L17 raw).length : Int) - 1) - x5)).toNat (0, 0)).fst)) = (Value.int IntKind.i64 (x'.hi))) ∧
                                                            ((Value.int IntKind.i64 (x1)) = (Value.int IntKind.i64 (x'.lim))) ∧
                                                            ((Value.int IntKind.i64 (x2)) = (Value.int IntKind.i64 (x'.fr))) ∧
                                                            ((Value.int IntKind.i64 (x3)) = (Value.int IntKind.i64 (x'.to))) ∧
                                                            True ∧
                                                            True ∧
                                                            ((Value.int IntKind.u32 (x.r)) = (Value.int IntKind.u32 (x'.r))) ∧
                                                            True ∧
                                                            ((Value.int IntKind.i64 (IntKind.i64.wrap ((↑x.k : Int) + 1))) = (Value.int IntKind.i64 ((↑x'.k : Int)))) ∧
                                                            True) ∧
                                                            ((raw) = (raw)) ∧
                                                            ((L17 raw) = (L17 raw)) ∧
                                                            (True ∧
                                                            True ∧
                                                            True ∧
                                                            ((Value.int IntKind.u64 (S'2.reads)) = (Value.int IntKind.u64 (x'.S.reads))) ∧
                                                            True) ∧
                                                            (True ∧
                                                            True ∧
                                                            True ∧
                                                            ((Value.int IntKind.u32 (S'2.fresh)) = (Value.int IntKind.u32 (x'.S.fresh))) ∧
                                                            True) ∧
                                                            ((S'2.nodes) = (x'.S.nodes)) ∧
                                                            ((S'2.counts) = (x'.S.counts)) ∧
                                                            ((S'2.used) = (x'.S.used)) ∧
                                                            ((S'2.gen) = (x'.S.gen)) ∧
                                                            ((S'2.rel) = (x'.S.rel)) ∧
                                                            (True ∧
                                                            True ∧
                                                            True) ∧
                                                            ((slotsOf x.S) = (slotsOf x'.S)) ∧
                                                            ((orderOf x.S) = (orderOf x'.S)) ∧
                                                            True) ∧
                                                            (2 - x'.k < 2 - x.k)))))))))))
                                                      ((∃ x' : XLs P,
                                                        (True ∧
                                                        ((((Value.int IntKind.i64 (x.lo)) = (Value.int IntKind.i64 (x'.lo))) ∧
                                                        ((Value.int IntKind.i64 (x.hi)) = (Value.int IntKind.i64 (x'.hi))) ∧
                                                        ((Value.int IntKind.i64 (x1)) = (Value.int IntKind.i64 (x'.lim))) ∧
                                                        ((Value.int IntKind.i64 (x2)) = (Value.int IntKind.i64 (x'.fr))) ∧
                                                        ((Value.int IntKind.i64 (x3)) = (Value.int IntKind.i64 (x'.to))) ∧
                                                        True ∧
                                                        True ∧
                                                        ((Value.int IntKind.u32 (x.r)) = (Value.int IntKind.u32 (x'.r))) ∧
                                                        True ∧
                                                        ((Value.int IntKind.i64 (IntKind.i64.wrap ((↑x.k : Int) + 1))) = (Value.int IntKind.i64 ((↑x'.k : Int)))) ∧
                                                        True) ∧
                                                        ((raw) = (raw)) ∧
                                                        ((L17 raw) = (L17 raw)) ∧
                                                        (True ∧
                                                        True ∧
                                                        True ∧
                                                        ((Value.int IntKind.u64 (S'2.reads)) = (Value.int IntKind.u64 (x'.S.reads))) ∧
                                                        True) ∧
                                                        (True ∧
                                                        True ∧
                                                        True ∧
                                                        ((Value.int IntKind.u32 (S'2.fresh)) = (Value.int IntKind.u32 (x'.S.fresh))) ∧
                                                        True) ∧
                                                        ((S'2.nodes) = (x'.S.nodes)) ∧
                                                        ((S'2.counts) = (x'.S.counts)) ∧
                                                        ((S'2.used) = (x'.S.used)) ∧
                                                        ((S'2.gen) = (x'.S.gen)) ∧
                                                        ((S'2.rel) = (x'.S.rel)) ∧
                                                        (True ∧
                                                        True ∧
                                                        True) ∧
                                                        ((slotsOf x.S) = (slotsOf x'.S)) ∧
                                                        ((orderOf x.S) = (orderOf x'.S)) ∧
                                                        True) ∧
                                                        (2 - x'.k < 2 - x.k)))))))))))))))))))))
                                          ((brS (!sameB out1 [])
                                            ((K (SV.one (TV.at (At.val (Value.bool false)))) [(Chunk.row false (EC.ent) (raw))] []))
                                            (((0 ≤ (↑(L17 raw).length : Int)) ∧
                                            ((↑(L17 raw).length : Int) ≤ 2147483647) ∧
                                            (∀ h1 : Int,
                                              (((h1) = (Hn (↑(L17 raw).length : Int))) →
                                              ((0 ≤ S'1.reads) ∧
                                              (S'1.reads ≤ S'2.reads) ∧
                                              (S'2.reads ≤ 4000000000000000000) ∧
                                              (S'2.reads - S'1.reads ≤ IntKind.i64.wrap (IntKind.i64.wrap (12 * IntKind.i64.wrap (h1 + 2)) + IntKind.i64.wrap (4 * (↑out1.length : Int)))) ∧
                                              (IntKind.i64.wrap (IntKind.i64.wrap (12 * IntKind.i64.wrap (h1 + 2)) + IntKind.i64.wrap (4 * (↑out1.length : Int))) ≤ 4000000000000000000) ∧
                                              ((0 : Int) < 40) ∧
                                              ((40 : Int) ≤ 9223372036854775807) ∧
                                              (∀ x1 : Int,
                                                (((x1) = (x.lim % 40)) →
                                                ((0 < IntKind.i64.wrap ((↑(L17 raw).length : Int) + 1)) ∧
                                                (IntKind.i64.wrap ((↑(L17 raw).length : Int) + 1) ≤ 9223372036854775807) ∧
                                                (∀ x2 : Int,
                                                  (((x2) = (x.fr % IntKind.i64.wrap ((↑(L17 raw).length : Int) + 1))) →
                                                  ((0 < IntKind.i64.wrap ((↑(L17 raw).length : Int) + 2)) ∧
                                                  (IntKind.i64.wrap ((↑(L17 raw).length : Int) + 2) ≤ 9223372036854775807) ∧
                                                  (∀ x3 : Int,
                                                    (((x3) = (x.to % IntKind.i64.wrap ((↑(L17 raw).length : Int) + 2))) →
                                                    (brS (decide ((↑(L17 raw).length : Int) > 0))
                                                      (((0 < (↑(L17 raw).length : Int)) ∧
                                                      ((↑(L17 raw).length : Int) ≤ 9223372036854775807) ∧
                                                      (∀ x4 : Int,
                                                        (((x4) = (x2 % (↑(L17 raw).length : Int))) →
                                                        ((0 ≤ x4) ∧
                                                        (x4 < (↑(L17 raw).length : Int)) ∧
                                                        (0 < (↑(L17 raw).length : Int)) ∧
                                                        ((↑(L17 raw).length : Int) ≤ 9223372036854775807) ∧
                                                        (∀ x5 : Int,
                                                          (((x5) = (x1 % (↑(L17 raw).length : Int))) →
                                                          ((0 ≤ IntKind.i64.wrap (IntKind.i64.wrap ((↑(L17 raw).length : Int) - 1) - x5)) ∧
                                                          (IntKind.i64.wrap (IntKind.i64.wrap ((↑(L17 raw).length : Int) - 1) - x5) < (↑(L17 raw).length : Int)) ∧
                                                          (∃ x' : XLs P,
                                                            (True ∧
                                                            ((((Value.int IntKind.i64 (((L17 raw).getD x4.toNat (0, 0)).fst)) = (Value.int IntKind.i64 (x'.lo))) ∧
                                                            ((Value.int IntKind.i64 (((L17 raw).getD (IntKind.i64.wrap (IntKind.i64.wrap ((↑(L17 raw).length : Int) - 1) - x5)).toNat (0, 0)).fst)) = (Value.int IntKind.i64 (x'.hi))) ∧
                                                            ((Value.int IntKind.i64 (x1)) = (Value.int IntKind.i64 (x'.lim))) ∧
                                                            ((Value.int IntKind.i64 (x2)) = (Value.int IntKind.i64 (x'.fr))) ∧
                                                            ((Value.int IntKind.i64 (x3)) = (Value.int IntKind.i64 (x'.to))) ∧
                                                            True ∧
                                                            True ∧
                                                            ((Value.int IntKind.u32 (x.r)) = (Value.int IntKind.u32 (x'.r))) ∧
                                                            True ∧
                                                            ((Value.int IntKind.i64 (IntKind.i64.wrap ((↑x.k : Int) + 1))) = (Value.int IntKind.i64 ((↑x'.k : Int)))) ∧
                                                            True) ∧
                                                            ((raw) = (raw)) ∧
                                                            ((L17 raw) = (L17 raw)) ∧
                                                            (True ∧
                                                            True ∧
                                                            True ∧
                                                            ((Value.int IntKind.u64 (S'2.reads)) = (Value.int IntKind.u64 (x'.S.reads))) ∧
                                                            True) ∧
                                                            (True ∧
                                                            True ∧
                                                            True ∧
                                                            ((Value.int IntKind.u32 (S'2.fresh)) = (Value.int IntKind.u32 (x'.S.fresh))) ∧
                                                            True) ∧
                                                            ((S'2.nodes) = (x'.S.nodes)) ∧
                                                            ((S'2.counts) = (x'.S.counts)) ∧
                                                            ((S'2.used) = (x'.S.used)) ∧
                                                            ((S'2.gen) = (x'.S.gen)) ∧
                                                            ((S'2.rel) = (x'.S.rel)) ∧
                                                            (True ∧
                                                            True ∧
                                                            True) ∧
                                                            ((slotsOf x.S) = (slotsOf x'.S)) ∧
                                                            ((orderOf x.S) = (orderOf x'.S)) ∧
                                                            True) ∧
                                                            (2 - x'.k < 2 - x.k)))))))))))
                                                      ((∃ x' : XLs P,
                                                        (True ∧
                                                        ((((Value.int IntKind.i64 (x.lo)) = (Value.int IntKind.i64 (x'.lo))) ∧
                                                        ((Value.int IntKind.i64 (x.hi)) = (Value.int IntKind.i64 (x'.hi))) ∧
                                                        ((Value.int IntKind.i64 (x1)) = (Value.int IntKind.i64 (x'.lim))) ∧
                                                        ((Value.int IntKind.i64 (x2)) = (Value.int IntKind.i64 (x'.fr))) ∧
                                                        ((Value.int IntKind.i64 (x3)) = (Value.int IntKind.i64 (x'.to))) ∧
                                                        True ∧
                                                        True ∧
                                                        ((Value.int IntKind.u32 (x.r)) = (Value.int IntKind.u32 (x'.r))) ∧
                                                        True ∧
                                                        ((Value.int IntKind.i64 (IntKind.i64.wrap ((↑x.k : Int) + 1))) = (Value.int IntKind.i64 ((↑x'.k : Int)))) ∧
                                                        True) ∧
                                                        ((raw) = (raw)) ∧
                                                        ((L17 raw) = (L17 raw)) ∧
                                                        (True ∧
                                                        True ∧
                                                        True ∧
                                                        ((Value.int IntKind.u64 (S'2.reads)) = (Value.int IntKind.u64 (x'.S.reads))) ∧
                                                        True) ∧
                                                        (True ∧
                                                        True ∧
                                                        True ∧
                                                        ((Value.int IntKind.u32 (S'2.fresh)) = (Value.int IntKind.u32 (x'.S.fresh))) ∧
                                                        True) ∧
                                                        ((S'2.nodes) = (x'.S.nodes)) ∧
                                                        ((S'2.counts) = (x'.S.counts)) ∧
                                                        ((S'2.used) = (x'.S.used)) ∧
                                                        ((S'2.gen) = (x'.S.gen)) ∧
                                                        ((S'2.rel) = (x'.S.rel)) ∧
                                                        (True ∧
                                                        True ∧
                                                        True) ∧
                                                        ((slotsOf x.S) = (slotsOf x'.S)) ∧
                                                        ((orderOf x.S) = (orderOf x'.S)) ∧
                                                        True) ∧
                                                        (2 - x'.k < 2 - x.k))))))))))))))))))))))
                                        ((brS (!sameB out1 [])
                                          ((K (SV.one (TV.at (At.val (Value.bool false)))) [(Chunk.row false (EC.ent) (raw))] []))
                                          (((0 ≤ (↑(L17 raw).length : Int)) ∧
                                          ((↑(L17 raw).length : Int) ≤ 2147483647) ∧
                                          (∀ h1 : Int,
                                            (((h1) = (Hn (↑(L17 raw).length : Int))) →
                                            ((0 ≤ S'1.reads) ∧
                                            (S'1.reads ≤ S'2.reads) ∧
                                            (S'2.reads ≤ 4000000000000000000) ∧
                                            (S'2.reads - S'1.reads ≤ IntKind.i64.wrap (IntKind.i64.wrap (12 * IntKind.i64.wrap (h1 + 2)) + IntKind.i64.wrap (4 * (↑out1.length : Int)))) ∧
                                            (IntKind.i64.wrap (IntKind.i64.wrap (12 * IntKind.i64.wrap (h1 + 2)) + IntKind.i64.wrap (4 * (↑out1.length : Int))) ≤ 4000000000000000000) ∧
                                            ((0 : Int) < 40) ∧
                                            ((40 : Int) ≤ 9223372036854775807) ∧
                                            (∀ x1 : Int,
                                              (((x1) = (x.lim % 40)) →
                                              ((0 < IntKind.i64.wrap ((↑(L17 raw).length : Int) + 1)) ∧
                                              (IntKind.i64.wrap ((↑(L17 raw).length : Int) + 1) ≤ 9223372036854775807) ∧
                                              (∀ x2 : Int,
                                                (((x2) = (x.fr % IntKind.i64.wrap ((↑(L17 raw).length : Int) + 1))) →
                                                ((0 < IntKind.i64.wrap ((↑(L17 raw).length : Int) + 2)) ∧
                                                (IntKind.i64.wrap ((↑(L17 raw).length : Int) + 2) ≤ 9223372036854775807) ∧
                                                (∀ x3 : Int,
                                                  (((x3) = (x.to % IntKind.i64.wrap ((↑(L17 raw).length : Int) + 2))) →
                                                  (brS (decide ((↑(L17 raw).length : Int) > 0))
                                                    (((0 < (↑(L17 raw).length : Int)) ∧
                                                    ((↑(L17 raw).length : Int) ≤ 9223372036854775807) ∧
                                                    (∀ x4 : Int,
                                                      (((x4) = (x2 % (↑(L17 raw).length : Int))) →
                                                      ((0 ≤ x4) ∧
                                                      (x4 < (↑(L17 raw).length : Int)) ∧
                                                      (0 < (↑(L17 raw).length : Int)) ∧
                                                      ((↑(L17 raw).length : Int) ≤ 9223372036854775807) ∧
                                                      (∀ x5 : Int,
                                                        (((x5) = (x1 % (↑(L17 raw).length : Int))) →
                                                        ((0 ≤ IntKind.i64.wrap (IntKind.i64.wrap ((↑(L17 raw).length : Int) - 1) - x5)) ∧
                                                        (IntKind.i64.wrap (IntKind.i64.wrap ((↑(L17 raw).length : Int) - 1) - x5) < (↑(L17 raw).length : Int)) ∧
                                                        (∃ x' : XLs P,
                                                          (True ∧
                                                          ((((Value.int IntKind.i64 (((L17 raw).getD x4.toNat (0, 0)).fst)) = (Value.int IntKind.i64 (x'.lo))) ∧
                                                          ((Value.int IntKind.i64 (((L17 raw).getD (IntKind.i64.wrap (IntKind.i64.wrap ((↑(L17 raw).length : Int) - 1) - x5)).toNat (0, 0)).fst)) = (Value.int IntKind.i64 (x'.hi))) ∧
                                                          ((Value.int IntKind.i64 (x1)) = (Value.int IntKind.i64 (x'.lim))) ∧
                                                          ((Value.int IntKind.i64 (x2)) = (Value.int IntKind.i64 (x'.fr))) ∧
                                                          ((Value.int IntKind.i64 (x3)) = (Value.int IntKind.i64 (x'.to))) ∧
                                                          True ∧
                                                          True ∧
                                                          ((Value.int IntKind.u32 (x.r)) = (Value.int IntKind.u32 (x'.r))) ∧
                                                          True ∧
                                                          ((Value.int IntKind.i64 (IntKind.i64.wrap ((↑x.k : Int) + 1))) = (Value.int IntKind.i64 ((↑x'.k : Int)))) ∧
                                                          True) ∧
                                                          ((raw) = (raw)) ∧
                                                          ((L17 raw) = (L17 raw)) ∧
                                                          (True ∧
                                                          True ∧
                                                          True ∧
                                                          ((Value.int IntKind.u64 (S'2.reads)) = (Value.int IntKind.u64 (x'.S.reads))) ∧
                                                          True) ∧
                                                          (True ∧
                                                          True ∧
                                                          True ∧
                                                          ((Value.int IntKind.u32 (S'2.fresh)) = (Value.int IntKind.u32 (x'.S.fresh))) ∧
                                                          True) ∧
                                                          ((S'2.nodes) = (x'.S.nodes)) ∧
                                                          ((S'2.counts) = (x'.S.counts)) ∧
                                                          ((S'2.used) = (x'.S.used)) ∧
                                                          ((S'2.gen) = (x'.S.gen)) ∧
                                                          ((S'2.rel) = (x'.S.rel)) ∧
                                                          (True ∧
                                                          True ∧
                                                          True) ∧
                                                          ((slotsOf x.S) = (slotsOf x'.S)) ∧
                                                          ((orderOf x.S) = (orderOf x'.S)) ∧
                                                          True) ∧
                                                          (2 - x'.k < 2 - x.k)))))))))))
                                                    ((∃ x' : XLs P,
                                                      (True ∧
                                                      ((((Value.int IntKind.i64 (x.lo)) = (Value.int IntKind.i64 (x'.lo))) ∧
                                                      ((Value.int IntKind.i64 (x.hi)) = (Value.int IntKind.i64 (x'.hi))) ∧
                                                      ((Value.int IntKind.i64 (x1)) = (Value.int IntKind.i64 (x'.lim))) ∧
                                                      ((Value.int IntKind.i64 (x2)) = (Value.int IntKind.i64 (x'.fr))) ∧
                                                      ((Value.int IntKind.i64 (x3)) = (Value.int IntKind.i64 (x'.to))) ∧
                                                      True ∧
                                                      True ∧
                                                      ((Value.int IntKind.u32 (x.r)) = (Value.int IntKind.u32 (x'.r))) ∧
                                                      True ∧
                                                      ((Value.int IntKind.i64 (IntKind.i64.wrap ((↑x.k : Int) + 1))) = (Value.int IntKind.i64 ((↑x'.k : Int)))) ∧
                                                      True) ∧
                                                      ((raw) = (raw)) ∧
                                                      ((L17 raw) = (L17 raw)) ∧
                                                      (True ∧
                                                      True ∧
                                                      True ∧
                                                      ((Value.int IntKind.u64 (S'2.reads)) = (Value.int IntKind.u64 (x'.S.reads))) ∧
                                                      True) ∧
                                                      (True ∧
                                                      True ∧
                                                      True ∧
                                                      ((Value.int IntKind.u32 (S'2.fresh)) = (Value.int IntKind.u32 (x'.S.fresh))) ∧
                                                      True) ∧
                                                      ((S'2.nodes) = (x'.S.nodes)) ∧
                                                      ((S'2.counts) = (x'.S.counts)) ∧
                                                      ((S'2.used) = (x'.S.used)) ∧
                                                      ((S'2.gen) = (x'.S.gen)) ∧
                                                      ((S'2.rel) = (x'.S.rel)) ∧
                                                      (True ∧
                                                      True ∧
                                                      True) ∧
                                                      ((slotsOf x.S) = (slotsOf x'.S)) ∧
                                                      ((orderOf x.S) = (orderOf x'.S)) ∧
                                                      True) ∧
                                                      (2 - x'.k < 2 - x.k))))))))))))))))))))))
                                      ((brS (!sameB out1 [])
                                        ((K (SV.one (TV.at (At.val (Value.bool false)))) [(Chunk.row false (EC.ent) (raw))] []))
                                        (((0 ≤ (↑(L17 raw).length : Int)) ∧
                                        ((↑(L17 raw).length : Int) ≤ 2147483647) ∧
                                        (∀ h1 : Int,
                                          (((h1) = (Hn (↑(L17 raw).length : Int))) →
                                          ((0 ≤ S'1.reads) ∧
                                          (S'1.reads ≤ S'2.reads) ∧
                                          (S'2.reads ≤ 4000000000000000000) ∧
                                          (S'2.reads - S'1.reads ≤ IntKind.i64.wrap (IntKind.i64.wrap (12 * IntKind.i64.wrap (h1 + 2)) + IntKind.i64.wrap (4 * (↑out1.length : Int)))) ∧
                                          (IntKind.i64.wrap (IntKind.i64.wrap (12 * IntKind.i64.wrap (h1 + 2)) + IntKind.i64.wrap (4 * (↑out1.length : Int))) ≤ 4000000000000000000) ∧
                                          ((0 : Int) < 40) ∧
                                          ((40 : Int) ≤ 9223372036854775807) ∧
                                          (∀ x1 : Int,
                                            (((x1) = (x.lim % 40)) →
                                            ((0 < IntKind.i64.wrap ((↑(L17 raw).length : Int) + 1)) ∧
                                            (IntKind.i64.wrap ((↑(L17 raw).length : Int) + 1) ≤ 9223372036854775807) ∧
                                            (∀ x2 : Int,
                                              (((x2) = (x.fr % IntKind.i64.wrap ((↑(L17 raw).length : Int) + 1))) →
                                              ((0 < IntKind.i64.wrap ((↑(L17 raw).length : Int) + 2)) ∧
                                              (IntKind.i64.wrap ((↑(L17 raw).length : Int) + 2) ≤ 9223372036854775807) ∧
                                              (∀ x3 : Int,
                                                (((x3) = (x.to % IntKind.i64.wrap ((↑(L17 raw).length : Int) + 2))) →
                                                (brS (decide ((↑(L17 raw).length : Int) > 0))
                                                  (((0 < (↑(L17 raw).length : Int)) ∧
                                                  ((↑(L17 raw).length : Int) ≤ 9223372036854775807) ∧
                                                  (∀ x4 : Int,
                                                    (((x4) = (x2 % (↑(L17 raw).length : Int))) →
                                                    ((0 ≤ x4) ∧
                                                    (x4 < (↑(L17 raw).length : Int)) ∧
                                                    (0 < (↑(L17 raw).length : Int)) ∧
                                                    ((↑(L17 raw).length : Int) ≤ 9223372036854775807) ∧
                                                    (∀ x5 : Int,
                                                      (((x5) = (x1 % (↑(L17 raw).length : Int))) →
                                                      ((0 ≤ IntKind.i64.wrap (IntKind.i64.wrap ((↑(L17 raw).length : Int) - 1) - x5)) ∧
                                                      (IntKind.i64.wrap (IntKind.i64.wrap ((↑(L17 raw).length : Int) - 1) - x5) < (↑(L17 raw).length : Int)) ∧
                                                      (∃ x' : XLs P,
                                                        (True ∧
                                                        ((((Value.int IntKind.i64 (((L17 raw).getD x4.toNat (0, 0)).fst)) = (Value.int IntKind.i64 (x'.lo))) ∧
                                                        ((Value.int IntKind.i64 (((L17 raw).getD (IntKind.i64.wrap (IntKind.i64.wrap ((↑(L17 raw).length : Int) - 1) - x5)).toNat (0, 0)).fst)) = (Value.int IntKind.i64 (x'.hi))) ∧
                                                        ((Value.int IntKind.i64 (x1)) = (Value.int IntKind.i64 (x'.lim))) ∧
                                                        ((Value.int IntKind.i64 (x2)) = (Value.int IntKind.i64 (x'.fr))) ∧
                                                        ((Value.int IntKind.i64 (x3)) = (Value.int IntKind.i64 (x'.to))) ∧
                                                        True ∧
                                                        True ∧
                                                        ((Value.int IntKind.u32 (x.r)) = (Value.int IntKind.u32 (x'.r))) ∧
                                                        True ∧
                                                        ((Value.int IntKind.i64 (IntKind.i64.wrap ((↑x.k : Int) + 1))) = (Value.int IntKind.i64 ((↑x'.k : Int)))) ∧
                                                        True) ∧
                                                        ((raw) = (raw)) ∧
                                                        ((L17 raw) = (L17 raw)) ∧
                                                        (True ∧
                                                        True ∧
                                                        True ∧
                                                        ((Value.int IntKind.u64 (S'2.reads)) = (Value.int IntKind.u64 (x'.S.reads))) ∧
                                                        True) ∧
                                                        (True ∧
                                                        True ∧
                                                        True ∧
                                                        ((Value.int IntKind.u32 (S'2.fresh)) = (Value.int IntKind.u32 (x'.S.fresh))) ∧
                                                        True) ∧
                                                        ((S'2.nodes) = (x'.S.nodes)) ∧
                                                        ((S'2.counts) = (x'.S.counts)) ∧
                                                        ((S'2.used) = (x'.S.used)) ∧
                                                        ((S'2.gen) = (x'.S.gen)) ∧
                                                        ((S'2.rel) = (x'.S.rel)) ∧
                                                        (True ∧
                                                        True ∧
                                                        True) ∧
                                                        ((slotsOf x.S) = (slotsOf x'.S)) ∧
                                                        ((orderOf x.S) = (orderOf x'.S)) ∧
                                                        True) ∧
                                                        (2 - x'.k < 2 - x.k)))))))))))
                                                  ((∃ x' : XLs P,
                                                    (True ∧
                                                    ((((Value.int IntKind.i64 (x.lo)) = (Value.int IntKind.i64 (x'.lo))) ∧
                                                    ((Value.int IntKind.i64 (x.hi)) = (Value.int IntKind.i64 (x'.hi))) ∧
                                                    ((Value.int IntKind.i64 (x1)) = (Value.int IntKind.i64 (x'.lim))) ∧
                                                    ((Value.int IntKind.i64 (x2)) = (Value.int IntKind.i64 (x'.fr))) ∧
                                                    ((Value.int IntKind.i64 (x3)) = (Value.int IntKind.i64 (x'.to))) ∧
                                                    True ∧
                                                    True ∧
                                                    ((Value.int IntKind.u32 (x.r)) = (Value.int IntKind.u32 (x'.r))) ∧
                                                    True ∧
                                                    ((Value.int IntKind.i64 (IntKind.i64.wrap ((↑x.k : Int) + 1))) = (Value.int IntKind.i64 ((↑x'.k : Int)))) ∧
                                                    True) ∧
                                                    ((raw) = (raw)) ∧
                                                    ((L17 raw) = (L17 raw)) ∧
                                                    (True ∧
                                                    True ∧
                                                    True ∧
                                                    ((Value.int IntKind.u64 (S'2.reads)) = (Value.int IntKind.u64 (x'.S.reads))) ∧
                                                    True) ∧
                                                    (True ∧
                                                    True ∧
                                                    True ∧
                                                    ((Value.int IntKind.u32 (S'2.fresh)) = (Value.int IntKind.u32 (x'.S.fresh))) ∧
                                                    True) ∧
                                                    ((S'2.nodes) = (x'.S.nodes)) ∧
                                                    ((S'2.counts) = (x'.S.counts)) ∧
                                                    ((S'2.used) = (x'.S.used)) ∧
                                                    ((S'2.gen) = (x'.S.gen)) ∧
                                                    ((S'2.rel) = (x'.S.rel)) ∧
                                                    (True ∧
                                                    True ∧
                                                    True) ∧
                                                    ((slotsOf x.S) = (slotsOf x'.S)) ∧
                                                    ((orderOf x.S) = (orderOf x'.S)) ∧
                                                    True) ∧
                                                    (2 - x'.k < 2 - x.k))))))))))))))))))))))))))))))))))))))))))))))))
            ((∃ hs : List Int,
              (∃ t1 : Tr,
                ((Wf x.S hs) ∧
                (Rep x.S t1 x.r) ∧
                (t1.size ≤ 1000000) ∧
                (x.S.reads + (↑t1.size : Int) ≤ 3000000000000000000) ∧
                (∀ S'1 : Arn,
                  (∀ out : List Ent,
                    (((S'1) = (rdS x.S (rangeR t1 (-9223372036854775808) 9223372036854775807 2147483647).snd)) →
                    (((out) = ((rangeR t1 (-9223372036854775808) 9223372036854775807 2147483647).fst)) →
                    (brS (sameB out (L17 raw))
                      ((((exW S'1) ∧
                      (∀ d1 : List SlotT,
                        (∀ o1 : List Int,
                          (((d1) = (slotsOf S'1)) →
                          (((o1) = (orderOf S'1)) →
                          (((d1) = (slotsOf x.S)) ∧
                          ((o1) = (orderOf x.S)) ∧
                          (d1.length ≤ 1000000) ∧
                          (o1.length ≤ 1000000) ∧
                          (K (SV.one (TV.at (At.val (Value.bool true)))) [(Chunk.row false (EC.ent) (raw))] []))))))) ∧
                      (exW S'1) ∧
                      (∀ d1 : List SlotT,
                        (∀ o1 : List Int,
                          (((d1) = (slotsOf S'1)) →
                          (((o1) = (orderOf S'1)) →
                          (((d1) = (slotsOf x.S)) ∧
                          ((o1) = (orderOf x.S)) ∧
                          (d1.length ≤ 1000000) ∧
                          (o1.length ≤ 1000000) ∧
                          (K (SV.one (TV.at (At.val (Value.bool true)))) [(Chunk.row false (EC.ent) (raw))] []))))))))
                      (((K (SV.one (TV.at (At.val (Value.bool false)))) [(Chunk.row false (EC.ent) (raw))] []) ∧
                      (K (SV.one (TV.at (At.val (Value.bool false)))) [(Chunk.row false (EC.ent) (raw))] []))))))))))))))))))))))))) = _ by kernel_rfl) ?_
  subst hP
  have e150 : Int.toNat 150 = 150 := rfl
  rw [e150]
  obtain ⟨la, ll⟩ := listE_spec raw 150
  change Asc (L17 raw) at la
  change (L17 raw).length ≤ 150 at ll
  show _ ∧ _ ∧ _ ∧ _ ∧ _ ∧ (L17 raw).length ≤ 30000 ∧ _
  have lq : ∀ x ∈ L17 raw, -9223372036854775808 ≤ x.1 ∧ x.1 ≤ 9223372036854775807 := fun x hx => hq x (listE_mem raw 150 x hx)
  generalize hL : L17 raw = L at *
  refine ⟨by decide, by decide, h0, by decide, by decide, by omega, fun S1 r hp => ⟨⟨_, hp.wf⟩, fun d o ed eo => ⟨?_, fun x _ => ?_⟩⟩⟩
  · obtain ⟨tr, r1, r2, r3⟩ := hp.rep
    have hrd : S1.reads = 0 := by rw [hp.rds]; rfl
    refine ⟨⟨S1, r, 0, lo, hi, lim, fr, to, ⟨_, tr, hp.wf, r1, r2.trans hL, r3⟩, by omega, by omega, by omega⟩, ?_⟩
    (repeat' first | exact trivial | exact rfl | exact ed | exact eo | exact hL | refine And.intro ?_ ?_)
  obtain ⟨S, r, k, lo, hi, lim, fr, to, ⟨hs, tr, w, p, q, bal⟩, hk, hr0, hr⟩ := x
  dsimp only at *
  have sz : tr.size = L.length := by rw [← tr.list_len, q]
  have hta : Asc tr.list := by rw [q]; exact la
  have hht := Bal.height bal (by omega)
  have hn := Hn_rng (L.length : Int)
  rw [sz] at hht
  refine brS_of (fun c => ?_) fun _ => ?_
  · have c : k < 2 := by have := of_decide_eq_true c; omega
    have rl := rangeR_reads tr lo hi lim
    have rf := rangeR_few hta lo hi lim
    have rh := rangeR_head hta lo hi lim
    have rn : (rangeR tr lo hi lim).1.length ≤ 150 := by
      rw [rh, q]
      have := List.length_filter_le (fun x : Ent => decide (lo ≤ x.1) && decide (x.1 ≤ hi)) L
      unfold betE
      simp only [List.length_take]; omega
    refine ⟨hs, tr, w, p, by omega, by omega, fun S2 out e2 eo => ⟨by omega, fun x1 ex1 => ⟨?_, fun x2 ex2 => bff (same_yes ?_) ?_⟩⟩⟩
    · rw [ex1]
      have := List.length_filter_le (fun x : Ent => decide (lo ≤ x.1) && decide (x.1 ≤ hi)) L
      unfold betE; omega
    · rw [eo, ex2, ex1, rh, q]
    have d2 : S2.reads = S.reads + (rangeR tr lo hi lim).2 := by rw [e2]; rfl
    have w2 : Wf S2 hs := by rw [e2]; exact w.rd (by omega)
    have p2 : Rep S2 tr r := by rw [e2]; exact rep_rd p _
    rw [← eo] at rf rn
    have bnd : ∀ n : Nat, n ≤ 150 → IntKind.i64.wrap (IntKind.i64.wrap (12 * IntKind.i64.wrap (Hn (L.length : Int) + 2)) + IntKind.i64.wrap (4 * (n : Int))) = 12 * (Hn (L.length : Int) + 2) + 4 * n := fun n hn' => by
      rw [wrap_id (x := Hn (L.length : Int) + 2) (by omega) (by omega), wrap_id (x := 12 * (Hn (L.length : Int) + 2)) (by omega) (by omega), wrap_id (x := 4 * (n : Int)) (by omega) (by omega), wrap_id (by omega) (by omega)]
    have sl := sliceR_reads tr fr to
    have sf := sliceR_few tr fr to
    refine ⟨by omega, by omega, fun h1 eh1 => ⟨by omega, by omega, by omega, ?_, ?_, hs, tr, w2, p2, by omega, by omega, fun S3 out1 e3 eo1 => ?_⟩⟩
    · rw [eh1, bnd _ rn]; omega
    · rw [eh1, bnd _ rn]; omega
    have d3 : S3.reads = S2.reads + (sliceR tr fr to).2 := by rw [e3]; rfl
    have w3 : Wf S3 hs := by rw [e3]; exact w2.rd (by omega)
    have p3 : Rep S3 tr r := by rw [e3]; exact rep_rd p2 _
    have sn : out1.length ≤ 150 := by
      rw [eo1]
      by_cases z : 0 ≤ fr ∧ fr ≤ to ∧ to ≤ (tr.size : Int)
      · rw [sliceR_in z.1 z.2.1 z.2.2, q]; simp; omega
      · rw [sliceR_out z]; simp
    rw [← eo1] at sf
    refine ls_arms (fun a b c => ⟨⟨a, b, c⟩, ?_⟩) (fun z => ?_) ?_
    · rw [eo1, sliceR_in a b (by omega), q]
    · rw [eo1]; exact sliceR_out (by rw [sz]; exact z)
    have vk : IntKind.i64.wrap ((k : Int) + 1) = ((k + 1 : Nat) : Int) := by rw [wrap_id (by omega) (by omega)]; rfl
    have inv : PLs L S3 r (k + 1) := ⟨⟨hs, tr, w3, p3, q, bal⟩, c, by omega, by omega⟩
    have mu : 2 - (k + 1) < 2 - k := by omega
    have s3 : slotsOf S = slotsOf S3 := by rw [e3, e2]; rfl
    have o3 : orderOf S = orderOf S3 := by rw [e3, e2]; rfl
    have l1 : IntKind.i64.wrap ((L.length : Int) + 1) = (L.length : Int) + 1 := wrap_id (by omega) (by omega)
    have l2 : IntKind.i64.wrap ((L.length : Int) + 2) = (L.length : Int) + 2 := wrap_id (by omega) (by omega)
    rw [l1, l2]
    refine ⟨by omega, by omega, fun h2 eh2 => ⟨by omega, by omega, by omega, ?_, ?_, by decide, by decide, fun x1 ex1 => ⟨by omega, by omega, fun x2 ex2 => ⟨by omega, by omega, fun x3 ex3 => brS_of (fun g => ?_) fun g => ?_⟩⟩⟩⟩
    · rw [eh2, bnd _ sn]; omega
    · rw [eh2, bnd _ sn]; omega
    · have g : 0 < (L.length : Int) := of_decide_eq_true g
      refine ⟨g, by omega, fun x4 ex4 => ?_⟩
      have m1 := Int.emod_nonneg x2 (show (L.length : Int) ≠ 0 by omega)
      have m2 := Int.emod_lt_of_pos x2 g
      refine ⟨by omega, by omega, g, by omega, fun x5 ex5 => ?_⟩
      have m3 := Int.emod_nonneg x1 (show (L.length : Int) ≠ 0 by omega)
      have m4 := Int.emod_lt_of_pos x1 g
      rw [wrap_id (x := (L.length : Int) - 1) (by omega) (by omega), wrap_id (x := (L.length : Int) - 1 - x5) (by omega) (by omega)]
      refine ⟨by omega, by omega, ⟨S3, r, k + 1, (L.getD x4.toNat (0, 0)).1, (L.getD ((L.length : Int) - 1 - x5).toNat (0, 0)).1, x1, x2, x3, inv⟩, ?_⟩
      (repeat' first | exact trivial | exact rfl | exact congrArg (Value.int IntKind.i64) vk | exact s3 | exact o3 | exact mu | refine And.intro ?_ ?_)
    · refine ⟨⟨S3, r, k + 1, lo, hi, x1, x2, x3, inv⟩, ?_⟩
      (repeat' first | exact trivial | exact rfl | exact congrArg (Value.int IntKind.i64) vk | exact s3 | exact o3 | exact mu | refine And.intro ?_ ?_)
  · have rl := rangeR_reads tr (-9223372036854775808) 9223372036854775807 2147483647
    have rh := rangeR_head hta (-9223372036854775808) 9223372036854775807 2147483647
    have nc : ncap S ≤ 65537 := by have := w.n2; unfold ncap; omega
    have ol := order_len w
    have hs1 := slotsOf_len S
    refine ⟨hs, tr, w, p, by omega, by omega, fun S2 out e2 eo => ?_⟩
    have w2 : Wf S2 hs := by rw [e2]; exact w.rd (by omega)
    have s2 : slotsOf S2 = slotsOf S := by rw [e2]; rfl
    have o2 : orderOf S2 = orderOf S := by rw [e2]; rfl
    have fin : ∀ (d1 : List SlotT) (o1 : List Int), d1 = slotsOf S2 → o1 = orderOf S2 → d1 = slotsOf S ∧ o1 = orderOf S ∧ d1.length ≤ 1000000 ∧ o1.length ≤ 1000000 ∧ K (.one (.at (vB true))) [.row false EC.ent raw] [] := fun d1 o1 e1 e2 => ⟨by rw [e1, s2], by rw [e2, o2], by rw [e1, s2]; omega, by rw [e2, o2]; omega, h⟩
    refine bt (b := sameB out L) ?_ ⟨⟨⟨_, w2⟩, fin⟩, ⟨_, w2⟩, fin⟩
    have : out = L := by
      rw [eo, rh, q, betE_all lq, List.take_of_length_le (by show L.length ≤ 2147483647; omega)]
    rw [this]; simp [sameB]
theorem s_ls : SoundT C0 9 tLs := by
  refine .of Try.func9 (by decide) rfl fun args H K h hB => ?_
  unfold tLs at h
  split at h <;> try exact h.elim
  rename_i t lo hi lim fr to raw
  exact ⟨aLs raw (PLs (L17 raw)), ⟨frame C0.ok s_lst _, frame C0.ok s_grow _, frame C0.ok s_awake15 _, frame C0.ok s_dump _, frame C0.ok s_rds _, frame C0.ok s_slice _, frame C0.ok s_range _, frame C0.ok s_list _, frame C0.ok s_bet _, frame C0.ok s_hd _, frame C0.ok s_same9 _, frame C0.ok s_ht _, frame C0.ok s_wi _, frame C0.ok s_mod _, frame C0.ok s_sameD _, trivial⟩, vc_ls raw t lo hi lim fr to K h.1 h.2.1 h.2.2⟩
end Go.Proofs.Ytacdmmomkngpkaa.Sx
