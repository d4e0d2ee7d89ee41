/- What the laws of the patch layer share: awake, lists. -/
import Derived.Test.YtdgodcamadalhaaSxRl
namespace Go.Proofs.Ytdgodcamadalhaa.Sx
open Go

theorem SoundT.weak {f : FuncId} {t t' : Tfm C0} (h : SoundT C0 f t) (hw : ∀ args H K, t' args H K → t args H K) : SoundT C0 f t' := ⟨h.enter, fun args H K hk => h.call args H K (hw args H K hk)⟩
theorem asc_b {l : List Ent} (h : Asc l) : ascB l = true := by simpa [ascB] using h

/-- The reference's Between on lists that are known to ascend. -/
def tBtwA : Tfm C0 := fun args H K => match args, H with
  | [.at (.slc 0), .at (.slc 1)], [.row false .ent l, .row false .ent m] => l.length + m.length ≤ 1000000 ∧ Asc l ∧ Asc m ∧ K (.tup [.at (.slc 2), .at (vI 0)]) [.row false EC.ent l, .row false EC.ent m, .row true EC.chg (btw l m)] []
  | _, _ => False
theorem s_btwA : SoundT C0 24 tBtwA := s_btw19.weak fun args H K h => by
  unfold tBtwA at h
  split at h <;> try exact h.elim
  rename_i l m
  obtain ⟨h1, h2, h3, h4⟩ := h
  refine ⟨h1, fun _ _ => ?_, fun h => ?_⟩
  · have e := difE_btw h2 h3
    have h5 : ∀ z : List Chg, z = btw l m → K (.tup [.at (.slc 2), .at (vI 0)]) [.row false EC.ent l, .row false EC.ent m, .row true EC.chg z] [] := fun z hz => by subst hz; exact h4
    exact h5 _ e
  · rcases h with h | h
    · exact absurd (asc_b h2) (by simp [h])
    · exact absurd (asc_b h3) (by simp [h])

noncomputable def aAwake : Ann C0 := { Γ := [(25, frameT [] tComp), (64, frameT [] tSame_chg), (38, frameT [] tValid)] }
def tAwake : Tfm C0 := fun args H K => match args, H with
  | [], [] => K (.one (.at (vB true))) [] []
  | _, _ => False
def listsE (x y z : List Ent) (s : Bool) : List Ent × List Ent × List Ent :=
  if s then (if 2 < (listE x 40).length then
      (listE x 40, outE (uniE (listE x 40) (listE y 6) 2) (eA (listE x 40) 0).1 (eA (listE x 40) 0).1, outE (uniE (listE x 40) (listE z 6) 2) (eA (listE x 40) ((listE x 40).length / 2)).1 (eA (listE x 40) ((listE x 40).length / 2)).1)
    else (listE x 40, uniE (listE x 40) (listE y 6) 2, uniE (listE x 40) (listE z 6) 2))
  else (listE x 40, listE y 40, listE z 40)
noncomputable def aLists : Ann C0 := { quiet := [32], Γ := [(23, frameT [] tLst), (56, frameT [] tUni), (32, frameT [] tDel)] }
def tLists : Tfm C0 := fun args H K => match args, H with
  | [.at (.slc 0), .at (.slc 1), .at (.slc 2), .at (.val (.bool s))], [.row false .ent x, .row false .ent y, .row false .ent z] => ∀ l m n : List Ent, (l, m, n) = listsE x y z s →
    K (.tup [.at (.slc 3), .at (.slc 4), .at (.slc 5)]) [.row false EC.ent x, .row false EC.ent y, .row false EC.ent z, .row true EC.ent l, .row true EC.ent m, .row true EC.ent n] [] ∧
    (m = l → K (.tup [.at (.slc 3), .at (.slc 3), .at (.slc 4)]) [.row false EC.ent x, .row false EC.ent y, .row false EC.ent z, .row true EC.ent l, .row true EC.ent n] []) ∧
    (n = l → K (.tup [.at (.slc 3), .at (.slc 4), .at (.slc 3)]) [.row false EC.ent x, .row false EC.ent y, .row false EC.ent z, .row true EC.ent l, .row true EC.ent m] []) ∧
    (m = l → n = l → K (.tup [.at (.slc 3), .at (.slc 3), .at (.slc 3)]) [.row false EC.ent x, .row false EC.ent y, .row false EC.ent z, .row true EC.ent l] [])
  | _, _ => False
theorem vc_awake (K : KT) (h : K (.one (.at (vB true))) [] []) : vc C0 aAwake Try.f26 [] [] (normK 0 K) := by
  refine Eq.mp (show (([{ kind := 1, key := 1, old := 0, new := 5 : Chg }].length + [{ kind := 3, key := 1, old := 5, new := 6 : Chg }].length ≤ 1000000) ∧
(∀ r : List Chg,
  (∀ e : Int,
    (((Prod.mk (r) (e)) = (Prod.mk [({ kind := 1, key := 1, old := 0, new := 6 : Chg })] 0)) →
    (brS (e == 0)
      ((brS (sameB r [{ kind := 1, key := 1, old := 0, new := 6 : Chg }])
        ((brS (valB r)
          ((K (SV.one (TV.at (At.val (Value.bool true)))) [] []))
          ((K (SV.one (TV.at (At.val (Value.bool false)))) [] []))))
        ((K (SV.one (TV.at (At.val (Value.bool false)))) [] []))))
      ((K (SV.one (TV.at (At.val (Value.bool false)))) [] []))))))) = _ by kernel_rfl) ?_
  refine ⟨by decide, fun r e hr => ?_⟩
  have h1 : r = [⟨1, 1, 0, 6⟩] := (Prod.mk.inj hr).1
  have h2 : e = 0 := (Prod.mk.inj hr).2
  subst h1 h2
  exact h
theorem s_awake : SoundT C0 26 tAwake := by
  refine .of Try.func26 (by decide) rfl fun args H K h hB => ?_
  unfold tAwake at h
  split at h <;> try exact h.elim
  exact ⟨aAwake, ⟨frame C0.ok s_comp _, frame C0.ok s_sameC _, frame C0.ok s_valid _, trivial⟩, vc_awake K h⟩
theorem uniE_nil {l m : List Ent} (p : Int) (h : m.length = 0) : uniE l m p = l := by
  rw [List.eq_nil_of_length_eq_zero h]; rfl
theorem vc_lists (x y z : List Ent) (s : Bool) (K : KT) (h : ∀ l m n : List Ent, (l, m, n) = listsE x y z s →
    K (.tup [.at (.slc 3), .at (.slc 4), .at (.slc 5)]) [.row false EC.ent x, .row false EC.ent y, .row false EC.ent z, .row true EC.ent l, .row true EC.ent m, .row true EC.ent n] [] ∧
    (m = l → K (.tup [.at (.slc 3), .at (.slc 3), .at (.slc 4)]) [.row false EC.ent x, .row false EC.ent y, .row false EC.ent z, .row true EC.ent l, .row true EC.ent n] []) ∧
    (n = l → K (.tup [.at (.slc 3), .at (.slc 4), .at (.slc 3)]) [.row false EC.ent x, .row false EC.ent y, .row false EC.ent z, .row true EC.ent l, .row true EC.ent m] []) ∧
    (m = l → n = l → K (.tup [.at (.slc 3), .at (.slc 3), .at (.slc 3)]) [.row false EC.ent x, .row false EC.ent y, .row false EC.ent z, .row true EC.ent l] [])) :
    vc C0 aLists Try.f22 [.at (.slc 0), .at (.slc 1), .at (.slc 2), .at (.val (.bool s))] [.row false EC.ent x, .row false EC.ent y, .row false EC.ent z] (normK 3 K) := by
  refine Eq.mp (show (((0 : Int) ≤ 40) ∧
((40 : Int) ≤ 1000000) ∧
((0 : Int) ≤ 40) ∧
((40 : Int) ≤ 1000000) ∧
((0 : Int) ≤ 40) ∧
((40 : Int) ≤ 1000000) ∧
(brS (s)
  ((((0 : Int) ≤ 6) ∧
  ((6 : Int) ≤ 1000000) ∧
  ((listE x (Int.toNat 40)).length + (listE y (Int.toNat 6)).length ≤ 1000000) ∧
  ((((listE y (Int.toNat 6)).length) = 0) →
  (((0 : Int) ≤ 6) ∧
  ((6 : Int) ≤ 1000000) ∧
  ((listE x (Int.toNat 40)).length + (listE z (Int.toNat 6)).length ≤ 1000000) ∧
  ((((listE z (Int.toNat 6)).length) = 0) →
  (brS (decide ((↑(listE x (Int.toNat 40)).length : Int) > 2))
    ((((0 : Int) ≤ 0) ∧
    (0 < (↑(listE x (Int.toNat 40)).length : Int)) ∧
    (0 ≤ IntKind.i64.wrap ((↑(listE x (Int.toNat 40)).length : Int).tdiv 2)) ∧
    (IntKind.i64.wrap ((↑(listE x (Int.toNat 40)).length : Int).tdiv 2) < (↑(listE x (Int.toNat 40)).length : Int)) ∧
    ((listE x (Int.toNat 40)).length ≤ 1000000) ∧
    ((listE x (Int.toNat 40)).length ≤ 1000000) ∧
    (K (SV.tup [(TV.at (At.slc 3)), (TV.at (At.slc 4)), (TV.at (At.slc 5))]) [(Chunk.row false (EC.ent) (x)), (Chunk.row false (EC.ent) (y)), (Chunk.row false (EC.ent) (z)), (Chunk.row true (EC.ent) (listE x (Int.toNat 40))), (Chunk.row true (EC.ent) (outE (listE x (Int.toNat 40)) ((listE x (Int.toNat 40)).getD (Int.toNat 0) (0, 0)).fst ((listE x (Int.toNat 40)).getD (Int.toNat 0) (0, 0)).fst)), (Chunk.row true (EC.ent) (outE (listE x (Int.toNat 40)) ((listE x (Int.toNat 40)).getD (IntKind.i64.wrap ((↑(listE x (Int.toNat 40)).length : Int).tdiv 2)).toNat (0, 0)).fst ((listE x (Int.toNat 40)).getD (IntKind.i64.wrap ((↑(listE x (Int.toNat 40)).length : Int).tdiv 2)).toNat (0, 0)).fst))] [])))
    ((K (SV.tup [(TV.at (At.slc 3)), (TV.at (At.slc 3)), (TV.at (At.slc 3))]) [(Chunk.row false (EC.ent) (x)), (Chunk.row false (EC.ent) (y)), (Chunk.row false (EC.ent) (z)), (Chunk.row true (EC.ent) (listE x (Int.toNat 40)))] [])))) ∧
  (brS (decide ((↑(listE x (Int.toNat 40)).length : Int) > 2))
    ((((0 : Int) ≤ 0) ∧
    (0 < (↑(listE x (Int.toNat 40)).length : Int)) ∧
    (0 ≤ IntKind.i64.wrap ((↑(listE x (Int.toNat 40)).length : Int).tdiv 2)) ∧
    (IntKind.i64.wrap ((↑(listE x (Int.toNat 40)).length : Int).tdiv 2) < (↑(listE x (Int.toNat 40)).length : Int)) ∧
    ((listE x (Int.toNat 40)).length ≤ 1000000) ∧
    ((uniE (listE x (Int.toNat 40)) (listE z (Int.toNat 6)) 2).length ≤ 1000000) ∧
    (K (SV.tup [(TV.at (At.slc 3)), (TV.at (At.slc 4)), (TV.at (At.slc 5))]) [(Chunk.row false (EC.ent) (x)), (Chunk.row false (EC.ent) (y)), (Chunk.row false (EC.ent) (z)), (Chunk.row true (EC.ent) (listE x (Int.toNat 40))), (Chunk.row true (EC.ent) (outE (listE x (Int.toNat 40)) ((listE x (Int.toNat 40)).getD (Int.toNat 0) (0, 0)).fst ((listE x (Int.toNat 40)).getD (Int.toNat 0) (0, 0)).fst)), (Chunk.row true (EC.ent) (outE (uniE (listE x (Int.toNat 40)) (listE z (Int.toNat 6)) 2) ((listE x (Int.toNat 40)).getD (IntKind.i64.wrap ((↑(listE x (Int.toNat 40)).length : Int).tdiv 2)).toNat (0, 0)).fst ((listE x (Int.toNat 40)).getD (IntKind.i64.wrap ((↑(listE x (Int.toNat 40)).length : Int).tdiv 2)).toNat (0, 0)).fst))] [])))
    ((K (SV.tup [(TV.at (At.slc 3)), (TV.at (At.slc 3)), (TV.at (At.slc 4))]) [(Chunk.row false (EC.ent) (x)), (Chunk.row false (EC.ent) (y)), (Chunk.row false (EC.ent) (z)), (Chunk.row true (EC.ent) (listE x (Int.toNat 40))), (Chunk.row true (EC.ent) (uniE (listE x (Int.toNat 40)) (listE z (Int.toNat 6)) 2))] []))))) ∧
  ((0 : Int) ≤ 6) ∧
  ((6 : Int) ≤ 1000000) ∧
  ((listE x (Int.toNat 40)).length + (listE z (Int.toNat 6)).length ≤ 1000000) ∧
  ((((listE z (Int.toNat 6)).length) = 0) →
  (brS (decide ((↑(listE x (Int.toNat 40)).length : Int) > 2))
    ((((0 : Int) ≤ 0) ∧
    (0 < (↑(listE x (Int.toNat 40)).length : Int)) ∧
    (0 ≤ IntKind.i64.wrap ((↑(listE x (Int.toNat 40)).length : Int).tdiv 2)) ∧
    (IntKind.i64.wrap ((↑(listE x (Int.toNat 40)).length : Int).tdiv 2) < (↑(listE x (Int.toNat 40)).length : Int)) ∧
    ((uniE (listE x (Int.toNat 40)) (listE y (Int.toNat 6)) 2).length ≤ 1000000) ∧
    ((listE x (Int.toNat 40)).length ≤ 1000000) ∧
    (K (SV.tup [(TV.at (At.slc 3)), (TV.at (At.slc 4)), (TV.at (At.slc 5))]) [(Chunk.row false (EC.ent) (x)), (Chunk.row false (EC.ent) (y)), (Chunk.row false (EC.ent) (z)), (Chunk.row true (EC.ent) (listE x (Int.toNat 40))), (Chunk.row true (EC.ent) (outE (uniE (listE x (Int.toNat 40)) (listE y (Int.toNat 6)) 2) ((listE x (Int.toNat 40)).getD (Int.toNat 0) (0, 0)).fst ((listE x (Int.toNat 40)).getD (Int.toNat 0) (0, 0)).fst)), (Chunk.row true (EC.ent) (outE (listE x (Int.toNat 40)) ((listE x (Int.toNat 40)).getD (IntKind.i64.wrap ((↑(listE x (Int.toNat 40)).length : Int).tdiv 2)).toNat (0, 0)).fst ((listE x (Int.toNat 40)).getD (IntKind.i64.wrap ((↑(listE x (Int.toNat 40)).length : Int).tdiv 2)).toNat (0, 0)).fst))] [])))
    ((K (SV.tup [(TV.at (At.slc 3)), (TV.at (At.slc 4)), (TV.at (At.slc 3))]) [(Chunk.row false (EC.ent) (x)), (Chunk.row false (EC.ent) (y)), (Chunk.row false (EC.ent) (z)), (Chunk.row true (EC.ent) (listE x (Int.toNat 40))), (Chunk.row true (EC.ent) (uniE (listE x (Int.toNat 40)) (listE y (Int.toNat 6)) 2))] [])))) ∧
  (brS (decide ((↑(listE x (Int.toNat 40)).length : Int) > 2))
    ((((0 : Int) ≤ 0) ∧
    (0 < (↑(listE x (Int.toNat 40)).length : Int)) ∧
    (0 ≤ IntKind.i64.wrap ((↑(listE x (Int.toNat 40)).length : Int).tdiv 2)) ∧
    (IntKind.i64.wrap ((↑(listE x (Int.toNat 40)).length : Int).tdiv 2) < (↑(listE x (Int.toNat 40)).length : Int)) ∧
    ((uniE (listE x (Int.toNat 40)) (listE y (Int.toNat 6)) 2).length ≤ 1000000) ∧
    ((uniE (listE x (Int.toNat 40)) (listE z (Int.toNat 6)) 2).length ≤ 1000000) ∧
    (K (SV.tup [(TV.at (At.slc 3)), (TV.at (At.slc 4)), (TV.at (At.slc 5))]) [(Chunk.row false (EC.ent) (x)), (Chunk.row false (EC.ent) (y)), (Chunk.row false (EC.ent) (z)), (Chunk.row true (EC.ent) (listE x (Int.toNat 40))), (Chunk.row true (EC.ent) (outE (uniE (listE x (Int.toNat 40)) (listE y (Int.toNat 6)) 2) ((listE x (Int.toNat 40)).getD (Int.toNat 0) (0, 0)).fst ((listE x (Int.toNat 40)).getD (Int.toNat 0) (0, 0)).fst)), (Chunk.row true (EC.ent) (outE (uniE (listE x (Int.toNat 40)) (listE z (Int.toNat 6)) 2) ((listE x (Int.toNat 40)).getD (IntKind.i64.wrap ((↑(listE x (Int.toNat 40)).length : Int).tdiv 2)).toNat (0, 0)).fst ((listE x (Int.toNat 40)).getD (IntKind.i64.wrap ((↑(listE x (Int.toNat 40)).length : Int).tdiv 2)).toNat (0, 0)).fst))] [])))
    ((K (SV.tup [(TV.at (At.slc 3)), (TV.at (At.slc 4)), (TV.at (At.slc 5))]) [(Chunk.row false (EC.ent) (x)), (Chunk.row false (EC.ent) (y)), (Chunk.row false (EC.ent) (z)), (Chunk.row true (EC.ent) (listE x (Int.toNat 40))), (Chunk.row true (EC.ent) (uniE (listE x (Int.toNat 40)) (listE y (Int.toNat 6)) 2)), (Chunk.row true (EC.ent) (uniE (listE x (Int.toNat 40)) (listE z (Int.toNat 6)) 2))] [])))))
  ((K (SV.tup [(TV.at (At.slc 3)), (TV.at (At.slc 4)), (TV.at (At.slc 5))]) [(Chunk.row false (EC.ent) (x)), (Chunk.row false (EC.ent) (y)), (Chunk.row false (EC.ent) (z)), (Chunk.row true (EC.ent) (listE x (Int.toNat 40))), (Chunk.row true (EC.ent) (listE y (Int.toNat 40))), (Chunk.row true (EC.ent) (listE z (Int.toNat 40)))] [])))) = _ by kernel_rfl) ?_
  have t40 : Int.toNat 40 = 40 := rfl
  have t6 : Int.toNat 6 = 6 := rfl
  have t0 : Int.toNat 0 = 0 := rfl
  simp only [t40, t6, t0]
  have hx := (listE_spec x 40).2
  have hy := (listE_spec y 6).2
  have hz := (listE_spec z 6).2
  have hw : IntKind.i64.wrap (((listE x 40).length : Int).tdiv 2) = (((listE x 40).length / 2 : Nat) : Int) := by
    rw [Int.tdiv_eq_ediv_of_nonneg (by omega), wrap_in (by omega) (by omega)]; simp
  have hw' : (IntKind.i64.wrap (((listE x 40).length : Int).tdiv 2)).toNat = (listE x 40).length / 2 := by rw [hw]; exact Int.toNat_natCast _
  have hu1 := uniE_len (listE x 40) (listE y 6) 2
  have hu2 := uniE_len (listE x 40) (listE z 6) 2
  have q1 : 2 < (listE x 40).length → s = true → ∀ m n : List Ent, m = uniE (listE x 40) (listE y 6) 2 → n = uniE (listE x 40) (listE z 6) 2 →
      ∀ i, i = (listE x 40).length / 2 → (listE x 40, outE m (eA (listE x 40) 0).1 (eA (listE x 40) 0).1, outE n (eA (listE x 40) i).1 (eA (listE x 40) i).1) = listsE x y z s := by
    intro hl hs m n hm hn i hi
    subst hm hn hi
    unfold listsE
    rw [if_pos hs, if_pos hl]
  have q2 : ¬ 2 < (listE x 40).length → s = true → ∀ m n : List Ent, m = uniE (listE x 40) (listE y 6) 2 → n = uniE (listE x 40) (listE z 6) 2 → (listE x 40, m, n) = listsE x y z s := by
    intro hl hs m n hm hn
    subst hm hn
    unfold listsE
    rw [if_pos hs, if_neg hl]
  have q3 : s = false → (listE x 40, listE y 40, listE z 40) = listsE x y z s := by
    intro hs
    unfold listsE
    rw [hs]; rfl
  refine ⟨by decide, by decide, by decide, by decide, by decide, by decide, brS_of (fun hs => ⟨by decide, by decide, by omega, fun ey => ⟨by decide, by decide, by omega, fun ez => brS_of (fun hl => ?_) fun hl => ?_, brS_of (fun hl => ?_) fun hl => ?_⟩,
    by decide, by decide, by omega, fun ez => brS_of (fun hl => ?_) fun hl => ?_, brS_of (fun hl => ?_) fun hl => ?_⟩) fun hs => (h _ _ _ (q3 hs)).1⟩
  all_goals
    have hl' := hl
    simp only [decide_eq_true_eq, decide_eq_false_iff_not] at hl'
  · exact ⟨by decide, by omega, by rw [hw]; omega, by rw [hw]; omega, by omega, by omega, (h _ _ _ (q1 (by omega) hs _ _ (uniE_nil 2 ey).symm (uniE_nil 2 ez).symm _ hw')).1⟩
  · exact (h _ _ _ (q2 (by omega) hs _ _ (uniE_nil 2 ey).symm (uniE_nil 2 ez).symm)).2.2.2 rfl rfl
  · exact ⟨by decide, by omega, by rw [hw]; omega, by rw [hw]; omega, by omega, by omega, (h _ _ _ (q1 (by omega) hs _ _ (uniE_nil 2 ey).symm rfl _ hw')).1⟩
  · exact (h _ _ _ (q2 (by omega) hs _ _ (uniE_nil 2 ey).symm rfl)).2.1 rfl
  · exact ⟨by decide, by omega, by rw [hw]; omega, by rw [hw]; omega, by omega, by omega, (h _ _ _ (q1 (by omega) hs _ _ rfl (uniE_nil 2 ez).symm _ hw')).1⟩
  · exact (h _ _ _ (q2 (by omega) hs _ _ rfl (uniE_nil 2 ez).symm)).2.2.1 rfl
  · exact ⟨by decide, by omega, by rw [hw]; omega, by rw [hw]; omega, by omega, by omega, (h _ _ _ (q1 (by omega) hs _ _ rfl rfl _ hw')).1⟩
  · exact (h _ _ _ (q2 (by omega) hs _ _ rfl rfl)).1
theorem s_lists : SoundT C0 22 tLists := by
  refine .of Try.func22 (by decide) rfl fun args H K h hB => ?_
  unfold tLists at h
  split at h <;> try exact h.elim
  rename_i s x y z
  exact ⟨aLists, ⟨frame C0.ok s_lst _, frame C0.ok s_uni _, frame C0.ok s_del _, trivial⟩, vc_lists x y z s K h⟩
theorem outE_asc {l : List Ent} (h : Asc l) (lo hi : Int) : Asc (outE l lo hi) := List.Pairwise.filter _ h
theorem outE_le (l : List Ent) (lo hi : Int) : (outE l lo hi).length ≤ l.length := List.length_filter_le _ _
theorem listsE_spec {x y z l m n : List Ent} {s : Bool} (h : (l, m, n) = listsE x y z s) : (Asc l ∧ l.length ≤ 50) ∧ (Asc m ∧ m.length ≤ 50) ∧ (Asc n ∧ n.length ≤ 50) := by
  have h1 := listE_spec x 40
  have h2 := listE_spec y 40
  have h3 := listE_spec z 40
  have h4 := listE_spec y 6
  have h5 := listE_spec z 6
  have h6 := uniE_len (listE x 40) (listE y 6) 2
  have h7 := uniE_len (listE x 40) (listE z 6) 2
  have h8 := uniE_asc h1.1 (listE y 6) 2
  have h9 := uniE_asc h1.1 (listE z 6) 2
  unfold listsE at h
  split at h
  · split at h
    · simp only [Prod.mk.injEq] at h
      obtain ⟨rfl, rfl, rfl⟩ := h
      exact ⟨⟨h1.1, by omega⟩, ⟨outE_asc h8 _ _, Nat.le_trans (outE_le _ _ _) (by omega)⟩, ⟨outE_asc h9 _ _, Nat.le_trans (outE_le _ _ _) (by omega)⟩⟩
    · simp only [Prod.mk.injEq] at h
      obtain ⟨rfl, rfl, rfl⟩ := h
      exact ⟨⟨h1.1, by omega⟩, ⟨h8, by omega⟩, ⟨h9, by omega⟩⟩
  · simp only [Prod.mk.injEq] at h
    obtain ⟨rfl, rfl, rfl⟩ := h
    exact ⟨⟨h1.1, by omega⟩, ⟨h2.1, by omega⟩, ⟨h3.1, by omega⟩⟩
theorem btw_len {l m : List Ent} (hl : Asc l) (hm : Asc m) : (btw l m).length ≤ l.length + m.length := by
  rw [← difE_btw hl hm]; exact difE_len l m
/-- Composing along three lists. -/
theorem compR_btw {l m n : List Ent} (hl : Asc l) (hm : Asc m) (hn : Asc n) : compR (btw l m) (btw m n) = (btw l n, 0) := by
  have h1 : valB (btw l m) = true := valB_iff.2 (btw_val hl hm)
  have h2 : valB (btw m n) = true := valB_iff.2 (btw_val hm hn)
  unfold compR
  rw [h1, h2, comp_btw hl hm hn]; rfl
end Go.Proofs.Ytdgodcamadalhaa.Sx
