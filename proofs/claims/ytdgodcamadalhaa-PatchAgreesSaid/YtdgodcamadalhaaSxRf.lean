/- The reference's keys and unions. -/
import Derived.Test.YtdgodcamadalhaaSxRe
namespace Go.Proofs.Ytdgodcamadalhaa.Sx
open Go

structure XN (n : Nat) where
  i : Nat
  h : i ≤ n
def kF (xs : List Int) (l : List Ent) (i : Nat) : List Ent := keysOf (xs ++ (l.take i).map Prod.fst)
theorem kF_snoc {xs : List Int} {l : List Ent} {i : Nat} {x : Ent} (h : l[i]? = some x) : kF xs l (i + 1) = insE (kF xs l i) (x.1, 0) := by
  unfold kF
  rw [take_snoc h, List.map_append, ← List.append_assoc]
  exact keysOf_snoc _ _
theorem kF_len (xs : List Int) (l : List Ent) (i : Nat) : (kF xs l i).length ≤ xs.length + l.length := by
  have := (keysOf_spec (xs ++ (l.take i).map Prod.fst)).2.1
  unfold kF
  simp at this ⊢
  omega
theorem kF_zero (xs : List Int) (l : List Ent) : kF xs l 0 = keysOf xs := by simp [kF]
theorem kF_full (xs : List Int) (l : List Ent) : kF xs l l.length = keysOf (xs ++ l.map Prod.fst) := by simp [kF]
noncomputable def aKeys (l m n : List Ent) : Ann C0 := { Γ := [(31, frameT [] tIns)], inv := fun k => match k with
  | 3 => some { X := XN l.length, sl := [8, 7], tf := fun x => [vi .i64 x.i, .one (.at (.slc 3))], hf := fun x => [.row false EC.ent l, .row false EC.ent m, .row false EC.ent n, .row true EC.ent (kF [] l x.i)], μ := fun x => l.length - x.i }
  | 7 => some { X := XN m.length, sl := [9, 7], tf := fun x => [vi .i64 x.i, .one (.at (.slc 3))], hf := fun x => [.row false EC.ent l, .row false EC.ent m, .row false EC.ent n, .row true EC.ent (kF (l.map Prod.fst) m x.i)], μ := fun x => m.length - x.i }
  | 11 => some { X := XN n.length, sl := [10, 7], tf := fun x => [vi .i64 x.i, .one (.at (.slc 3))], hf := fun x => [.row false EC.ent l, .row false EC.ent m, .row false EC.ent n, .row true EC.ent (kF (l.map Prod.fst ++ m.map Prod.fst) n x.i)], μ := fun x => n.length - x.i }
  | 16 => some { X := XN (kF (l.map Prod.fst ++ m.map Prod.fst) n n.length).length, sl := [12, 7, 11], tf := fun x => [vi .i64 x.i, .one (.at (.slc 3)), .one (.at (.slc 4))], hf := fun x => [.row false EC.ent l, .row false EC.ent m, .row false EC.ent n, .row true EC.ent (kF (l.map Prod.fst ++ m.map Prod.fst) n n.length), .row true EC.i64 (((kF (l.map Prod.fst ++ m.map Prod.fst) n n.length).take x.i).map Prod.fst)], μ := fun x => (kF (l.map Prod.fst ++ m.map Prod.fst) n n.length).length - x.i }
  | _ => none }
def tKeys : Tfm C0 := fun args H K => match args, H with
  | [.at (.slc 0), .at (.slc 1), .at (.slc 2)], [.row false .ent l, .row false .ent m, .row false .ent n] => l.length + m.length + n.length ≤ 1000000 ∧ K (.one (.at (.slc 3))) [.row false EC.ent l, .row false EC.ent m, .row false EC.ent n, .row true EC.i64 (keys3 l m n)] []
  | _, _ => False
theorem keys3_eq (l m n : List Ent) : keys3 l m n = (kF (l.map Prod.fst ++ m.map Prod.fst) n n.length).map Prod.fst := by
  rw [kF_full]; simp [keys3]
set_option maxHeartbeats 1000000 in
theorem vc_keys (l m n : List Ent) (K : KT) (hsm : l.length + m.length + n.length ≤ 1000000) (h : K (.one (.at (.slc 3))) [.row false EC.ent l, .row false EC.ent m, .row false EC.ent n, .row true EC.i64 (keys3 l m n)] []) :
    vc C0 (aKeys l m n) Try.f68 [.at (.slc 0), .at (.slc 1), .at (.slc 2)] [.row false EC.ent l, .row false EC.ent m, .row false EC.ent n] (normK 3 K) := by
  refine Eq.mp (show ((∃ x : XN l.length,
  (True ∧
  (True ∧
  True ∧
  True ∧
  True ∧
  ((Value.int IntKind.i64 0) = (Value.int IntKind.i64 ((↑x.i : Int)))) ∧
  True) ∧
  ((l) = (l)) ∧
  ((m) = (m)) ∧
  ((n) = (n)) ∧
  ([] = (kF [] l x.i)) ∧
  True)) ∧
(∀ x : XN l.length,
  (True →
  (brS (decide ((↑x.i : Int) < (↑l.length : Int)))
    (((0 ≤ (↑x.i : Int)) ∧
    ((↑x.i : Int) < (↑l.length : Int)) ∧
    ((kF [] l x.i).length ≤ 1000000) ∧
    (∃ x' : XN l.length,
      (True ∧
      ((True ∧
      True ∧
      True ∧
      True ∧
      ((Value.int IntKind.i64 (IntKind.i64.wrap ((↑x.i : Int) + 1))) = (Value.int IntKind.i64 ((↑x'.i : Int)))) ∧
      True) ∧
      ((l) = (l)) ∧
      ((m) = (m)) ∧
      ((n) = (n)) ∧
      ((insE (kF [] l x.i) ((eA l x.i).fst, 0)) = (kF [] l x'.i)) ∧
      True) ∧
      (l.length - x'.i < l.length - x.i)))))
    (((∃ x1 : XN m.length,
      (True ∧
      (True ∧
      True ∧
      True ∧
      ((Value.int IntKind.i64 0) = (Value.int IntKind.i64 ((↑x1.i : Int)))) ∧
      True) ∧
      ((l) = (l)) ∧
      ((m) = (m)) ∧
      ((n) = (n)) ∧
      ((kF [] l x.i) = (kF (List.map Prod.fst l) m x1.i)) ∧
      True)) ∧
    (∀ x1 : XN m.length,
      (True →
      (brS (decide ((↑x1.i : Int) < (↑m.length : Int)))
        (((0 ≤ (↑x1.i : Int)) ∧
        ((↑x1.i : Int) < (↑m.length : Int)) ∧
        ((kF (List.map Prod.fst l) m x1.i).length ≤ 1000000) ∧
        (∃ x' : XN m.length,
          (True ∧
          ((True ∧
          True ∧
          True ∧
          ((Value.int IntKind.i64 (IntKind.i64.wrap ((↑x1.i : Int) + 1))) = (Value.int IntKind.i64 ((↑x'.i : Int)))) ∧
          True) ∧
          ((l) = (l)) ∧
          ((m) = (m)) ∧
          ((n) = (n)) ∧
          ((insE (kF (List.map Prod.fst l) m x1.i) ((eA m x1.i).fst, 0)) = (kF (List.map Prod.fst l) m x'.i)) ∧
          True) ∧
          (m.length - x'.i < m.length - x1.i)))))
        (((∃ x2 : XN n.length,
          (True ∧
          (True ∧
          True ∧
          ((Value.int IntKind.i64 0) = (Value.int IntKind.i64 ((↑x2.i : Int)))) ∧
          True) ∧
          ((l) = (l)) ∧
          ((m) = (m)) ∧
          ((n) = (n)) ∧
          ((kF (List.map Prod.fst l) m x1.i) = (kF (List.map Prod.fst l ++ List.map Prod.fst m) n x2.i)) ∧
          True)) ∧
        (∀ x2 : XN n.length,
          (True →
          (brS (decide ((↑x2.i : Int) < (↑n.length : Int)))
            (((0 ≤ (↑x2.i : Int)) ∧
            ((↑x2.i : Int) < (↑n.length : Int)) ∧
            ((kF (List.map Prod.fst l ++ List.map Prod.fst m) n x2.i).length ≤ 1000000) ∧
            (∃ x' : XN n.length,
              (True ∧
              ((True ∧
              True ∧
              ((Value.int IntKind.i64 (IntKind.i64.wrap ((↑x2.i : Int) + 1))) = (Value.int IntKind.i64 ((↑x'.i : Int)))) ∧
              True) ∧
              ((l) = (l)) ∧
              ((m) = (m)) ∧
              ((n) = (n)) ∧
              ((insE (kF (List.map Prod.fst l ++ List.map Prod.fst m) n x2.i) ((eA n x2.i).fst, 0)) = (kF (List.map Prod.fst l ++ List.map Prod.fst m) n x'.i)) ∧
              True) ∧
              (n.length - x'.i < n.length - x2.i)))))
            (((∃ x3 : XN (kF (List.map Prod.fst l ++ List.map Prod.fst m) n n.length).length,
              (True ∧
              (True ∧
              True ∧
              ((Value.int IntKind.i64 0) = (Value.int IntKind.i64 ((↑x3.i : Int)))) ∧
              True) ∧
              ((l) = (l)) ∧
              ((m) = (m)) ∧
              ((n) = (n)) ∧
              ((kF (List.map Prod.fst l ++ List.map Prod.fst m) n x2.i) = (kF (List.map Prod.fst l ++ List.map Prod.fst m) n n.length)) ∧
              ([] = (List.map Prod.fst (List.take x3.i (kF (List.map Prod.fst l ++ List.map Prod.fst m) n n.length)))) ∧
              True)) ∧
            (∀ x3 : XN (kF (List.map Prod.fst l ++ List.map Prod.fst m) n n.length).length,
              (True →
              (brS (decide ((↑x3.i : Int) < (↑(kF (List.map Prod.fst l ++ List.map Prod.fst m) n n.length).length : Int)))
                (((0 ≤ (↑x3.i : Int)) ∧
                ((↑x3.i : Int) < (↑(kF (List.map Prod.fst l ++ List.map Prod.fst m) n n.length).length : Int)) ∧
                (((List.map Prod.fst (List.take x3.i (kF (List.map Prod.fst l ++ List.map Prod.fst m) n n.length))).length + [(eA (kF (List.map Prod.fst l ++ List.map Prod.fst m) n n.length) x3.i).fst].length) * bytesOf C0 EC.i64 ≤ 140737488355328) ∧
                (∃ x' : XN (kF (List.map Prod.fst l ++ List.map Prod.fst m) n n.length).length,
                  (True ∧
                  ((True ∧
                  True ∧
                  ((Value.int IntKind.i64 (IntKind.i64.wrap ((↑x3.i : Int) + 1))) = (Value.int IntKind.i64 ((↑x'.i : Int)))) ∧
                  True) ∧
                  ((l) = (l)) ∧
                  ((m) = (m)) ∧
                  ((n) = (n)) ∧
                  ((kF (List.map Prod.fst l ++ List.map Prod.fst m) n n.length) = (kF (List.map Prod.fst l ++ List.map Prod.fst m) n n.length)) ∧
                  ((List.map Prod.fst (List.take x3.i (kF (List.map Prod.fst l ++ List.map Prod.fst m) n n.length)) ++ [(eA (kF (List.map Prod.fst l ++ List.map Prod.fst m) n n.length) x3.i).fst]) = (List.map Prod.fst (List.take x'.i (kF (List.map Prod.fst l ++ List.map Prod.fst m) n n.length)))) ∧
                  True) ∧
                  ((kF (List.map Prod.fst l ++ List.map Prod.fst m) n n.length).length - x'.i < (kF (List.map Prod.fst l ++ List.map Prod.fst m) n n.length).length - x3.i)))))
                ((K (SV.one (TV.at (At.slc 3))) [(Chunk.row false (EC.ent) (l)), (Chunk.row false (EC.ent) (m)), (Chunk.row false (EC.ent) (n)), (Chunk.row true (EC.i64) (List.map Prod.fst (List.take x3.i (kF (List.map Prod.fst l ++ List.map Prod.fst m) n n.length))))] []))))))))))))))))))))) = _ by kernel_rfl) ?_
  have nxt : ∀ {k i : Nat}, i < k → k ≤ 1000000 → IntKind.i64.wrap ((i : Int) + 1) = ((i + 1 : Nat) : Int) := fun {k i} h1 h2 => by rw [wrap_in (by omega) (by omega)]; simp
  refine ⟨⟨⟨0, Nat.zero_le _⟩, by simp [kF_zero, keysOf]⟩, fun x _ => brS_of (fun hi => ?_) fun hi => ?_⟩
  · have hi : x.i < l.length := by simpa using hi
    have hs := kF_snoc (xs := []) (eA_get hi)
    have hlen := kF_len [] l x.i
    simp only [nxt hi (by omega)]
    refine ⟨by omega, by omega, by simp at hlen; omega, ⟨x.i + 1, by omega⟩, ?_⟩
    simp [hs]; omega
  have hi : x.i = l.length := by have := x.h; simp at hi; omega
  refine ⟨⟨⟨0, Nat.zero_le _⟩, by simp [kF_zero, hi, kF_full]⟩, fun x _ => brS_of (fun hi => ?_) fun hi => ?_⟩
  · have hi : x.i < m.length := by simpa using hi
    have hs := kF_snoc (xs := l.map Prod.fst) (eA_get hi)
    have hlen := kF_len (l.map Prod.fst) m x.i
    simp only [nxt hi (by omega)]
    refine ⟨by omega, by omega, by simp at hlen; omega, ⟨x.i + 1, by omega⟩, ?_⟩
    simp [hs]; omega
  have hi : x.i = m.length := by have := x.h; simp at hi; omega
  refine ⟨⟨⟨0, Nat.zero_le _⟩, by simp [kF_zero, hi, kF_full]⟩, fun x _ => brS_of (fun hi => ?_) fun hi => ?_⟩
  · have hi : x.i < n.length := by simpa using hi
    have hs := kF_snoc (xs := l.map Prod.fst ++ m.map Prod.fst) (eA_get hi)
    have hlen := kF_len (l.map Prod.fst ++ m.map Prod.fst) n x.i
    simp only [nxt hi (by omega)]
    refine ⟨by omega, by omega, by simp at hlen; omega, ⟨x.i + 1, by omega⟩, ?_⟩
    simp [hs]; omega
  have hi : x.i = n.length := by have := x.h; simp at hi; omega
  have hlen := kF_len (l.map Prod.fst ++ m.map Prod.fst) n n.length
  rw [hi]
  rw [keys3_eq] at h
  generalize kF (l.map Prod.fst ++ m.map Prod.fst) n n.length = all at *
  simp at hlen
  refine ⟨⟨⟨0, Nat.zero_le _⟩, by simp⟩, fun x _ => brS_of (fun hi => ?_) fun hi => ?_⟩
  · have hi : x.i < all.length := by simpa using hi
    have hs := take_snoc (eA_get hi)
    simp only [nxt hi (by omega), bytes_i64]
    refine ⟨by omega, by omega, by simp; omega, ⟨x.i + 1, by omega⟩, ?_⟩
    simp [hs]; omega
  · have hi : x.i = all.length := by have := x.h; simp at hi; omega
    have h2 : ∀ z : List Int, z = all.map Prod.fst → K (.one (.at (.slc 3))) [.row false EC.ent l, .row false EC.ent m, .row false EC.ent n, .row true EC.i64 z] [] := fun z hz => by subst hz; exact h
    exact h2 _ (by rw [hi]; exact congrArg (List.map Prod.fst) (List.take_length (l := all)))
theorem s_keys : SoundT C0 68 tKeys := by
  refine .of Try.func68 (by decide) rfl fun args H K h hB => ?_
  unfold tKeys at h
  split at h <;> try exact h.elim
  rename_i l m n
  exact ⟨aKeys l m n, ⟨frame C0.ok s_ins _, trivial⟩, vc_keys l m n K h.1 h.2⟩

structure XU (l m : List Ent) (p : Int) where
  i : Nat
  h : i ≤ m.length
noncomputable def aUni (l m : List Ent) (p : Int) : Ann C0 := { rounds := fun n => if n = 3 then 1 else 0, Γ := [(31, frameT [] tIns), (30, frameT [] tGet), (77, frameT [] tChoose)], inv := fun k => match k with
  | 3 => some { X := XU l m p, sl := [8, 7], tf := fun x => [vi .i64 x.i, .one (.at (.slc 2))], hf := fun x => [.row false EC.ent l, .row false EC.ent m, .row true EC.ent (uniE l (m.take x.i) p)], μ := fun x => m.length - x.i }
  | _ => none }
def tUni : Tfm C0 := fun args H K => match args, H with
  | [.at (.slc 0), .at (.slc 1), .at (.val (.int .i64 p))], [.row false .ent l, .row false .ent m] => l.length + m.length ≤ 1000000 ∧ (m.length = 0 → K (.one (.at (.slc 0))) [.row false EC.ent l, .row false EC.ent m] []) ∧ K (.one (.at (.slc 2))) [.row false EC.ent l, .row false EC.ent m, .row true EC.ent (uniE l m p)] []
  | _, _ => False
theorem uni_snoc (l : List Ent) {m : List Ent} (p : Int) {i : Nat} {x : Ent} (h : m[i]? = some x) : uniE l (m.take (i + 1)) p = uniStep l p (uniE l (m.take i) p) x := by
  unfold uniE
  rw [take_snoc h]
  simp
theorem uni_step {l m : List Ent} {p : Int} {i : Nat} (hi : i < m.length) {x : Option Int} (hx : x = getE l (eA m i).1) {v : Int} (hv : ∀ w, x = some w → v = chooseP p w (eA m i).2) (hn : x = none → v = (eA m i).2) :
    insE (uniE l (m.take i) p) ((eA m i).1, v) = uniE l (m.take (i + 1)) p := by
  rw [uni_snoc l p (eA_get hi)]
  unfold uniStep
  rw [← hx]
  cases x with
  | none => rw [hn rfl]
  | some w => rw [hv w rfl]
theorem vc_uni (l m : List Ent) (p : Int) (K : KT) (hsm : l.length + m.length ≤ 1000000) (h0 : m.length = 0 → K (.one (.at (.slc 0))) [.row false EC.ent l, .row false EC.ent m] [])
    (h : K (.one (.at (.slc 2))) [.row false EC.ent l, .row false EC.ent m, .row true EC.ent (uniE l m p)] []) :
    vc C0 (aUni l m p) Try.f56 [.at (.slc 0), .at (.slc 1), .at (.val (.int .i64 p))] [.row false EC.ent l, .row false EC.ent m] (normK 2 K) := by
  refine Eq.mp (show (brS (decide (0 < (↑m.length : Int)))
  ((((0 : Int) ≤ 0) ∧
  (0 < (↑m.length : Int)) ∧
  (∀ x : Option Int,
    (((x) = (getE l (m.getD (Int.toNat 0) (0, 0)).fst)) →
    (brS (x.isSome)
      ((∀ x1 : Int,
        (((x1) = (chooseP p (x.getD 0) (m.getD (Int.toNat 0) (0, 0)).snd)) →
        ((l.length ≤ 1000000) ∧
        (∃ x2 : XU l m p,
          (True ∧
          (True ∧
          True ∧
          ((Value.int IntKind.i64 (p)) = (Value.int IntKind.i64 (p))) ∧
          True ∧
          ((Value.int IntKind.i64 1) = (Value.int IntKind.i64 ((↑x2.i : Int)))) ∧
          True) ∧
          ((l) = (l)) ∧
          ((m) = (m)) ∧
          ((insE l ((m.getD (Int.toNat 0) (0, 0)).fst, x1)) = (uniE l (List.take x2.i m) p)) ∧
          True)) ∧
        (∀ x2 : XU l m p,
          (True →
          (brS (decide ((↑x2.i : Int) < (↑m.length : Int)))
            (((0 ≤ (↑x2.i : Int)) ∧
            ((↑x2.i : Int) < (↑m.length : Int)) ∧
            (∀ x3 : Option Int,
              (((x3) = (getE l (eA m x2.i).fst)) →
              (brS (x3.isSome)
                ((∀ x4 : Int,
                  (((x4) = (chooseP p (x3.getD 0) (eA m x2.i).snd)) →
                  (((uniE l (List.take x2.i m) p).length ≤ 1000000) ∧
                  (∃ x' : XU l m p,
                    (True ∧
                    ((True ∧
                    True ∧
                    ((Value.int IntKind.i64 (p)) = (Value.int IntKind.i64 (p))) ∧
                    True ∧
                    ((Value.int IntKind.i64 (IntKind.i64.wrap ((↑x2.i : Int) + 1))) = (Value.int IntKind.i64 ((↑x'.i : Int)))) ∧
                    True) ∧
                    ((l) = (l)) ∧
                    ((m) = (m)) ∧
                    ((insE (uniE l (List.take x2.i m) p) ((eA m x2.i).fst, x4)) = (uniE l (List.take x'.i m) p)) ∧
                    True) ∧
                    (m.length - x'.i < m.length - x2.i)))))))
                ((((uniE l (List.take x2.i m) p).length ≤ 1000000) ∧
                (∃ x' : XU l m p,
                  (True ∧
                  ((True ∧
                  True ∧
                  ((Value.int IntKind.i64 (p)) = (Value.int IntKind.i64 (p))) ∧
                  True ∧
                  ((Value.int IntKind.i64 (IntKind.i64.wrap ((↑x2.i : Int) + 1))) = (Value.int IntKind.i64 ((↑x'.i : Int)))) ∧
                  True) ∧
                  ((l) = (l)) ∧
                  ((m) = (m)) ∧
                  ((insE (uniE l (List.take x2.i m) p) ((eA m x2.i).fst, (eA m x2.i).snd)) = (uniE l (List.take x'.i m) p)) ∧
                  True) ∧
                  (m.length - x'.i < m.length - x2.i))))))))))
            ((K (SV.one (TV.at (At.slc 2))) [(Chunk.row false (EC.ent) (l)), (Chunk.row false (EC.ent) (m)), (Chunk.row true (EC.ent) (uniE l (List.take x2.i m) p))] [])))))))))
      (((l.length ≤ 1000000) ∧
      (∃ x1 : XU l m p,
        (True ∧
        (True ∧
        True ∧
        ((Value.int IntKind.i64 (p)) = (Value.int IntKind.i64 (p))) ∧
        True ∧
        ((Value.int IntKind.i64 1) = (Value.int IntKind.i64 ((↑x1.i : Int)))) ∧
        True) ∧
        ((l) = (l)) ∧
        ((m) = (m)) ∧
        ((insE l ((m.getD (Int.toNat 0) (0, 0)).fst, (m.getD (Int.toNat 0) (0, 0)).snd)) = (uniE l (List.take x1.i m) p)) ∧
        True)) ∧
      (∀ x1 : XU l m p,
        (True →
        (brS (decide ((↑x1.i : Int) < (↑m.length : Int)))
          (((0 ≤ (↑x1.i : Int)) ∧
          ((↑x1.i : Int) < (↑m.length : Int)) ∧
          (∀ x2 : Option Int,
            (((x2) = (getE l (eA m x1.i).fst)) →
            (brS (x2.isSome)
              ((∀ x3 : Int,
                (((x3) = (chooseP p (x2.getD 0) (eA m x1.i).snd)) →
                (((uniE l (List.take x1.i m) p).length ≤ 1000000) ∧
                (∃ x' : XU l m p,
                  (True ∧
                  ((True ∧
                  True ∧
                  ((Value.int IntKind.i64 (p)) = (Value.int IntKind.i64 (p))) ∧
                  True ∧
                  ((Value.int IntKind.i64 (IntKind.i64.wrap ((↑x1.i : Int) + 1))) = (Value.int IntKind.i64 ((↑x'.i : Int)))) ∧
                  True) ∧
                  ((l) = (l)) ∧
                  ((m) = (m)) ∧
                  ((insE (uniE l (List.take x1.i m) p) ((eA m x1.i).fst, x3)) = (uniE l (List.take x'.i m) p)) ∧
                  True) ∧
                  (m.length - x'.i < m.length - x1.i)))))))
              ((((uniE l (List.take x1.i m) p).length ≤ 1000000) ∧
              (∃ x' : XU l m p,
                (True ∧
                ((True ∧
                True ∧
                ((Value.int IntKind.i64 (p)) = (Value.int IntKind.i64 (p))) ∧
                True ∧
                ((Value.int IntKind.i64 (IntKind.i64.wrap ((↑x1.i : Int) + 1))) = (Value.int IntKind.i64 ((↑x'.i : Int)))) ∧
                True) ∧
                ((l) = (l)) ∧
                ((m) = (m)) ∧
                ((insE (uniE l (List.take x1.i m) p) ((eA m x1.i).fst, (eA m x1.i).snd)) = (uniE l (List.take x'.i m) p)) ∧
                True) ∧
                (m.length - x'.i < m.length - x1.i))))))))))
          ((K (SV.one (TV.at (At.slc 2))) [(Chunk.row false (EC.ent) (l)), (Chunk.row false (EC.ent) (m)), (Chunk.row true (EC.ent) (uniE l (List.take x1.i m) p))] []))))))))))))
  ((K (SV.one (TV.at (At.slc 0))) [(Chunk.row false (EC.ent) (l)), (Chunk.row false (EC.ent) (m))] []))) = _ by kernel_rfl) ?_
  have st : ∀ {i : Nat} (hi : i < m.length) {x : Option Int} (hx : x = getE l (eA m i).1) {v : Int}, (∀ w, x = some w → v = chooseP p w (eA m i).2) → (x = none → v = (eA m i).2) → insE (uniE l (m.take i) p) ((eA m i).1, v) = uniE l (m.take (i + 1)) p := fun hi _ hx _ hv hn => uni_step hi hx hv hn
  have ln : ∀ i, (uniE l (m.take i) p).length ≤ l.length + m.length := fun i => by
    have q1 := uniE_len l (m.take i) p
    rw [List.length_take] at q1; omega
  have u0 : uniE l (m.take 0) p = l := by simp [uniE]
  refine brS_of (fun hi0 => ⟨by omega, by simpa using hi0, fun x hx => brS_of (fun hs => fun v hv => ⟨by omega, ⟨⟨1, ?_⟩, ?_⟩, ?_⟩) fun hs => ⟨by omega, ⟨⟨1, ?_⟩, ?_⟩, ?_⟩⟩) fun hi0 => h0 (by simp at hi0; simp [hi0])
  case refine_1 | refine_4 => simp at hi0; omega
  case refine_2 =>
    have hi : 0 < m.length := by simpa using hi0
    have hx' : x = getE l (eA m 0).1 := hx
    have hv' : v = chooseP p (x.getD 0) (eA m 0).2 := hv
    have q2 := st hi hx' (v := v) (fun w hw => by rw [hv', hw]; rfl) (fun hn => by rw [hn] at hs; cases hs)
    rw [u0] at q2
    exact ⟨trivial, ⟨trivial, trivial, rfl, trivial, rfl, trivial⟩, rfl, rfl, q2, trivial⟩
  case refine_5 =>
    have hi : 0 < m.length := by simpa using hi0
    have hx' : x = getE l (eA m 0).1 := hx
    have q3 := st hi hx' (v := (eA m 0).2) (fun w hw => by rw [hw] at hs; cases hs) (fun hn => rfl)
    rw [u0] at q3
    exact ⟨trivial, ⟨trivial, trivial, rfl, trivial, rfl, trivial⟩, rfl, rfl, q3, trivial⟩
  all_goals
    refine fun y _ => brS_of (fun hi => ?_) fun hi => ?_
    · have hi : y.i < m.length := by simpa using hi
      have hl := ln y.i
      rw [wrap_in (by omega) (by omega), show (y.i : Int) + 1 = ((y.i + 1 : Nat) : Int) by simp]
      refine ⟨by omega, by omega, fun x hx => brS_of (fun hs => fun v hv => ⟨by omega, ⟨y.i + 1, by omega⟩, trivial, ⟨⟨trivial, trivial, rfl, trivial, rfl, trivial⟩, rfl, rfl, ?_, trivial⟩, ?_⟩) fun hs => ⟨by omega, ⟨y.i + 1, by omega⟩, trivial, ⟨⟨trivial, trivial, rfl, trivial, rfl, trivial⟩, rfl, rfl, ?_, trivial⟩, ?_⟩⟩
      · exact st hi hx (v := v) (fun w hw => by rw [hv, hw]; rfl) (fun hn => by rw [hn] at hs; cases hs)
      · show m.length - (y.i + 1) < _; omega
      · exact st hi hx (v := (eA m y.i).2) (fun w hw => by rw [hw] at hs; cases hs) (fun hn => rfl)
      · show m.length - (y.i + 1) < _; omega
    · have hi : y.i = m.length := by have := y.h; simp at hi; omega
      have h2 : ∀ z : List Ent, z = uniE l m p → K (.one (.at (.slc 2))) [.row false EC.ent l, .row false EC.ent m, .row true EC.ent z] [] := fun z hz => by subst hz; exact h
      exact h2 _ (by rw [hi]; exact congrArg (fun z => uniE l z p) (List.take_length (l := m)))
theorem s_uni : SoundT C0 56 tUni := by
  refine .of Try.func56 (by decide) rfl fun args H K h hB => ?_
  unfold tUni at h
  split at h <;> try exact h.elim
  rename_i p l m
  exact ⟨aUni l m p, ⟨frame C0.ok s_ins _, frame C0.ok s_get _, frame C0.ok s_choose _, trivial⟩, vc_uni l m p K h.1 h.2.1 h.2.2⟩
end Go.Proofs.Ytdgodcamadalhaa.Sx
