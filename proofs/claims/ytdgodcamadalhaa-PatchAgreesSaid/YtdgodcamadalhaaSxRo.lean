/- Apply. -/
import Derived.Test.YtdgodcamadalhaaSxRm
namespace Go.Proofs.Ytdgodcamadalhaa.Sx
open Go

def appR (l : List Ent) (p : List Chg) : List Ent × Int := if ascB l && valB p then (match app l p with
  | some r => (r, 0)
  | none => ([], 9)) else ([], 1)
structure XAp (l : List Ent) (p : List Chg) where
  i : Nat
  k : Nat
  acc : List Ent
  h : i ≤ l.length ∧ k ≤ p.length ∧ acc.length ≤ i + k ∧ AppAt l p i k acc
structure XAq (l : List Ent) (p : List Chg) extends XAp l p where
  hq : i < l.length → (cA p k).key ≤ (eA l i).1
structure XAb (l : List Ent) (p : List Chg) extends XAq l p where
  b : Bool
  hb : b = (decide (i < l.length) && decide ((eA l i).1 = (cA p k).key))
noncomputable def aApp (l : List Ent) (p : List Chg) : Ann C0 := { quiet := [62, 61], Γ := [(65, frameT [] tAsc), (38, frameT [] tValid), (62, frameT [] (tBefore mayA)), (61, frameT [] (tAfter mayA))], inv := fun n => match n with
  | 6 => some { X := XAp l p, sl := [22, 7, 6], tf := fun x => [vi .i64 x.k, vi .i64 x.i, .one (.at (.slc 2))], hf := fun x => [.row false EC.ent l, .row false EC.chg p, .row true EC.ent x.acc], μ := fun x => p.length - x.k }
  | 8 => some { X := XAp l p, sl := [7, 6, 9], tf := fun x => [vi .i64 x.i, .one (.at (.slc 2)), .one (.at (.ptr 3 0))], hf := fun x => [.row false EC.ent l, .row false EC.chg p, .row true EC.ent x.acc, .box [vI (cA p x.k).kind, vI (cA p x.k).key, vI (cA p x.k).old, vI (cA p x.k).new]], μ := fun x => l.length - x.i, rel := fun T _ x => slotI T 22 x.k }
  | 1011 => some { X := XAq l p, sl := [7, 6, 9], tf := fun x => [vi .i64 x.i, .one (.at (.slc 2)), .one (.at (.ptr 3 0))], hf := fun x => [.row false EC.ent l, .row false EC.chg p, .row true EC.ent x.acc, .box [vI (cA p x.k).kind, vI (cA p x.k).key, vI (cA p x.k).old, vI (cA p x.k).new]], rel := fun T _ x => slotI T 22 x.k }
  | 1013 => some { X := XAb l p, sl := [62], tf := fun x => [vb x.b], hf := fun x => [.row false EC.ent l, .row false EC.chg p, .row true EC.ent x.acc, .box [vI (cA p x.k).kind, vI (cA p x.k).key, vI (cA p x.k).old, vI (cA p x.k).new], .box [vB false, vI 0]], rel := fun T _ x => slotI T 22 x.k ∧ slotI T 7 x.i }
  | _ => none }
def tApp : Tfm C0 := fun args H K => match args, H with
  | [.at (.slc 0), .at (.slc 1)], [.row false .ent l, .row false .chg p] => l.length + p.length ≤ 1000000 ∧ ∀ (r : List Ent) (e : Int), (r, e) = appR l p → K (.tup [.at (.slc 2), .at (vI e)]) [.row false EC.ent l, .row false EC.chg p, .row true EC.ent r] []
  | _, _ => False
theorem nott {b : Bool} (h : (!b) = true) : b = false := by cases b <;> simp_all
theorem notf {b : Bool} (h : (!b) = false) : b = true := by cases b <;> simp_all
theorem app_take {l : List Ent} {p : List Chg} {i k : Nat} {acc : List Ent} (h : AppAt l p i k acc) (hk : k < p.length) (hi : i < l.length) (he : (eA l i).1 = (cA p k).key) :
    if some (eA l i).2 = (cA p k).before then AppAt l p (i + 1) (k + 1) (acc ++ optE (cA p k).key (cA p k).after) else app l p = none := h.take (drop_cons (eA_get hi)) (drop_cons (cA_get hk)) he
theorem app_new {l : List Ent} {p : List Chg} {i k : Nat} {acc : List Ent} (h : AppAt l p i k acc) (hk : k < p.length) (hn : i < l.length → (cA p k).key < (eA l i).1) :
    if none = (cA p k).before then AppAt l p i (k + 1) (acc ++ optE (cA p k).key (cA p k).after) else app l p = none := by
  refine h.new ?_ (drop_cons (cA_get hk))
  by_cases hi : i < l.length
  · exact .inr ⟨_, _, drop_cons (eA_get hi), hn hi⟩
  · exact .inl (List.drop_eq_nil_of_le (by omega))
set_option maxHeartbeats 1000000 in
theorem vc_app (l : List Ent) (p : List Chg) (K : KT) (hsm : l.length + p.length ≤ 1000000) (h : ∀ (r : List Ent) (e : Int), (r, e) = appR l p → K (.tup [.at (.slc 2), .at (vI e)]) [.row false EC.ent l, .row false EC.chg p, .row true EC.ent r] []) :
    vc C0 (aApp l p) Try.f28 [.at (.slc 0), .at (.slc 1)] [.row false EC.ent l, .row false EC.chg p] (normK 2 K) := by
  refine Eq.mp (show (brS (!ascB l)
  ((K (SV.tup [(TV.at (At.slc 2)), (TV.at (At.val (Value.int IntKind.i64 1)))]) [(Chunk.row false (EC.ent) (l)), (Chunk.row false (EC.chg) (p)), (Chunk.row true (EC.ent) [])] []))
  ((brS (!valB p)
    ((K (SV.tup [(TV.at (At.slc 2)), (TV.at (At.val (Value.int IntKind.i64 1)))]) [(Chunk.row false (EC.ent) (l)), (Chunk.row false (EC.chg) (p)), (Chunk.row true (EC.ent) [])] []))
    (((∃ x : XAp l p,
      (True ∧
      (True ∧
      True ∧
      ((Value.int IntKind.i64 0) = (Value.int IntKind.i64 ((↑x.i : Int)))) ∧
      True ∧
      ((Value.int IntKind.i64 ((↑p.length : Int))) = (Value.int IntKind.i64 ((↑p.length : Int)))) ∧
      ((Value.int IntKind.i64 0) = (Value.int IntKind.i64 ((↑x.k : Int)))) ∧
      True) ∧
      ((l) = (l)) ∧
      ((p) = (p)) ∧
      ([] = (x.acc)) ∧
      True)) ∧
    (∀ x : XAp l p,
      (True →
      (brS (decide ((↑x.k : Int) < (↑p.length : Int)))
        (((0 ≤ (↑x.k : Int)) ∧
        ((↑x.k : Int) < (↑p.length : Int)) ∧
        ((∃ x1 : XAp l p,
          ((((↑x.k : Int)) = ((↑x1.k : Int))) ∧
          (True ∧
          True ∧
          ((Value.int IntKind.i64 ((↑x.i : Int))) = (Value.int IntKind.i64 ((↑x1.i : Int)))) ∧
          True ∧
          True ∧
          ((Value.int IntKind.i64 ((↑p.length : Int))) = (Value.int IntKind.i64 ((↑p.length : Int)))) ∧
          ((Value.int IntKind.i64 ((↑x.k : Int))) = (Value.int IntKind.i64 ((↑x.k : Int)))) ∧
          True) ∧
          ((l) = (l)) ∧
          ((p) = (p)) ∧
          ((x.acc) = (x1.acc)) ∧
          (((Value.int IntKind.i64 ((cA p x.k).kind)) = (Value.int IntKind.i64 ((cA p x1.k).kind))) ∧
          ((Value.int IntKind.i64 ((cA p x.k).key)) = (Value.int IntKind.i64 ((cA p x1.k).key))) ∧
          ((Value.int IntKind.i64 ((cA p x.k).old)) = (Value.int IntKind.i64 ((cA p x1.k).old))) ∧
          ((Value.int IntKind.i64 ((cA p x.k).new)) = (Value.int IntKind.i64 ((cA p x1.k).new))) ∧
          True) ∧
          True)) ∧
        (∀ x1 : XAp l p,
          ((((↑x.k : Int)) = ((↑x1.k : Int))) →
          (brS (decide ((↑x1.i : Int) < (↑l.length : Int)))
            (((0 ≤ (↑x1.i : Int)) ∧
            ((↑x1.i : Int) < (↑l.length : Int)) ∧
            (brS (decide ((eA l x1.i).fst < (cA p x1.k).key))
              (((0 ≤ (↑x1.i : Int)) ∧
              ((↑x1.i : Int) < (↑l.length : Int)) ∧
              ((x1.acc.length + [((eA l x1.i).fst, (eA l x1.i).snd)].length) * bytesOf C0 EC.ent ≤ 140737488355328) ∧
              (∃ x' : XAp l p,
                ((((↑x.k : Int)) = ((↑x'.k : Int))) ∧
                ((True ∧
                True ∧
                ((Value.int IntKind.i64 (IntKind.i64.wrap ((↑x1.i : Int) + 1))) = (Value.int IntKind.i64 ((↑x'.i : Int)))) ∧
                True ∧
                True ∧
                ((Value.int IntKind.i64 ((↑p.length : Int))) = (Value.int IntKind.i64 ((↑p.length : Int)))) ∧
                ((Value.int IntKind.i64 ((↑x.k : Int))) = (Value.int IntKind.i64 ((↑x.k : Int)))) ∧
                True) ∧
                ((l) = (l)) ∧
                ((p) = (p)) ∧
                ((x1.acc ++ [((eA l x1.i).fst, (eA l x1.i).snd)]) = (x'.acc)) ∧
                (((Value.int IntKind.i64 ((cA p x1.k).kind)) = (Value.int IntKind.i64 ((cA p x'.k).kind))) ∧
                ((Value.int IntKind.i64 ((cA p x1.k).key)) = (Value.int IntKind.i64 ((cA p x'.k).key))) ∧
                ((Value.int IntKind.i64 ((cA p x1.k).old)) = (Value.int IntKind.i64 ((cA p x'.k).old))) ∧
                ((Value.int IntKind.i64 ((cA p x1.k).new)) = (Value.int IntKind.i64 ((cA p x'.k).new))) ∧
                True) ∧
                True) ∧
                (l.length - x'.i < l.length - x1.i)))))
              ((∃ x2 : XAq l p,
                ((((↑x.k : Int)) = ((↑x2.k : Int))) ∧
                (True ∧
                True ∧
                ((Value.int IntKind.i64 ((↑x1.i : Int))) = (Value.int IntKind.i64 ((↑x2.i : Int)))) ∧
                True ∧
                True ∧
                ((Value.int IntKind.i64 ((↑p.length : Int))) = (Value.int IntKind.i64 ((↑p.length : Int)))) ∧
                ((Value.int IntKind.i64 ((↑x.k : Int))) = (Value.int IntKind.i64 ((↑x.k : Int)))) ∧
                True) ∧
                ((l) = (l)) ∧
                ((p) = (p)) ∧
                ((x1.acc) = (x2.acc)) ∧
                (((Value.int IntKind.i64 ((cA p x1.k).kind)) = (Value.int IntKind.i64 ((cA p x2.k).kind))) ∧
                ((Value.int IntKind.i64 ((cA p x1.k).key)) = (Value.int IntKind.i64 ((cA p x2.k).key))) ∧
                ((Value.int IntKind.i64 ((cA p x1.k).old)) = (Value.int IntKind.i64 ((cA p x2.k).old))) ∧
                ((Value.int IntKind.i64 ((cA p x1.k).new)) = (Value.int IntKind.i64 ((cA p x2.k).new))) ∧
                True) ∧
                True))))))
            ((∃ x2 : XAq l p,
              ((((↑x.k : Int)) = ((↑x2.k : Int))) ∧
              (True ∧
              True ∧
              ((Value.int IntKind.i64 ((↑x1.i : Int))) = (Value.int IntKind.i64 ((↑x2.i : Int)))) ∧
              True ∧
              True ∧
              ((Value.int IntKind.i64 ((↑p.length : Int))) = (Value.int IntKind.i64 ((↑p.length : Int)))) ∧
              ((Value.int IntKind.i64 ((↑x.k : Int))) = (Value.int IntKind.i64 ((↑x.k : Int)))) ∧
              True) ∧
              ((l) = (l)) ∧
              ((p) = (p)) ∧
              ((x1.acc) = (x2.acc)) ∧
              (((Value.int IntKind.i64 ((cA p x1.k).kind)) = (Value.int IntKind.i64 ((cA p x2.k).kind))) ∧
              ((Value.int IntKind.i64 ((cA p x1.k).key)) = (Value.int IntKind.i64 ((cA p x2.k).key))) ∧
              ((Value.int IntKind.i64 ((cA p x1.k).old)) = (Value.int IntKind.i64 ((cA p x2.k).old))) ∧
              ((Value.int IntKind.i64 ((cA p x1.k).new)) = (Value.int IntKind.i64 ((cA p x2.k).new))) ∧
              True) ∧
              True))))))) ∧
        (∀ x1 : XAq l p,
          ((((↑x.k : Int)) = ((↑x1.k : Int))) →
          ((brS (decide ((↑x1.i : Int) < (↑l.length : Int)))
            (((0 ≤ (↑x1.i : Int)) ∧
            ((↑x1.i : Int) < (↑l.length : Int)) ∧
            (∃ x2 : XAb l p,
              (((((↑x.k : Int)) = ((↑x2.k : Int))) ∧
              (((↑x1.i : Int)) = ((↑x2.i : Int)))) ∧
              (True ∧
              True ∧
              ((Value.int IntKind.i64 ((↑x1.i : Int))) = (Value.int IntKind.i64 ((↑x1.i : Int)))) ∧
              True ∧
              True ∧
              True ∧
              ((Value.int IntKind.i64 ((↑p.length : Int))) = (Value.int IntKind.i64 ((↑p.length : Int)))) ∧
              ((Value.int IntKind.i64 ((↑x.k : Int))) = (Value.int IntKind.i64 ((↑x.k : Int)))) ∧
              ((Value.bool ((eA l x1.i).fst == (cA p x1.k).key)) = (Value.bool (x2.b))) ∧
              True) ∧
              ((l) = (l)) ∧
              ((p) = (p)) ∧
              ((x1.acc) = (x2.acc)) ∧
              (((Value.int IntKind.i64 ((cA p x1.k).kind)) = (Value.int IntKind.i64 ((cA p x2.k).kind))) ∧
              ((Value.int IntKind.i64 ((cA p x1.k).key)) = (Value.int IntKind.i64 ((cA p x2.k).key))) ∧
              ((Value.int IntKind.i64 ((cA p x1.k).old)) = (Value.int IntKind.i64 ((cA p x2.k).old))) ∧
              ((Value.int IntKind.i64 ((cA p x1.k).new)) = (Value.int IntKind.i64 ((cA p x2.k).new))) ∧
              True) ∧
              (((Value.bool false) = (Value.bool false)) ∧
              ((Value.int IntKind.i64 0) = (Value.int IntKind.i64 0)) ∧
              True) ∧
              True))))
            ((∃ x2 : XAb l p,
              (((((↑x.k : Int)) = ((↑x2.k : Int))) ∧
              (((↑x1.i : Int)) = ((↑x2.i : Int)))) ∧
              (True ∧
              True ∧
              ((Value.int IntKind.i64 ((↑x1.i : Int))) = (Value.int IntKind.i64 ((↑x1.i : Int)))) ∧
              True ∧
              True ∧
              True ∧
              ((Value.int IntKind.i64 ((↑p.length : Int))) = (Value.int IntKind.i64 ((↑p.length : Int)))) ∧
              ((Value.int IntKind.i64 ((↑x.k : Int))) = (Value.int IntKind.i64 ((↑x.k : Int)))) ∧
              ((Value.bool false) = (Value.bool (x2.b))) ∧
              True) ∧
              ((l) = (l)) ∧
              ((p) = (p)) ∧
              ((x1.acc) = (x2.acc)) ∧
              (((Value.int IntKind.i64 ((cA p x1.k).kind)) = (Value.int IntKind.i64 ((cA p x2.k).kind))) ∧
              ((Value.int IntKind.i64 ((cA p x1.k).key)) = (Value.int IntKind.i64 ((cA p x2.k).key))) ∧
              ((Value.int IntKind.i64 ((cA p x1.k).old)) = (Value.int IntKind.i64 ((cA p x2.k).old))) ∧
              ((Value.int IntKind.i64 ((cA p x1.k).new)) = (Value.int IntKind.i64 ((cA p x2.k).new))) ∧
              True) ∧
              (((Value.bool false) = (Value.bool false)) ∧
              ((Value.int IntKind.i64 0) = (Value.int IntKind.i64 0)) ∧
              True) ∧
              True)))) ∧
          (∀ x2 : XAb l p,
            (((((↑x.k : Int)) = ((↑x2.k : Int))) ∧
            (((↑x1.i : Int)) = ((↑x2.i : Int)))) →
            (brS (x2.b)
              (((0 ≤ (↑x1.i : Int)) ∧
              ((↑x1.i : Int) < (↑l.length : Int)) ∧
              (∀ x3 : Option Int,
                (((x3) = ({ kind := (cA p x2.k).kind, key := (cA p x2.k).key, old := (cA p x2.k).old, new := (cA p x2.k).new : Chg }.before)) →
                (brS (!(true == x3.isSome && ((eA l x1.i).snd == x3.getD 0 && true)))
                  ((K (SV.tup [(TV.at (At.slc 2)), (TV.at (At.val (Value.int IntKind.i64 9)))]) [(Chunk.row false (EC.ent) (l)), (Chunk.row false (EC.chg) (p)), (Chunk.row true (EC.ent) [])] []))
                  ((∀ x4 : Option Int,
                    (((x4) = ({ kind := (cA p x2.k).kind, key := (cA p x2.k).key, old := (cA p x2.k).old, new := (cA p x2.k).new : Chg }.after)) →
                    (brS (x4.isSome)
                      ((((x2.acc.length + [((cA p x2.k).key, x4.getD 0)].length) * bytesOf C0 EC.ent ≤ 140737488355328) ∧
                      (∃ x' : XAp l p,
                        (True ∧
                        ((True ∧
                        True ∧
                        ((Value.int IntKind.i64 (IntKind.i64.wrap ((↑x1.i : Int) + 1))) = (Value.int IntKind.i64 ((↑x'.i : Int)))) ∧
                        True ∧
                        ((Value.int IntKind.i64 ((↑p.length : Int))) = (Value.int IntKind.i64 ((↑p.length : Int)))) ∧
                        ((Value.int IntKind.i64 (IntKind.i64.wrap ((↑x.k : Int) + 1))) = (Value.int IntKind.i64 ((↑x'.k : Int)))) ∧
                        True) ∧
                        ((l) = (l)) ∧
                        ((p) = (p)) ∧
                        ((x2.acc ++ [((cA p x2.k).key, x4.getD 0)]) = (x'.acc)) ∧
                        True) ∧
                        (p.length - x'.k < p.length - x.k)))))
                      ((∃ x' : XAp l p,
                        (True ∧
                        ((True ∧
                        True ∧
                        ((Value.int IntKind.i64 (IntKind.i64.wrap ((↑x1.i : Int) + 1))) = (Value.int IntKind.i64 ((↑x'.i : Int)))) ∧
                        True ∧
                        ((Value.int IntKind.i64 ((↑p.length : Int))) = (Value.int IntKind.i64 ((↑p.length : Int)))) ∧
                        ((Value.int IntKind.i64 (IntKind.i64.wrap ((↑x.k : Int) + 1))) = (Value.int IntKind.i64 ((↑x'.k : Int)))) ∧
                        True) ∧
                        ((l) = (l)) ∧
                        ((p) = (p)) ∧
                        ((x2.acc) = (x'.acc)) ∧
                        True) ∧
                        (p.length - x'.k < p.length - x.k)))))))))))))
              ((∀ x3 : Option Int,
                (((x3) = ({ kind := (cA p x2.k).kind, key := (cA p x2.k).key, old := (cA p x2.k).old, new := (cA p x2.k).new : Chg }.before)) →
                (brS (!(false == x3.isSome && (0 == x3.getD 0 && true)))
                  ((K (SV.tup [(TV.at (At.slc 2)), (TV.at (At.val (Value.int IntKind.i64 9)))]) [(Chunk.row false (EC.ent) (l)), (Chunk.row false (EC.chg) (p)), (Chunk.row true (EC.ent) [])] []))
                  ((∀ x4 : Option Int,
                    (((x4) = ({ kind := (cA p x2.k).kind, key := (cA p x2.k).key, old := (cA p x2.k).old, new := (cA p x2.k).new : Chg }.after)) →
                    (brS (x4.isSome)
                      ((((x2.acc.length + [((cA p x2.k).key, x4.getD 0)].length) * bytesOf C0 EC.ent ≤ 140737488355328) ∧
                      (∃ x' : XAp l p,
                        (True ∧
                        ((True ∧
                        True ∧
                        ((Value.int IntKind.i64 ((↑x1.i : Int))) = (Value.int IntKind.i64 ((↑x'.i : Int)))) ∧
                        True ∧
                        ((Value.int IntKind.i64 ((↑p.length : Int))) = (Value.int IntKind.i64 ((↑p.length : Int)))) ∧
                        ((Value.int IntKind.i64 (IntKind.i64.wrap ((↑x.k : Int) + 1))) = (Value.int IntKind.i64 ((↑x'.k : Int)))) ∧
                        True) ∧
                        ((l) = (l)) ∧
                        ((p) = (p)) ∧
                        ((x2.acc ++ [((cA p x2.k).key, x4.getD 0)]) = (x'.acc)) ∧
                        True) ∧
                        (p.length - x'.k < p.length - x.k)))))
                      ((∃ x' : XAp l p,
                        (True ∧
                        ((True ∧
                        True ∧
                        ((Value.int IntKind.i64 ((↑x1.i : Int))) = (Value.int IntKind.i64 ((↑x'.i : Int)))) ∧
                        True ∧
                        ((Value.int IntKind.i64 ((↑p.length : Int))) = (Value.int IntKind.i64 ((↑p.length : Int)))) ∧
                        ((Value.int IntKind.i64 (IntKind.i64.wrap ((↑x.k : Int) + 1))) = (Value.int IntKind.i64 ((↑x'.k : Int)))) ∧
                        True) ∧
                        ((l) = (l)) ∧
                        ((p) = (p)) ∧
                        ((x2.acc) = (x'.acc)) ∧
                        True) ∧
                        (p.length - x'.k < p.length - x.k))))))))))))))))))))
        (((0 ≤ (↑x.i : Int)) ∧
        ((↑x.i : Int) ≤ (↑l.length : Int)) ∧
        ((↑l.length : Int) ≤ (↑l.length : Int)) ∧
        ((x.acc.length + (List.drop (↑x.i : Int).toNat (List.take (↑l.length : Int).toNat l)).length) * bytesOf C0 EC.ent ≤ 140737488355328) ∧
        (K (SV.tup [(TV.at (At.slc 2)), (TV.at (At.val (Value.int IntKind.i64 0)))]) [(Chunk.row false (EC.ent) (l)), (Chunk.row false (EC.chg) (p)), (Chunk.row true (EC.ent) (x.acc ++ List.drop (↑x.i : Int).toNat (List.take (↑l.length : Int).toNat l)))] []))))))))))) = _ by kernel_rfl) ?_
  simp only [bytes_ent]
  refine brS_of (fun c1 => h [] 1 (by simp at c1; simp [appR, c1])) fun c1 => brS_of (fun c2 => h [] 1 (by simp at c2; simp [appR, c2])) fun c2 => ⟨⟨⟨0, 0, [], Nat.zero_le _, Nat.zero_le _, Nat.zero_le _, AppAt.start l p⟩, by simp⟩, fun x _ => brS_of (fun hk => ⟨by omega, by simpa using hk, ⟨⟨x, by simp⟩, fun x1 r1 => ?_⟩, fun x1 r1 => ⟨?_, fun x2 r2 => ?_⟩⟩) fun hk => ⟨by omega, ?_, by omega, ?_, ?_⟩⟩
  · -- the inner loop
    have hk : x.k < p.length := by simpa using hk
    have r1 : x1.k = x.k := by omega
    have hh := x1.h
    refine brS_of (fun d1 => ⟨by omega, by simpa using d1, brS_of (fun d2 => ⟨by omega, by simpa using d1, ?_, ⟨⟨x1.i + 1, x1.k, x1.acc ++ [eA l x1.i], ?_, hh.2.1, ?_, ?_⟩, ?_⟩⟩) fun d2 => ⟨⟨x1, ?_⟩, ?_⟩⟩) fun d1 => ⟨⟨x1, ?_⟩, ?_⟩
    · simp only [List.length_singleton]; omega
    · simp at d1; omega
    · rw [List.length_append]; simp only [List.length_singleton]; omega
    · have hi : x1.i < l.length := by simpa using d1
      exact hh.2.2.2.keep (drop_cons (eA_get hi)) (drop_cons (cA_get (by omega))) (by simpa using d2)
    · have hi : x1.i < l.length := by simpa using d1
      rw [wrap_in (by omega) (by omega)]
      simp [r1]
      omega
    · intro _; simp at d2; omega
    · simp [r1]
    · intro hh; simp at d1; omega
    · simp [r1]
  · -- the guard
    have hk : x.k < p.length := by simpa using hk
    have r1 : x1.k = x.k := by omega
    refine brS_of (fun d1 => ⟨by omega, by simpa using d1, ⟨⟨x1, (eA l x1.i).1 == (cA p x1.k).key, ?_⟩, ?_⟩⟩) fun d1 => ⟨⟨x1, false, ?_⟩, ?_⟩
    · have hi : x1.i < l.length := by simpa using d1
      simp only [hi, decide_true, Bool.true_and]; rfl
    · simp [r1]
    · simp at d1
      have hi : ¬ x1.i < l.length := by omega
      simp [hi]
    · simp [r1]
  · -- the change
    have hk : x.k < p.length := by simpa using hk
    obtain ⟨r2k, r2i⟩ := r2
    have r1 : x1.k = x.k := by omega
    have r2k : x2.k = x.k := by omega
    have r2i : x2.i = x1.i := by omega
    have hh := x2.h
    have hbb := x2.hb
    rw [r2k, r2i] at hh hbb
    have hA := hh.2.2.2
    have w1 : x1.i < l.length → IntKind.i64.wrap ((x1.i : Int) + 1) = ((x1.i + 1 : Nat) : Int) := fun hlt => wrap_next hlt (by omega)
    have w2 : IntKind.i64.wrap ((x.k : Int) + 1) = ((x.k + 1 : Nat) : Int) := wrap_next hk (by omega)
    refine brS_of (fun eb => ?_) fun eb => ?_
    · rw [eb] at hbb
      have hb := hbb.symm
      simp only [Bool.and_eq_true, decide_eq_true_eq] at hb
      refine ⟨by omega, by omega, fun x3 hx3 => ?_⟩
      have hx3' : x3 = (cA p x.k).before := by rw [hx3, r2k]
      have st := app_take hA hk hb.1 hb.2
      refine brS_of (fun e3 => ?_) fun e3 x4 hx4 => brS_of (fun e4 => ⟨?_, ⟨⟨x1.i + 1, x.k + 1, x2.acc ++ [((cA p x.k).key, x4.getD 0)], ?_⟩, ?_⟩⟩) fun e4 => ⟨⟨x1.i + 1, x.k + 1, x2.acc, ?_⟩, ?_⟩
      · have e5 : decide (some (eA l x1.i).2 = x3) = false := by rw [← may_eqB]; exact nott e3
        rw [hx3'] at e5
        rw [if_neg (by simpa using e5)] at st
        exact h [] 9 (by simp at c1 c2; simp [appR, c1, c2, st])
      all_goals
        have e5 : decide (some (eA l x1.i).2 = x3) = true := by rw [← may_eqB]; exact notf e3
        rw [hx3'] at e5
        rw [if_pos (by simpa using e5)] at st
        have hx4' : x4 = (cA p x.k).after := by rw [hx4, r2k]
      · simp only [List.length_singleton]; omega
      · obtain ⟨v, hv⟩ := Option.isSome_iff_exists.1 e4
        rw [← hx4', hv] at st
        refine ⟨by omega, by omega, ?_, ?_⟩
        · rw [List.length_append, List.length_singleton]; omega
        · rw [hv]; exact st
      · rw [w1 hb.1, w2]
        simp [r2k]
        omega
      · have hv : x4 = none := by
          cases h4 : x4 with
          | none => rfl
          | some v => rw [h4] at e4; cases e4
        rw [← hx4', hv] at st
        refine ⟨by omega, by omega, by omega, ?_⟩
        have : x2.acc ++ optE (cA p x.k).key none = x2.acc := by simp [optE]
        rw [this] at st; exact st
      · rw [w1 hb.1, w2]
        simp [r2k]
        omega
    · rw [eb] at hbb
      have hb := hbb.symm
      have hq := x2.hq
      rw [r2k, r2i] at hq
      have hnb : x1.i < l.length → (cA p x.k).key < (eA l x1.i).1 := fun hlt => by
        have := hq hlt
        simp only [hlt, decide_true, Bool.true_and, decide_eq_false_iff_not] at hb
        omega
      intro x3 hx3
      have hx3' : x3 = (cA p x.k).before := by rw [hx3, r2k]
      have st := app_new hA hk hnb
      refine brS_of (fun e3 => ?_) fun e3 x4 hx4 => brS_of (fun e4 => ⟨?_, ⟨⟨x1.i, x.k + 1, x2.acc ++ [((cA p x.k).key, x4.getD 0)], ?_⟩, ?_⟩⟩) fun e4 => ⟨⟨x1.i, x.k + 1, x2.acc, ?_⟩, ?_⟩
      · have e5 : decide (none = x3) = false := by rw [← may_eqB]; exact nott e3
        rw [hx3'] at e5
        rw [if_neg (by simpa using e5)] at st
        exact h [] 9 (by simp at c1 c2; simp [appR, c1, c2, st])
      all_goals
        have e5 : decide (none = x3) = true := by rw [← may_eqB]; exact notf e3
        rw [hx3'] at e5
        rw [if_pos (by simpa using e5)] at st
        have hx4' : x4 = (cA p x.k).after := by rw [hx4, r2k]
      · simp only [List.length_singleton]; omega
      · obtain ⟨v, hv⟩ := Option.isSome_iff_exists.1 e4
        rw [← hx4', hv] at st
        refine ⟨by omega, by omega, ?_, ?_⟩
        · rw [List.length_append, List.length_singleton]; omega
        · rw [hv]; exact st
      · rw [w2]
        simp [r2k]
        omega
      · have hv : x4 = none := by
          cases h4 : x4 with
          | none => rfl
          | some v => rw [h4] at e4; cases e4
        rw [← hx4', hv] at st
        refine ⟨by omega, by omega, by omega, ?_⟩
        have : x2.acc ++ optE (cA p x.k).key none = x2.acc := by simp [optE]
        rw [this] at st; exact st
      · rw [w2]
        simp [r2k]
        omega
  · have := x.h; omega
  · have hh := x.h
    rw [List.length_drop, List.length_take]
    omega
  · have hh := x.h
    have hk : p.length ≤ x.k := by simpa using hk
    have e := hh.2.2.2.fin hk
    have e2 : List.drop ((x.i : Int)).toNat (List.take ((l.length : Int)).toNat l) = l.drop x.i := by simp
    have h2 : ∀ z : List Ent, z = x.acc ++ l.drop x.i → K (.tup [.at (.slc 2), .at (vI 0)]) [.row false EC.ent l, .row false EC.chg p, .row true EC.ent z] [] := fun z hz => h z 0 (by simp at c1 c2; simp [appR, c1, c2, e, hz])
    exact h2 _ (congrArg (x.acc ++ ·) e2)
theorem s_app : SoundT C0 28 tApp := by
  refine .of Try.func28 (by decide) rfl fun args H K h hB => ?_
  unfold tApp at h
  split at h <;> try exact h.elim
  rename_i l p
  exact ⟨aApp l p, ⟨frame C0.ok s_asc _, frame C0.ok s_valid _, frame C0.ok s_before _, frame C0.ok s_after _, trivial⟩, vc_app l p K h.1 h.2⟩
end Go.Proofs.Ytdgodcamadalhaa.Sx
