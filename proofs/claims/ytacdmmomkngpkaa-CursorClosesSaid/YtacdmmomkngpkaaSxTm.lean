/- Opening an argument that is a slice of a cursor's moves. -/
import Derived.Test.YtacdmmomkngpkaaSxT
import Derived.Deep.Strs
namespace Go.Proofs.Ytacdmmomkngpkaa.Sx
open Go Go.Joins Go.ChangeShapes Go.WideShapes Go.ChangeAt Go.RowKit

section
variable {HH : Type} {enc : TypeId × Value → HH} {w : World} {base b0 : Nat} {spare : Nat → Bool} {held : Bool} {r : Reach}
set_option maxRecDepth 100000 in
theorem elM {n : Nat} {cs : List Value} {x : DataW HH × List MemPlace} (h : DataW.trod enc Try.prog w base spare held n 111 cs = some x) : ∃ a : MoveT, cs = EC.enc .move a := by
  obtain ⟨y0, y1, y2, m, _, hl, h0, h1, h2⟩ := Go.Deep.trod_struct3 Try.underlying111 h
  obtain ⟨k, e0, _⟩ := DataW.trod_int Try.underlying3 h0
  obtain ⟨v, e1, _⟩ := DataW.trod_int Try.underlying2 h1
  obtain ⟨s, e2, _⟩ := DataW.trod_int Try.underlying3 h2
  have hl : cs.length = 3 := hl.trans (by kernel_rfl)
  have c1 : Try.prog.cellsOf 2 = 1 := by kernel_rfl
  have c2 : Try.prog.cellsOf 3 = 1 := by kernel_rfl
  match cs, hl with
  | [a, b, c], _ =>
    simp [c1, c2] at e0 e1 e2
    exact ⟨⟨k, v, s⟩, by rw [e0, e1, e2]; rfl⟩
instance : Inhabited MoveT := ⟨⟨0, 0, 0⟩⟩
set_option maxRecDepth 100000 in
theorem openM {v : Value} {d : DataW HH} {p : List MemPlace} (hv : Value.okWide Try.prog w r b0 104 v) (h : DataW.Trod enc Try.prog w base spare held 104 v d p) :
    ∃ (l : List MoveT), Imm C0 w v EC.move l := by
  obtain ⟨A, n, c, l, rfl, hr⟩ := openRow (α := MoveT) (f := fun x => EC.enc .move x) (sz := 3) Try.underlying104 (by kernel_rfl) (by decide) (fun _ => rfl) (fun h => elM h) hv h
  obtain rfl := hr.len
  exact ⟨l, A, c, rfl, hr⟩
end
end Go.Proofs.Ytacdmmomkngpkaa.Sx
