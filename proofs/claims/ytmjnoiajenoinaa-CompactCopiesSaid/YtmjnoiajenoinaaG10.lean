/- A part of the proof. -/
import Derived.Test.YtmjnoiajenoinaaG9
import Derived.Deep.Strs
import Derived.Test.YtmjnoiajenoinaaRows
section
/- Opening arguments that are slices of edits (cursor, update), of steps (compact), of numbers, of truth values. -/
namespace Go.Proofs.Ytmjnoiajenoinaa.Sx
open Go Go.Joins Go.ChangeShapes Go.WideShapes Go.ChangeAt Go.RowKit

section
variable {HH : Type} {enc : TypeId × Value → HH} {w : World} {base b0 : Nat} {spare : Nat → Bool} {held : Bool} {r : Reach}
instance : Inhabited EduT := ⟨⟨false, (0, 0)⟩⟩
instance : Inhabited LStepT := ⟨⟨false, 0, 0, 0, 0⟩⟩
set_option maxRecDepth 100000 in
theorem openN {v : Value} {d : DataW HH} {p : List MemPlace} (hv : Value.okWide Try.prog w r b0 41 v) (h : DataW.Trod enc Try.prog w base spare held 41 v d p) :
    ∃ (l : List Int), Imm C0 w v EC.int l := by
  obtain ⟨A, n, c, l, rfl, hr⟩ := openRow (α := Int) (f := fun x => EC.enc .int x) (sz := 1) Try.underlying41 (by kernel_rfl) (by decide) (fun _ => rfl) (fun h => by obtain ⟨k, e0, _⟩ := DataW.trod_int Try.underlying3 h; exact ⟨k, e0⟩) hv h
  obtain rfl := hr.len
  exact ⟨l, ⟨A, c, rfl, hr⟩⟩
set_option maxRecDepth 100000 in
theorem elS {n : Nat} {cs : List Value} {x : DataW HH × List MemPlace} (h : DataW.trod enc Try.prog w base spare held n 134 cs = some x) : ∃ a : LStepT, cs = EC.enc .lstep a ∧ ((-9223372036854775808 ≤ a.key ∧ a.key ≤ 9223372036854775807) ∧ (-9223372036854775808 ≤ a.value ∧ a.value ≤ 9223372036854775807)) := by
  obtain ⟨y0, y1, y2, y3, m, _, hl, h0, h1, h2, h3⟩ := trod_struct4 Try.underlying134 h
  obtain ⟨k, e0, _⟩ := DataW.trod_bool Try.underlying4 h0
  obtain ⟨s, e1, q1⟩ := elEw h1
  obtain ⟨u, e2, _⟩ := DataW.trod_int Try.underlying3 h2
  obtain ⟨v, e3, _⟩ := DataW.trod_int Try.underlying3 h3
  have hl : cs.length = 5 := hl.trans (by kernel_rfl)
  have c1 : Try.prog.cellsOf 4 = 1 := by kernel_rfl
  have c2 : Try.prog.cellsOf 3 = 1 := by kernel_rfl
  have c3 : Try.prog.cellsOf 61 = 2 := by kernel_rfl
  match cs, hl with
  | [a, b, c, d, e], _ =>
    simp [c1, c2, c3] at e0 e1 e2 e3
    have e1 : [b, c] = [Value.int .i64 s.1, Value.int .i64 s.2] := e1
    simp only [List.cons.injEq, and_true] at e1
    exact ⟨⟨k, s.1, s.2, u, v⟩, by rw [e0, e1.1, e1.2, e2, e3]; rfl, q1⟩
set_option maxRecDepth 100000 in
theorem openS {v : Value} {d : DataW HH} {p : List MemPlace} (hv : Value.okWide Try.prog w r b0 40 v) (h : DataW.Trod enc Try.prog w base spare held 40 v d p) :
    ∃ (l : List LStepT), Imm C0 w v EC.lstep l ∧ ∀ a ∈ l, (-9223372036854775808 ≤ a.key ∧ a.key ≤ 9223372036854775807) ∧ (-9223372036854775808 ≤ a.value ∧ a.value ≤ 9223372036854775807) := by
  obtain ⟨A, n, c, l, rfl, hr, hq⟩ := openRowQ (α := LStepT) (f := fun x => EC.enc .lstep x) (sz := 5) Try.underlying40 (by kernel_rfl) (by decide) (fun _ => rfl) (fun h => elS h) hv h
  obtain rfl := hr.len
  exact ⟨l, ⟨A, c, rfl, hr⟩, hq⟩
end
end Go.Proofs.Ytmjnoiajenoinaa.Sx
end
section
/- 'CompactCopies': the law returns true for every input, and its arguments read afterwards as they read before. -/
namespace Go.Proofs.Ytmjnoiajenoinaa.compactCopies
open Go.ChangeShapes Go.WideShapes Go.ChangeAt Go.RowKit Sx

set_option maxRecDepth 100000 in
theorem lifted (os : Os) (started : os.Started) (H : Type) (enc : TypeId × Value → H) :
    ReturnsInHanded {} Try.checked os 4 .any (Rows.compactCopiesSpec.pre6 enc Try.prog Try.f4 Rows.compactCopiesRow.domain false) (Rows.compactCopiesSpec.post enc Try.prog Try.f4 false true false false) := by
  refine returnsInHanded_of_change (C := Try.checked) ownK started (by kernel_rfl) Try.func4
    (ChangeSpec.witness6 (enc := enc) (C := Try.checked) false ⟨#[], #[.int .i64 0, .slice none 0 0, .slice none 0 0, .int .i64 0, .int .u32 0], []⟩ 8 (by kernel_rfl) (by kernel_rfl) (by kernel_rfl) (by kernel_rfl)) ?_
  intro W base args ds gs before hval0 hW hcnd _
  have hval : ∀ (j : Nat) t v, Try.f4.params[j]? = some t → args[j]? = some v → Value.okWide Try.prog W .any base t v := hval0
  have hW' := hW
  obtain ⟨p, q, hA0, hV, rfl, hfz, hnd⟩ := hW
  have hA : DataW.TrodAll enc Try.prog W 0 (fun _ => true) true Try.f4.params.toList args.toList ds p := hA0
  rw [Try.params4] at hA hval
  obtain ⟨v0, vs0, d0, ds0, p0, q0, hargs, rfl, rfl, h0, r0⟩ := trodAll_cons hA
  obtain ⟨v1, vs1, d1, ds1, p1, q1, rfl, rfl, rfl, h1, r1⟩ := trodAll_cons r0
  obtain ⟨v2, vs2, d2, ds2, p2, q2, rfl, rfl, rfl, h2, r2⟩ := trodAll_cons r1
  obtain ⟨v3, vs3, d3, ds3, p3, q3, rfl, rfl, rfl, h3, r3⟩ := trodAll_cons r2
  obtain ⟨v4, vs4, d4, ds4, p4, q4, rfl, rfl, rfl, h4, r4⟩ := trodAll_cons r3
  obtain ⟨rfl, rfl, rfl⟩ := trodAll_nil r4
  obtain rfl : args = #[v0, v1, v2, v3, v4] := by cases args; simp_all
  obtain ⟨rfl, rfl⟩ := trodVars_none hV
  have k0 := h0
  have k1 := h1
  have k2 := h2
  have k3 := h3
  have k4 := h4
  clear hA0 hval0
  simp only [List.append_nil] at hW'
  have hlt : ∀ x ∈ p0 ++ (p1 ++ (p2 ++ (p3 ++ (p4)))), x.block < W.heap.size := fun x hx => by simpa using hW'.lt x (by simpa using hx)
  have l0 : ∀ x ∈ p0, x.block < W.heap.size := fun x hx => hlt x (by simp [hx])
  have l1 : ∀ x ∈ p1, x.block < W.heap.size := fun x hx => hlt x (by simp [hx])
  have l2 : ∀ x ∈ p2, x.block < W.heap.size := fun x hx => hlt x (by simp [hx])
  have l3 : ∀ x ∈ p3, x.block < W.heap.size := fun x hx => hlt x (by simp [hx])
  have l4 : ∀ x ∈ p4, x.block < W.heap.size := fun x hx => hlt x (by simp [hx])
  obtain ⟨a0, rfl, rfl, rfl, w0⟩ := open_int Try.underlying3 (hval 0 3 v0 rfl rfl) h0
  have b0 := lit_i64 w0
  obtain ⟨L1, R1, Q1⟩ := openS (hval 1 40 v1 rfl rfl) h1
  obtain ⟨L2, R2⟩ := openN (hval 2 41 v2 rfl rfl) h2
  obtain ⟨a3, rfl, rfl, rfl, w3⟩ := open_int Try.underlying3 (hval 3 3 v3 rfl rfl) h3
  have b3 := lit_i64 w3
  obtain ⟨a4, rfl, rfl, rfl, w4⟩ := open_int Try.underlying28 (hval 4 28 v4 rfl rfl) h4
  have b4 := lit_u32 w4
  refine (lawOf s_cc (args := [.at (.val (.int .i64 a0)), .at (.slc 0), .at (.slc 1), .at (.val (.int .i64 a3)), .at (.val (.int .u32 a4))]) (H := [Chunk.row false EC.lstep L1, Chunk.row false EC.int L2]) (vs := [.int .i64 a0, v1, v2, .int .i64 a3, .int .u32 a4]) (σ := fun n => [v1, v2].getD n undef) (w := W) (fun K h => ⟨b3.1, b3.2, b4.1, by have := b4.2; omega, h⟩)
    (Sat.imms [v1, v2] _ fun n c hc => by match n, hc with | 0, hc => exact ⟨_, _, (Option.some.inj hc).symm, R1⟩ | 1, hc => exact ⟨_, _, (Option.some.inj hc).symm, R2⟩ | n + 2, hc => simp at hc) (Rels.cons rfl (Rels.cons rfl (Rels.cons rfl (Rels.cons rfl (Rels.cons rfl Rels.nil))))) (by simp [TV.names, At.names])).mono fun e W' ⟨he, hg⟩ => ?_
  subst he
  exact ⟨_, rfl, _, _, _, [] ++ [], _, [], hW', (trodAll_cons_mk (shut_bool Try.underlying4 true) trodAll_mk0), (trodAll_cons_mk (Below.trod laidO (by kernel_rfl) (of_decide_eq_true (by kernel_rfl)) k0 hg l0) (trodAll_cons_mk (Below.trod laidO (by kernel_rfl) (of_decide_eq_true (by kernel_rfl)) k1 hg l1) (trodAll_cons_mk (Below.trod laidO (by kernel_rfl) (of_decide_eq_true (by kernel_rfl)) k2 hg l2) (trodAll_cons_mk (Below.trod laidO (by kernel_rfl) (of_decide_eq_true (by kernel_rfl)) k3 hg l3) (trodAll_cons_mk (Below.trod laidO (by kernel_rfl) (of_decide_eq_true (by kernel_rfl)) k4 hg l4) trodAll_mk0))))), rfl, hg.frame _, fun h => by cases h⟩

theorem over : Rows.compactCopiesRow.holds Try.pinned (OpenSpec.ofChange Rows.compactCopiesSpec) :=
  OpenClaim.holds_of_wide 4 Try.f4 rfl rfl rfl rfl rfl rfl rfl ⟨rfl, rfl, rfl, rfl, rfl⟩ rfl rfl rfl rfl rfl (by kernel_rfl) Try.func4 (by kernel_rfl)
    (of_decide_eq_true (by kernel_rfl)) (by unfold Func.isWrapper; first | (rw [if_pos (by decide +kernel)]; kernel_rfl) | (rw [if_neg (by decide +kernel)]; exact ⟨rfl, rfl⟩))
    (fun os started H enc _ => lifted os started H enc)

theorem proved : Rows.CompactCopiesSaid := over
#print axioms proved
end Go.Proofs.Ytmjnoiajenoinaa.compactCopies
end
