/- A part of the proof. -/
import Derived.Test.YtjbkckcjmmmooaaRows
import Derived.Test.YtjbkckcjmmmooaaG17
section
/- 'UpdateCommutes': the law returns true for every input, and its arguments read afterwards as they read before. -/
namespace Go.Proofs.Ytjbkckcjmmmooaa.updateCommutes
open Go.ChangeShapes Go.WideShapes Go.ChangeAt Go.RowKit Sx

set_option maxRecDepth 100000 in
theorem lifted (os : Os) (started : os.Started) (H : Type) (enc : TypeId × Value → H) :
    ReturnsInHanded {} Try.checked os 5 .any (Rows.updateCommutesSpec.pre6 enc Try.prog Try.f5 Rows.updateCommutesRow.domain false) (Rows.updateCommutesSpec.post enc Try.prog Try.f5 false true false false) := by
  refine returnsInHanded_of_change (C := Try.checked) ownK started (by kernel_rfl) Try.func5
    (ChangeSpec.witness6 (enc := enc) (C := Try.checked) false ⟨#[], #[.slice none 0 0, .int .u64 0, .agg #[.int .i64 0, .int .i64 0], .agg #[.int .i64 0, .int .i64 0], .int .i64 0], []⟩ 8 (by kernel_rfl) (by kernel_rfl) (by kernel_rfl) (by kernel_rfl)) ?_
  intro W base args ds gs before hval0 hW hcnd _
  have hval : ∀ (j : Nat) t v, Try.f5.params[j]? = some t → args[j]? = some v → Value.okWide Try.prog W .any base t v := hval0
  have hW' := hW
  obtain ⟨p, q, hA0, hV, rfl, hfz, hnd⟩ := hW
  have hA : DataW.TrodAll enc Try.prog W 0 (fun _ => true) true Try.f5.params.toList args.toList ds p := hA0
  rw [Try.params5] at hA hval
  obtain ⟨v0, vs0, d0, ds0, p0, q0, hargs, rfl, rfl, h0, r0⟩ := trodAll_cons hA
  obtain ⟨v1, vs1, d1, ds1, p1, q1, rfl, rfl, rfl, h1, r1⟩ := trodAll_cons r0
  obtain ⟨v2, vs2, d2, ds2, p2, q2, rfl, rfl, rfl, h2, r2⟩ := trodAll_cons r1
  obtain ⟨v3, vs3, d3, ds3, p3, q3, rfl, rfl, rfl, h3, r3⟩ := trodAll_cons r2
  obtain ⟨v4, vs4, d4, ds4, p4, q4, rfl, rfl, rfl, h4, r4⟩ := trodAll_cons r3
  obtain ⟨rfl, rfl, rfl⟩ := trodAll_nil r4
  obtain rfl : args = #[v0, v1, v2, v3, v4] := by cases args; simp_all
  obtain ⟨rfl, rfl⟩ := trodVars_none hV
  have k0 := h0
  have k1 := h1
  have k2 := h2
  have k3 := h3
  have k4 := h4
  clear hA0 hval0
  simp only [List.append_nil] at hW'
  have hlt : ∀ x ∈ p0 ++ (p1 ++ (p2 ++ (p3 ++ (p4)))), x.block < W.heap.size := fun x hx => by simpa using hW'.lt x (by simpa using hx)
  have l0 : ∀ x ∈ p0, x.block < W.heap.size := fun x hx => hlt x (by simp [hx])
  have l1 : ∀ x ∈ p1, x.block < W.heap.size := fun x hx => hlt x (by simp [hx])
  have l2 : ∀ x ∈ p2, x.block < W.heap.size := fun x hx => hlt x (by simp [hx])
  have l3 : ∀ x ∈ p3, x.block < W.heap.size := fun x hx => hlt x (by simp [hx])
  have l4 : ∀ x ∈ p4, x.block < W.heap.size := fun x hx => hlt x (by simp [hx])
  obtain ⟨L0, R0⟩ := openE (hval 0 24 v0 rfl rfl) h0
  obtain ⟨a1, rfl, rfl, rfl, w1⟩ := open_int Try.underlying22 (hval 1 22 v1 rfl rfl) h1
  have b1 := lit_u64 w1
  obtain ⟨x2, y2, rfl, B2⟩ := open_e (hval 2 26 v2 rfl rfl) h2
  obtain ⟨x3, y3, rfl, B3⟩ := open_e (hval 3 26 v3 rfl rfl) h3
  obtain ⟨a4, rfl, rfl, rfl, w4⟩ := open_int Try.underlying3 (hval 4 3 v4 rfl rfl) h4
  have b4 := lit_i64 w4
  refine (lawOf s_um (args := [.at (.slc 0), .at (.val (.int .u64 a1)), .agg [.val (.int .i64 x2), .val (.int .i64 y2)], .agg [.val (.int .i64 x3), .val (.int .i64 y3)], .at (.val (.int .i64 a4))]) (H := [Chunk.row false EC.ent L0]) (vs := [v0, .int .u64 a1, .agg #[.int .i64 x2, .int .i64 y2], .agg #[.int .i64 x3, .int .i64 y3], .int .i64 a4]) (σ := fun n => [v0].getD n undef) (w := W) (fun K h => ⟨b1.1, h⟩)
    (Sat.imms [v0] _ fun n c hc => by match n, hc with | 0, hc => exact ⟨_, _, (Option.some.inj hc).symm, R0⟩ | n + 1, hc => simp at hc) (Rels.cons rfl (Rels.cons rfl (Rels.cons ⟨_, rfl, Rels.cons rfl (Rels.cons rfl Rels.nil)⟩ (Rels.cons ⟨_, rfl, Rels.cons rfl (Rels.cons rfl Rels.nil)⟩ (Rels.cons rfl Rels.nil))))) (by simp [TV.names, At.names])).mono fun e W' ⟨he, hg⟩ => ?_
  subst he
  exact ⟨_, rfl, _, _, _, [] ++ [], _, [], hW', (trodAll_cons_mk (shut_bool Try.underlying4 true) trodAll_mk0), (trodAll_cons_mk (Below.trod laidO (by kernel_rfl) (of_decide_eq_true (by kernel_rfl)) k0 hg l0) (trodAll_cons_mk (Below.trod laidO (by kernel_rfl) (of_decide_eq_true (by kernel_rfl)) k1 hg l1) (trodAll_cons_mk (Below.trod laidO (by kernel_rfl) (of_decide_eq_true (by kernel_rfl)) k2 hg l2) (trodAll_cons_mk (Below.trod laidO (by kernel_rfl) (of_decide_eq_true (by kernel_rfl)) k3 hg l3) (trodAll_cons_mk (Below.trod laidO (by kernel_rfl) (of_decide_eq_true (by kernel_rfl)) k4 hg l4) trodAll_mk0))))), rfl, hg.frame _, fun h => by cases h⟩

theorem over : Rows.updateCommutesRow.holds Try.pinned (OpenSpec.ofChange Rows.updateCommutesSpec) :=
  OpenClaim.holds_of_wide 5 Try.f5 rfl rfl rfl rfl rfl rfl rfl ⟨rfl, rfl, rfl, rfl, rfl⟩ rfl rfl rfl rfl rfl (by kernel_rfl) Try.func5 (by kernel_rfl)
    (of_decide_eq_true (by kernel_rfl)) (by unfold Func.isWrapper; first | (rw [if_pos (by decide +kernel)]; kernel_rfl) | (rw [if_neg (by decide +kernel)]; exact ⟨rfl, rfl⟩))
    (fun os started H enc _ => lifted os started H enc)

theorem proved : Rows.UpdateCommutesSaid := over
#print axioms proved
end Go.Proofs.Ytjbkckcjmmmooaa.updateCommutes
end
