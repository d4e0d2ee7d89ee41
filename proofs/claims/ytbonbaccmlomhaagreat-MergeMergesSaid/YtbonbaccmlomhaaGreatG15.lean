/- A part of the proof. -/
import Derived.Test.YtbonbaccmlomhaaGreatG4
import Derived.Test.YtbonbaccmlomhaaGreatG14
import Derived.Deep.Slices
import Derived.Lib.SmallJoins
import Derived.Deep.Strs
import Derived.Test.YtbonbaccmlomhaaGreatRows
section
/- From contracts to laws: the arguments as they come, what a law's call leaves. -/
namespace Go.Proofs.YtbonbaccmlomhaaGreat.Sx
open Go Go.Joins Go.ChangeShapes Go.WideShapes Go.ChangeAt Go.RowKit

theorem Sat.imms {C : Ctx} {w : World} (vs : List Value) (H : List (Chunk C)) (h : ∀ (n : Nat) (c : Chunk C), H[n]? = some c → ∃ e l, c = .row false e l ∧ Imm C w (vs.getD n undef) e l) : Sat C (fun n => vs.getD n undef) (fun _ _ => False) w H where
  holds n c hc := by
    obtain ⟨e, l, rfl, hi⟩ := h n c hc
    exact ⟨hi, fun _ hh => hh⟩
  dis _ _ _ hh := hh.elim
  bd _ _ hh := hh.elim
  imm _ _ _ _ _ _ _ _ hh := hh
  out _ _ _ hh := hh
  cl n c hc m hm := by
    obtain ⟨e, l, rfl, _⟩ := h n c hc
    simp [Chunk.names] at hm

theorem lawOf {f : FuncId} {t : Tfm C0} (hs : SoundT C0 f t) {args : List TV} {H : List (Chunk C0)} {vs : List Value} {σ : Nat → Value} {w : World} (ht : ∀ K : KT, K (.one (.at (vB true))) H [] → t args H K)
    (hsat : Sat C0 σ (fun _ _ => False) w H) (hr : Rels (TV.rel σ) args vs) (hn : ∀ x ∈ args, ∀ m ∈ x.names, m < H.length) : Calls Tryz.prog f vs.toArray w (fun e w' => e = .returned (.bool true) ∧ Below w.heap.size w w') := by
  have hc := hs.call args H (fun r _ _ => r = .one (.at (vB true))) (ht _ rfl) σ _ w vs hsat hr hn
  refine Calls.mono hc fun e w' hh => ?_
  cases e with
  | panicked ch => exact hh.elim
  | outgrown => exact hh.elim
  | returned v =>
    obtain ⟨r, H', ts, σ', φ', hout, rfl⟩ := hh
    have hv : v = .bool true := hout.rel
    exact ⟨by rw [hv], hout.adv.os, hout.adv.tape, hout.adv.output, hout.adv.size, fun k hk => hout.adv.fr k hk fun n hh => hh⟩

section
variable {HH : Type} {enc : TypeId × Value → HH} {P : Program} {w : World} {base b0 : Nat} {spare : Nat → Bool} {held : Bool} {r : Reach}
theorem openRowQ {α : Type} [Inhabited α] {t e : TypeId} {f : α → List Value} {Q : α → Prop} {sz : Nat} {v : Value} {d : DataW HH} {p : List MemPlace} (ht : P.underlying t = some (.slice e)) (hC : P.cellsOf e = sz) (hpos : 0 < sz) (hf : ∀ x, (f x).length = sz)
    (hel : ∀ {n : Nat} {cs : List Value} {x : DataW HH × List MemPlace}, DataW.trod enc P w base spare held n e cs = some x → ∃ a, cs = f a ∧ Q a) (hv : Value.okWide P w r b0 t v) (h : DataW.Trod enc P w base spare held t v d p) :
    ∃ A n c l, v = .slice A n c ∧ Rd f sz w A n c l ∧ ∀ x ∈ l, Q x := by
  obtain ⟨A, n, c, rfl⟩ := okWide_slice ht hv
  obtain ⟨fuel, hh⟩ := h
  have hh : DataW.trod enc P w base spare held fuel t [.slice A n c] = some (d, p) := by simpa [Value.cells] using hh
  rcases Go.Deep.open_slice ht hh with ⟨h1, _⟩ | ⟨a, len, cap, m, k, D, Pl, h1, hb, hle, hm, hmm, hx, hall⟩
  · simp only [List.cons.injEq, Value.slice.injEq, and_true] at h1
    obtain ⟨rfl, rfl, rfl⟩ := h1
    exact ⟨none, 0, 0, [], rfl, Rd.nil hf, fun x hx => by simp at hx⟩
  · simp only [List.cons.injEq, Value.slice.injEq, and_true] at h1
    obtain ⟨rfl, rfl, rfl⟩ := h1
    have hlm : n ≤ m := by rw [hmm]; split <;> omega
    have hel' : ∀ i, i < n → ∃ x : α, w.cells? base (a.add (i * P.cellsOf e)) (P.cellsOf e) = some (f x) ∧ Q x := fun i hi => by
      obtain ⟨cs', hc1, hc2⟩ := hall i (by omega)
      obtain ⟨x, rfl, hq⟩ := hel hc2
      exact ⟨x, hc1, hq⟩
    obtain ⟨F, hF⟩ := Go.Deep.choose_lt hel'
    have cell : ∀ i, i < n → ∀ j, j < sz → w.cell? ((a.add (i * sz)).add j) = (f (F i))[j]? := fun i hi j hj => by
      have h2 := (hF i hi).1
      rw [hC] at h2
      unfold World.cells? at h2
      split at h2
      · exact mapM_some_get h2 j j (by simp [hj])
      · cases h2
    refine ⟨some a, n, c, (List.range n).map F, rfl, ⟨by simp, hle, hm, hf, fun h => (by cases h), fun hn => ?_⟩, fun x hx => by obtain ⟨i, hi, rfl⟩ := List.mem_map.1 hx; exact (hF i (List.mem_range.1 hi)).2⟩
    obtain ⟨b, o, sp⟩ := a
    have hsome : ∀ i, i < n → ∀ j, j < sz → ∃ u, w.cell? (((⟨b, o, sp⟩ : Addr).add (i * sz)).add j) = some u := fun i hi j hj => by
      rw [cell i hi j hj]
      exact ⟨_, List.getElem?_eq_getElem (by rw [hf]; exact hj)⟩
    obtain ⟨u0, hu0⟩ := hsome 0 hn 0 hpos
    have hspot : sp = none := by simpa [Addr.add] using World.cell?_spot hu0
    subst hspot
    refine ⟨b, o, rfl, ?_, fun k x hx j u hu => ?_⟩
    · have hu1 : w.cell? ⟨b, o, none⟩ = some u0 := by simpa [Addr.add] using hu0
      unfold World.cell? at hu1
      split at hu1
      · rename_i hb2
        exact (Array.getElem?_eq_some_iff.1 hb2).1
      · cases hu1
    · rw [List.getElem?_map] at hx
      have hk : k < n := by
        rcases Nat.lt_or_ge k n with h2 | h2
        · exact h2
        · rw [List.getElem?_eq_none (by simpa using h2)] at hx; cases hx
      rw [List.getElem?_range hk] at hx
      simp only [Option.map_some, Option.some.injEq] at hx
      subst hx
      have hj : j < sz := by
        have := (List.getElem?_eq_some_iff.1 hu).1
        rwa [hf] at this
      have h3 := cell k hk j hj
      rw [hu] at h3
      rw [← h3]
      congr 1
      rw [Go.WideShapes.add_plain, Go.WideShapes.add_plain]
end

section
variable {HH : Type} {enc : TypeId × Value → HH} {w : World} {base b0 : Nat} {spare : Nat → Bool} {held : Bool} {r : Reach}
set_option maxRecDepth 100000 in
theorem elEw {n : Nat} {cs : List Value} {x : DataW HH × List MemPlace} (h : DataW.trod enc Tryz.prog w base spare held n 68 cs = some x) :
    ∃ a : Ent, cs = EC.enc .ent a ∧ ((-9223372036854775808 ≤ a.1 ∧ a.1 ≤ 9223372036854775807) ∧ (-9223372036854775808 ≤ a.2 ∧ a.2 ≤ 9223372036854775807)) := by
  obtain ⟨y0, y1, m, _, hl, h0, h1⟩ := trod_struct2 Tryz.underlying68 h
  obtain ⟨k, e0, _, w0⟩ := DataW.trod_int Tryz.underlying2 h0
  obtain ⟨v, e1, _, w1⟩ := DataW.trod_int Tryz.underlying2 h1
  have hl : cs.length = 2 := hl.trans (by kernel_rfl)
  have c1 : Tryz.prog.cellsOf 2 = 1 := by kernel_rfl
  match cs, hl with
  | [a, b], _ =>
    simp [c1] at e0 e1
    exact ⟨(k, v), by rw [e0, e1]; rfl, lit_i64 w0, lit_i64 w1⟩
set_option maxRecDepth 100000 in
/-- The same with what the entries' numbers are. -/
theorem openEw {v : Value} {d : DataW HH} {p : List MemPlace} (hv : Value.okWide Tryz.prog w r b0 22 v) (h : DataW.Trod enc Tryz.prog w base spare held 22 v d p) :
    ∃ (l : List Ent), Imm C0 w v EC.ent l ∧ ∀ x ∈ l, (-9223372036854775808 ≤ x.1 ∧ x.1 ≤ 9223372036854775807) ∧ (-9223372036854775808 ≤ x.2 ∧ x.2 ≤ 9223372036854775807) := by
  obtain ⟨A, n, c, l, rfl, hr, hq⟩ := openRowQ (α := Ent) (f := fun x => EC.enc .ent x) (sz := 2) Tryz.underlying22 (by kernel_rfl) (by decide) (fun _ => rfl) (fun h => elEw h) hv h
  obtain rfl := hr.len
  exact ⟨l, ⟨A, c, rfl, hr⟩, hq⟩
instance : Inhabited Chg := ⟨⟨0, 0, 0, 0⟩⟩
end
end Go.Proofs.YtbonbaccmlomhaaGreat.Sx
end
section
/- Opening an argument that is a slice of edits (merge). -/
namespace Go.Proofs.YtbonbaccmlomhaaGreat.Sx
open Go Go.Joins Go.ChangeShapes Go.WideShapes Go.ChangeAt Go.RowKit

section
variable {HH : Type} {enc : TypeId × Value → HH} {w : World} {base b0 : Nat} {spare : Nat → Bool} {held : Bool} {r : Reach}
set_option maxRecDepth 100000 in
theorem elF {n : Nat} {cs : List Value} {x : DataW HH × List MemPlace} (h : DataW.trod enc Tryz.prog w base spare held n 107 cs = some x) : ∃ a : EdtT, cs = EC.enc .edm a ∧ ((-9223372036854775808 ≤ a.ent.1 ∧ a.ent.1 ≤ 9223372036854775807) ∧ (-9223372036854775808 ≤ a.ent.2 ∧ a.ent.2 ≤ 9223372036854775807)) := by
  obtain ⟨y0, y1, y2, m, _, hl, h0, h1, h2⟩ := Go.Deep.trod_struct3 Tryz.underlying107 h
  obtain ⟨k, e0, _⟩ := DataW.trod_bool Tryz.underlying4 h0
  obtain ⟨v, e1, _⟩ := DataW.trod_int Tryz.underlying3 h1
  obtain ⟨s, e2, q2⟩ := elEw h2
  have hl : cs.length = 4 := hl.trans (by kernel_rfl)
  have c1 : Tryz.prog.cellsOf 4 = 1 := by kernel_rfl
  have c2 : Tryz.prog.cellsOf 3 = 1 := by kernel_rfl
  have c3 : Tryz.prog.cellsOf 68 = 2 := by kernel_rfl
  match cs, hl with
  | [a, b, c, d], _ =>
    simp [c1, c2, c3] at e0 e1 e2
    have e2 : [c, d] = [Value.int .i64 s.1, Value.int .i64 s.2] := e2
    simp only [List.cons.injEq, and_true] at e2
    exact ⟨⟨k, v, s⟩, by rw [e0, e1, e2.1, e2.2]; rfl, q2⟩
instance : Inhabited EdtT := ⟨⟨false, 0, (0, 0)⟩⟩
set_option maxRecDepth 100000 in
theorem openF {v : Value} {d : DataW HH} {p : List MemPlace} (hv : Value.okWide Tryz.prog w r b0 24 v) (h : DataW.Trod enc Tryz.prog w base spare held 24 v d p) :
    ∃ (l : List EdtT), Imm C0 w v EC.edm l ∧ ∀ x ∈ l, (-9223372036854775808 ≤ x.ent.1 ∧ x.ent.1 ≤ 9223372036854775807) ∧ (-9223372036854775808 ≤ x.ent.2 ∧ x.ent.2 ≤ 9223372036854775807) := by
  obtain ⟨A, n, c, l, rfl, hr, hq⟩ := openRowQ (α := EdtT) (f := fun x => EC.enc .edm x) (sz := 4) Tryz.underlying24 (by kernel_rfl) (by decide) (fun _ => rfl) (fun h => elF h) hv h
  obtain rfl := hr.len
  exact ⟨l, ⟨A, c, rfl, hr⟩, hq⟩
end
end Go.Proofs.YtbonbaccmlomhaaGreat.Sx
end
section
/- 'MergeMerges': the law returns true for every input, and its arguments read afterwards as they read before. -/
namespace Go.Proofs.YtbonbaccmlomhaaGreat.mergeMerges
open Go.ChangeShapes Go.WideShapes Go.ChangeAt Go.RowKit Sx

set_option maxRecDepth 100000 in
theorem lifted (os : Os) (started : os.Started) (H : Type) (enc : TypeId × Value → H) :
    ReturnsInHanded {} Tryz.checked os 3 .any (Rows.mergeMergesSpec.pre6 enc Tryz.prog Tryz.f3 Rows.mergeMergesRow.domain false) (Rows.mergeMergesSpec.post enc Tryz.prog Tryz.f3 false true false false) := by
  refine returnsInHanded_of_change (C := Tryz.checked) ownK started (by kernel_rfl) Tryz.func3
    (ChangeSpec.witness6 (enc := enc) (C := Tryz.checked) false ⟨#[], #[.slice none 0 0, .int .u64 0, .slice none 0 0, .slice none 0 0, .int .i64 0, .int .u16 0], []⟩ 8 (by kernel_rfl) (by kernel_rfl) (by kernel_rfl) (by kernel_rfl)) ?_
  intro W base args ds gs before hval0 hW hcnd _
  have hval : ∀ (j : Nat) t v, Tryz.f3.params[j]? = some t → args[j]? = some v → Value.okWide Tryz.prog W .any base t v := hval0
  have hW' := hW
  obtain ⟨p, q, hA0, hV, rfl, hfz, hnd⟩ := hW
  have hA : DataW.TrodAll enc Tryz.prog W 0 (fun _ => true) true Tryz.f3.params.toList args.toList ds p := hA0
  rw [Tryz.params3] at hA hval
  obtain ⟨v0, vs0, d0, ds0, p0, q0, hargs, rfl, rfl, h0, r0⟩ := trodAll_cons hA
  obtain ⟨v1, vs1, d1, ds1, p1, q1, rfl, rfl, rfl, h1, r1⟩ := trodAll_cons r0
  obtain ⟨v2, vs2, d2, ds2, p2, q2, rfl, rfl, rfl, h2, r2⟩ := trodAll_cons r1
  obtain ⟨v3, vs3, d3, ds3, p3, q3, rfl, rfl, rfl, h3, r3⟩ := trodAll_cons r2
  obtain ⟨v4, vs4, d4, ds4, p4, q4, rfl, rfl, rfl, h4, r4⟩ := trodAll_cons r3
  obtain ⟨v5, vs5, d5, ds5, p5, q5, rfl, rfl, rfl, h5, r5⟩ := trodAll_cons r4
  obtain ⟨rfl, rfl, rfl⟩ := trodAll_nil r5
  obtain rfl : args = #[v0, v1, v2, v3, v4, v5] := by cases args; simp_all
  obtain ⟨rfl, rfl⟩ := trodVars_none hV
  have k0 := h0
  have k1 := h1
  have k2 := h2
  have k3 := h3
  have k4 := h4
  have k5 := h5
  clear hA0 hval0
  simp only [List.append_nil] at hW'
  have hlt : ∀ x ∈ p0 ++ (p1 ++ (p2 ++ (p3 ++ (p4 ++ (p5))))), x.block < W.heap.size := fun x hx => by simpa using hW'.lt x (by simpa using hx)
  have l0 : ∀ x ∈ p0, x.block < W.heap.size := fun x hx => hlt x (by simp [hx])
  have l1 : ∀ x ∈ p1, x.block < W.heap.size := fun x hx => hlt x (by simp [hx])
  have l2 : ∀ x ∈ p2, x.block < W.heap.size := fun x hx => hlt x (by simp [hx])
  have l3 : ∀ x ∈ p3, x.block < W.heap.size := fun x hx => hlt x (by simp [hx])
  have l4 : ∀ x ∈ p4, x.block < W.heap.size := fun x hx => hlt x (by simp [hx])
  have l5 : ∀ x ∈ p5, x.block < W.heap.size := fun x hx => hlt x (by simp [hx])
  obtain ⟨L0, R0, Q0⟩ := openEw (hval 0 22 v0 rfl rfl) h0
  obtain ⟨a1, rfl, rfl, rfl, w1⟩ := open_int Tryz.underlying23 (hval 1 23 v1 rfl rfl) h1
  have b1 := lit_u64 w1
  obtain ⟨L2, R2, Q2⟩ := openF (hval 2 24 v2 rfl rfl) h2
  obtain ⟨L3, R3, Q3⟩ := openF (hval 3 24 v3 rfl rfl) h3
  obtain ⟨a4, rfl, rfl, rfl, w4⟩ := open_int Tryz.underlying3 (hval 4 3 v4 rfl rfl) h4
  have b4 := lit_i64 w4
  obtain ⟨a5, rfl, rfl, rfl, w5⟩ := open_int Tryz.underlying25 (hval 5 25 v5 rfl rfl) h5
  have b5 := lit_u16 w5
  refine (lawOf s_my (args := [.at (.slc 0), .at (.val (.int .u64 a1)), .at (.slc 1), .at (.slc 2), .at (.val (.int .i64 a4)), .at (.val (.int .u16 a5))]) (H := [Chunk.row false EC.ent L0, Chunk.row false EC.edm L2, Chunk.row false EC.edm L3]) (vs := [v0, .int .u64 a1, v2, v3, .int .i64 a4, .int .u16 a5]) (σ := fun n => [v0, v2, v3].getD n undef) (w := W) (fun K h => ⟨b1.1, b5.1, b5.2, fun x hx => (Q0 x hx).1, fun x hx => (Q2 x hx).1, fun x hx => (Q3 x hx).1, h⟩)
    (Sat.imms [v0, v2, v3] _ fun n c hc => by match n, hc with | 0, hc => exact ⟨_, _, (Option.some.inj hc).symm, R0⟩ | 1, hc => exact ⟨_, _, (Option.some.inj hc).symm, R2⟩ | 2, hc => exact ⟨_, _, (Option.some.inj hc).symm, R3⟩ | n + 3, hc => simp at hc) (Rels.cons rfl (Rels.cons rfl (Rels.cons rfl (Rels.cons rfl (Rels.cons rfl (Rels.cons rfl Rels.nil)))))) (by simp [TV.names, At.names])).mono fun e W' ⟨he, hg⟩ => ?_
  subst he
  exact ⟨_, rfl, _, _, _, [] ++ [], _, [], hW', (trodAll_cons_mk (shut_bool Tryz.underlying4 true) trodAll_mk0), (trodAll_cons_mk (Below.trod laidO (by kernel_rfl) (of_decide_eq_true (by kernel_rfl)) k0 hg l0) (trodAll_cons_mk (Below.trod laidO (by kernel_rfl) (of_decide_eq_true (by kernel_rfl)) k1 hg l1) (trodAll_cons_mk (Below.trod laidO (by kernel_rfl) (of_decide_eq_true (by kernel_rfl)) k2 hg l2) (trodAll_cons_mk (Below.trod laidO (by kernel_rfl) (of_decide_eq_true (by kernel_rfl)) k3 hg l3) (trodAll_cons_mk (Below.trod laidO (by kernel_rfl) (of_decide_eq_true (by kernel_rfl)) k4 hg l4) (trodAll_cons_mk (Below.trod laidO (by kernel_rfl) (of_decide_eq_true (by kernel_rfl)) k5 hg l5) trodAll_mk0)))))), rfl, hg.frame _, fun h => by cases h⟩

theorem over : Rows.mergeMergesRow.holds Tryz.pinned (OpenSpec.ofChange Rows.mergeMergesSpec) :=
  OpenClaim.holds_of_wide 3 Tryz.f3 rfl rfl rfl rfl rfl rfl rfl ⟨rfl, rfl, rfl, rfl, rfl⟩ rfl rfl rfl rfl rfl (by kernel_rfl) Tryz.func3 (by kernel_rfl)
    (of_decide_eq_true (by kernel_rfl)) (by unfold Func.isWrapper; first | (rw [if_pos (by decide +kernel)]; kernel_rfl) | (rw [if_neg (by decide +kernel)]; exact ⟨rfl, rfl⟩))
    (fun os started H enc _ => lifted os started H enc)

theorem proved : Rows.MergeMergesSaid := over
#print axioms proved
end Go.Proofs.YtbonbaccmlomhaaGreat.mergeMerges
end
