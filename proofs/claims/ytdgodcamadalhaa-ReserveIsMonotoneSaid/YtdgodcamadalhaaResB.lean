/- Contracts of shape.MaxHeight, versionmapref7.MaxHeight and versionmapref7.weights. -/
import Derived.Test.YtdgodcamadalhaaResA
import Derived.Test.YtdgodcamadalhaaProg
import Derived.WalkKit
import Derived.ProofKit
import Derived.OpenShut
import Derived.Handy
import Derived.Lib.Hide
import Derived.BigQuiet
import Derived.Laws.CopyOwn
import Derived.Deep.DeepCutAuto
import Derived.Deep.QuietTactic
namespace Go.Proofs.Ytdgodcamadalhaa
open Go.RowKit Hts

set_option maxHeartbeats 400000 in
theorem MaxHeight_any (k : Int) (w : World) (h0 : 0 ≤ k) (h1 : k ≤ 2147483647) :
    Calls Try.prog 76 #[.int .i64 k] w fun e w' => e = .returned (.int .i64 (mh k.toNat)) ∧ w = w' := by
  obtain ⟨n, rfl⟩ := Int.eq_ofNat_of_zero_le h0
  rw [Int.toNat_natCast]
  go_enter Try.func76, Try.ntmps76
  go_wp2
  go_loop [3, 4] (fun h v => ∃ j : Nat, j ≤ 80 ∧ wt j ≤ n + 1 ∧ h = .int .i64 j ∧ v = .int .i64 (wt j)) (fun h _ => 80 - (intOf h).toNat)
  case atStart => exact ⟨0, by omega, by simp [wt], rfl, rfl⟩
  case round =>
    obtain ⟨j, hj, hw, rfl, rfl⟩ := hrel
    have hb := wt_le hj
    have hp := wt_pos j
    by_cases hlt : j < 80
    · have HS := Lib.hid (show (wt (j + 1) : Int) = wt j + (wt j + 2) / 3 by simp only [wt]; omega)
      by_cases hc : wt (j + 1) ≤ n + 1
      · have h2 : ¬ ((n : Int) < wt j + (wt j + 2) / 3 - 1) := by have := HS.out; omega
        go_wp2
        exact ⟨⟨j + 1, by omega, hc, by go_num, by rw [HS.out]⟩, by simp [intOf]; omega⟩
      · have h2 : (n : Int) < wt j + (wt j + 2) / 3 - 1 := by have := HS.out; omega
        have hm := Lib.hid (mh_of (k := n) hj hw (.inr (by omega)))
        go_wp2
        go_ret
        exact ⟨by rw [hm.out]; rfl, rfl⟩
    · obtain rfl : j = 80 := by omega
      have hm := Lib.hid (mh_of (k := n) hj hw (.inl rfl))
      go_wp2
      go_ret
      exact ⟨by rw [hm.out]; rfl, rfl⟩

def tab (j : Nat) : Array Value := ((List.range 81).map fun h => Value.int .i64 (if h < j then wt h else 0)).toArray

theorem tab_get (j h : Nat) (hh : h < 81) : (tab j)[h]? = some (.int .i64 (if h < j then wt h else 0)) := by
  simp [tab, hh]

theorem tab_succ (j : Nat) (hj : j < 81) : (tab j).setIfInBounds j (.int .i64 (wt j)) = tab (j + 1) := by
  apply Array.ext_getElem?
  intro i
  rw [Array.getElem?_setIfInBounds]
  by_cases hi : i < 81
  · rw [tab_get _ _ hi, tab_get _ _ hi]
    by_cases e : j = i
    · subst e; simp [tab, hj]
    · simp only [e, if_false]
      by_cases h2 : i < j
      · simp [h2, show i < j + 1 by omega]
      · simp [h2, show ¬ i < j + 1 by omega]
  · have e1 : (tab j)[i]? = none := by simp [tab]; omega
    have e2 : (tab (j + 1))[i]? = none := by simp [tab]; omega
    rw [e1, e2]
    simp [show j ≠ i by omega]

theorem tab_size (j : Nat) : (tab j).size = 81 := by simp [tab]

set_option maxRecDepth 100000 in
set_option maxHeartbeats 400000 in
theorem weights_any (w : World) :
    Calls Try.prog 79 #[] w fun e w' => e = .returned (.agg (tab 81)) ∧ Below w.heap.size w w' := by
  go_enter Try.func79, Try.ntmps79
  have hz := Lib.hid (show Try.zeroCells82.setIfInBounds 0 (.int .i64 1) = tab 1 by kernel_rfl)
  go_wp2
  rw [hz.out]
  go_loopw [2] (fun h wr => ∃ j : Nat, 1 ≤ j ∧ j ≤ 81 ∧ h = .int .i64 j ∧ wr.heap[w.heap.size + 1]? = some (.cells (tab j) 82 (0, 0)) ∧ wr.heap[w.heap.size]? = some (.cells Try.zeroCells82 82 (0, 0)) ∧ wr.heap.size = w.heap.size + 2 ∧ Below w.heap.size w wr)
    (fun h _ => 81 - (intOf h).toNat)
  case atStart => exact ⟨1, by omega, by omega, rfl, heap_alloc2_new _ _ _, heap_alloc2_old _ _ _, by simp, ((Below.refl _ _).alloc (Nat.le_refl _) _).alloc (by simp) _⟩
  case round =>
    obtain ⟨j, hj1, hj2, rfl, hb1, hb0, hsz, hbl⟩ := hrel
    obtain ⟨i, rfl⟩ : ∃ i, j = i + 1 := ⟨j - 1, by omega⟩
    by_cases hlt : i + 1 ≤ 80
    · have HS := Lib.hid (show (wt (i + 1) : Int) = wt i + (wt i + 2) / 3 by simp only [wt]; omega)
      have hw := wt_le (show i ≤ 80 by omega)
      have hp := wt_pos i
      have c0 : wr.cell? ⟨w.heap.size + 1, i, none⟩ = some (.int .i64 (wt i)) := by
        rw [cell_of_row _ _ _ _ _ _ hb1, tab_get _ _ (by omega)]; simp
      have c1 : wr.cell? ⟨w.heap.size + 1, i + 1, none⟩ = some (.int .i64 0) := by
        rw [cell_of_row _ _ _ _ _ _ hb1, tab_get _ _ (by omega)]; simp
      have f1 : wr.frozen? ⟨w.heap.size + 1, i + 1, none⟩ = false := frozen_of_row _ _ _ _ _ hb1
      have Hb1 := Lib.hid hb1
      have Hb0 := Lib.hid hb0
      have Hsz := Lib.hid hsz
      clear hb1 hb0 hsz
      have HT := Lib.hid (tab_succ (i + 1) (by omega))
      go_wp2
      go_region
      go_wp2
      refine ⟨⟨i + 1 + 1, by omega, by omega, by go_num, ?_, ?_, ?_, ?_⟩, by simp [intOf]; omega⟩
      · show (wr.setCell _ _).heap[_]? = _
        rw [heap_setCell_same _ _ _ _ _ _ Hb1.out, ← HT.out, HS.out]
      · show (wr.setCell _ _).heap[_]? = _
        rw [heap_setCell_other _ _ _ _ (by simp)]; exact Hb0.out
      · show (wr.setCell _ _).heap.size = _
        rw [World.size_setCell]; exact Hsz.out
      · exact (hbl.setCell (p := ⟨w.heap.size + 1, i + 1, none⟩) (by simp) _).drew
    · obtain rfl : i = 80 := by omega
      have H81 := Lib.hid (show (tab 81).all (·.oneCell') = true by decide +kernel)
      have HI := Lib.hid (show (Try.prog.info? 82).map (·.size) = some (tab 81).size by rw [tab_size]; kernel_rfl)
      have Hb1 := Lib.hid hb1
      have Hb0 := Lib.hid hb0
      have HZ := Lib.hid (show Try.zeroCells82.size = (tab 81).size by rw [tab_size]; kernel_rfl)
      clear hb1 hb0
      go_upto_region 7 with (fail)
      go_wp2_with (with_reducible refine wpList_load_row (o := ⟨some 21, _, _, _, _, _⟩) rfl 82 (.tmp 1) rfl (w.heap.size + 1) rfl 82 (tab 81) (0, 0) _ Hb1.out Try.underlying82 rfl HI.out ?_; refine wpList_store_row rfl 82 (.tmp 0) (.tmp 21) rfl w.heap.size (tab 81) rfl rfl 82 _ Hb0.out HI.out HZ.out H81.out ?_)
      have hg : (wr.setRow w.heap.size (tab 81)).heap[w.heap.size]? = some (.cells (tab 81) 82 (0, 0)) := by
        simp [World.setRow, Array.getElem?_modify, Hb0.out]
      refine bodyPost_ret (results_cell_row rfl _ _ w.heap.size 82 (tab 81) (0, 0) _ (by simp [Act.put]) hg Try.underlying82 rfl HI.out) rfl ⟨rfl, ?_⟩
      exact hbl.trans ⟨rfl, rfl, rfl, by simp, fun k hk => by simp [World.setRow, Array.getElem?_modify, show w.heap.size ≠ k by omega]⟩

theorem tab_cell {W : World} {g h : Nat} (hg : W.heap[g]? = some (.cells (tab 81) 82 (0, 0))) (hh : h ≤ 80) : W.cell? ⟨g, h, none⟩ = some (.int .i64 (wt h)) := by
  rw [cell_of_row _ _ _ _ _ _ hg, tab_get _ _ (by omega)]; simp [show h < 81 by omega]

set_option maxRecDepth 100000 in
set_option maxHeartbeats 800000 in
theorem refMaxHeight_any (k : Int) (w : World) (h0 : 0 ≤ k) (h1 : k ≤ 2147483647) :
    Calls Try.prog 78 #[.int .i64 k] w fun e w' => e = .returned (.int .i64 (mh k.toNat)) ∧ Below w.heap.size w w' := by
  obtain ⟨n, rfl⟩ := Int.eq_ofNat_of_zero_le h0
  rw [Int.toNat_natCast]
  have H81 := Lib.hid (show (tab 81).all (·.oneCell') = true by decide +kernel)
  have HI := Lib.hid (show (Try.prog.info? 82).map (·.size) = some (tab 81).size by rw [tab_size]; kernel_rfl)
  have HZ := Lib.hid (show Try.zeroCells82.size = (tab 81).size by rw [tab_size]; kernel_rfl)
  go_enter Try.func78, Try.ntmps78
  go_wp2_with (first
    | (go_at_call 79; refine (weights_any _).mono ?_; rintro e w1 ⟨rfl, hb1⟩)
    | (with_reducible refine wpList_store_row (o := ⟨none, _, _, _, _, _⟩) rfl 82 (.tmp 3) (.tmp 11) rfl _ (tab 81) rfl rfl 82 Try.zeroCells82 (heap_alloc_new _ _) HI.out HZ.out H81.out ?_))
  obtain ⟨W2, hW2⟩ : ∃ W2 : World, W2 = (w1.alloc (Obj.cells Try.zeroCells82 82)).setRow w1.heap.size (tab 81) := ⟨_, rfl⟩
  have hg : W2.heap[w1.heap.size]? = some (.cells (tab 81) 82 (0, 0)) := by
    rw [hW2]; exact setRow_heap _ _ _ _ _ _ (heap_alloc_new _ _)
  have hbW := Lib.hid (show Below w.heap.size w W2 by
    rw [hW2]; exact hb1.trans (below_setRow ((Below.refl _ _).alloc hb1.size _) hb1.size _))
  rw [← hW2]
  clear hW2 hb1
  have Hg := Lib.hid hg
  clear hg
  go_loop [4] (fun h => ∃ j : Nat, j ≤ 80 ∧ wt j ≤ n + 1 ∧ h = .int .i64 j) (fun h => 80 - (intOf h).toNat)
  case atStart => exact ⟨0, by omega, by simp [wt], rfl⟩
  case round =>
    obtain ⟨j, hj, hw, rfl⟩ := hrel
    by_cases hlt : j < 80
    · have hb := wt_le (show j + 1 ≤ 80 by omega)
      have hp := wt_pos (j + 1)
      have c0 := tab_cell Hg.out (show j + 1 ≤ 80 by omega)
      by_cases hc : wt (j + 1) ≤ n + 1
      · have h2 : (wt (j + 1) : Int) - 1 ≤ (n : Int) := by omega
        go_wp2
        exact ⟨⟨j + 1, by omega, hc, by go_num⟩, by simp [intOf]; omega⟩
      · have h2 : (n : Int) < (wt (j + 1) : Int) - 1 := by omega
        have hm := Lib.hid (mh_of (k := n) hj hw (.inr (by omega)))
        go_wp2
        go_ret
        exact ⟨by rw [hm.out]; rfl, hbW.out⟩
    · obtain rfl : j = 80 := by omega
      have hm := Lib.hid (mh_of (k := n) hj hw (.inl rfl))
      go_wp2
      go_ret
      exact ⟨by rw [hm.out]; rfl, hbW.out⟩
end Go.Proofs.Ytdgodcamadalhaa
