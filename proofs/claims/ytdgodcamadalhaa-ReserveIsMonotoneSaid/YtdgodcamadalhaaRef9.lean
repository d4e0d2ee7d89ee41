/- Contracts of the reference's functions on lists of entries. -/
import Derived.Test.YtdgodcamadalhaaLib
import Derived.Test.YtdgodcamadalhaaIns
import Derived.Test.YtdgodcamadalhaaProg
namespace Go.Proofs.Ytdgodcamadalhaa
open Go.RowKit

set_option maxHeartbeats 400000 in
theorem ref9_Get (A : Option Addr) (n c : Nat) (l : List Ent) (q : Int) (w : World) (h : RdE w A n c l) :
    Calls Try.prog 30 #[.slice A n c, .int .i64 q] w fun e w' => e = .returned (.tuple #[.int .i64 ((getE l q).getD 0), .bool (getE l q).isSome]) ∧ w = w' := by
  have hm := h.max
  have hcap := h.cap
  have hl := Lib.hid h.len
  unfold maxLen at hm
  go_enter Try.func30, Try.ntmps30
  go_wp2
  go_loop [6] (fun i => ∃ k : Nat, k ≤ n ∧ i = .int .i64 k ∧ getE l q = getE (l.drop k) q) (fun i => n - (intOf i).toNat)
  case atStart => exact ⟨0, by omega, rfl, rfl⟩
  case round =>
    obtain ⟨k, hk, rfl, hg⟩ := hrel
    have Hg := Lib.hid hg
    clear hg
    by_cases hlt : k < n
    · obtain ⟨⟨a, b⟩, hx, hd, ht⟩ := get_some (l := l) (k := k) (by have := hl.out; omega)
      obtain ⟨bl, o, rfl, hb, c0, c1⟩ := h.cellsE hx
      have Hd := Lib.hid hd
      clear hx hd ht
      by_cases he : a = q
      · have HG := Lib.hid (show getE l q = some b by rw [Hg.out, Hd.out]; simp [getE, he])
        go_wp2
        go_ret2
        exact ⟨by rw [HG.out]; rfl, rfl⟩
      · have HG := Lib.hid (show getE l q = getE (l.drop (k + 1)) q by rw [Hg.out, Hd.out]; simp [getE, he])
        go_wp2
        exact ⟨⟨k + 1, by omega, by go_num, HG.out⟩, by simp [intOf]; omega⟩
    · have HG := Lib.hid (show getE l q = none by rw [Hg.out, List.drop_eq_nil_of_le (by have := hl.out; omega)]; rfl)
      go_wp2
      go_ret2
      exact ⟨by rw [HG.out]; rfl, rfl⟩

theorem infoE : (Try.prog.info? 48).map (fun i => (i.zero, i.size, i.bytes)) = some (some (.agg #[.int .i64 0, .int .i64 0]), 2, 16) := by kernel_rfl

def outE (l : List Ent) (lo hi : Int) : List Ent := l.filter fun x => decide (x.1 < lo) || decide (hi < x.1)

set_option maxHeartbeats 400000 in
theorem ref9_Outside (A : Option Addr) (n c : Nat) (l : List Ent) (lo hi : Int) (w : World) (h : RdE w A n c l) (hsm : n ≤ 1000000) :
    Calls Try.prog 66 #[.slice A n c, .int .i64 lo, .int .i64 hi] w fun e w' => ∃ v, e = .returned v ∧ OwnE 48 w' w.heap.size v (outE l lo hi) ∧ Below w.heap.size w w' := by
  have hm := h.max
  have hcap := h.cap
  have hl := Lib.hid h.len
  unfold maxLen at hm
  go_enter Try.func66, Try.ntmps66
  go_wp2
  go_loopw [7, 8] (fun v i wr => ∃ k : Nat, k ≤ n ∧ i = .int .i64 k ∧ OwnE 48 wr w.heap.size v (outE (l.take k) lo hi) ∧ Below w.heap.size w wr) (fun _ i _ => n - (intOf i).toNat)
  case atStart => exact ⟨0, by omega, rfl, Own.nil entC_len, Below.refl _ _⟩
  case round =>
    obtain ⟨k, hk, rfl, hown, hbl⟩ := hrel
    by_cases hlt : k < n
    · obtain ⟨⟨a, b⟩, hx, hd, ht⟩ := get_some (l := l) (k := k) (by have := hl.out; omega)
      obtain ⟨bl, o, rfl, hb, c0, c1⟩ := (h.below hbl).cellsE hx
      have Ht := Lib.hid ht
      have hsz := hbl.size
      clear hx hd ht
      have hql : (outE (l.take k) lo hi).length ≤ k := Nat.le_trans (List.length_filter_le _ _) (List.length_take_le _ _)
      have HQ := Lib.hid (show ((outE (l.take k) lo hi).length + 1) * 16 ≤ 140737488355328 by omega)
      clear hql
      by_cases he : a < lo ∨ hi < a
      · have HS := Lib.hid (show outE (l.take (k + 1)) lo hi = outE (l.take k) lo hi ++ [(a, b)] by
          rw [Ht.out]; unfold outE; rw [List.filter_append]; congr 1; simp [he])
        rcases Int.lt_or_le a lo with h1 | h1
        · clear he
          go_wp2_with (at_builtin; refine wpList_push rfl _ _ 27 rfl _ 16 Try.underlying27 infoE rfl (by decide) _ _ hown rfl (a, b) _ rfl rfl (entC_one _) HQ.out (by decide) hsz ?_)
          intro v' w' hown' hg _
          have hb2 := hbl.grown hg hsz (fun k hk => (hown.ge k hk).1)
          rw [← HS.out] at hown'
          clear hown hg hbl
          go_wp2
          exact ⟨⟨k + 1, by omega, by go_num, hown', hb2⟩, by simp [intOf]; omega⟩
        · have h2 : hi < a := by omega
          clear he
          go_wp2_with (at_builtin; refine wpList_push rfl _ _ 27 rfl _ 16 Try.underlying27 infoE rfl (by decide) _ _ hown rfl (a, b) _ rfl rfl (entC_one _) HQ.out (by decide) hsz ?_)
          intro v' w' hown' hg _
          have hb2 := hbl.grown hg hsz (fun k hk => (hown.ge k hk).1)
          rw [← HS.out] at hown'
          clear hown hg hbl
          go_wp2
          exact ⟨⟨k + 1, by omega, by go_num, hown', hb2⟩, by simp [intOf]; omega⟩
      · have HS := Lib.hid (show outE (l.take (k + 1)) lo hi = outE (l.take k) lo hi by
          rw [Ht.out]; unfold outE; rw [List.filter_append]; simp [he])
        rw [← HS.out] at hown
        have h1 : lo ≤ a := by omega
        have h2 : a ≤ hi := by omega
        clear he
        go_wp2
        exact ⟨⟨k + 1, by omega, by go_num, hown, hbl⟩, by simp [intOf]; omega⟩
    · have HT := Lib.hid (show l.take k = l from List.take_of_length_le (by have := hl.out; omega))
      rw [HT.out] at hown
      go_wp2
      go_ret
      exact ⟨_, rfl, hown, hbl⟩

set_option maxHeartbeats 800000 in
theorem ref9_Insert (A : Option Addr) (n c : Nat) (l : List Ent) (key val : Int) (w : World) (h : RdE w A n c l) (hsm : n ≤ 1000000) :
    Calls Try.prog 31 #[.slice A n c, .agg #[.int .i64 key, .int .i64 val]] w fun e w' => ∃ v, e = .returned v ∧ OwnE 48 w' w.heap.size v (insGo (key, val) false l) ∧ Below w.heap.size w w' := by
  have hm := h.max
  have hcap := h.cap
  have hl := Lib.hid h.len
  have hlen := insGo_len (key, val) l false
  have HT := Lib.hid (show (insGo (key, val) false l).length ≤ 1000001 by simp at hlen; have := hl.out; omega)
  clear hlen
  unfold maxLen at hm
  go_enter Try.func31, Try.ntmps31
  go_wp2
  go_loopw [5, 6, 7] (fun v p i wr => ∃ (k : Nat) (put : Bool) (acc : List Ent), k ≤ n ∧ i = .int .i64 k ∧ p = .bool put ∧ acc ++ insGo (key, val) put (l.drop k) = insGo (key, val) false l ∧ OwnE 48 wr (w.heap.size + 1) v acc ∧
      Below (w.heap.size + 1) (w.alloc (.cells #[.int .i64 key, .int .i64 val] 48)) wr) (fun _ _ i _ => n - (intOf i).toNat)
  case atStart => exact ⟨0, false, [], by omega, rfl, rfl, rfl, Own.nil entC_len, Below.refl _ _⟩
  case round =>
    obtain ⟨k, put, acc, hk, rfl, rfl, hacc, hown, hbl⟩ := hrel
    have Hacc := Lib.hid hacc
    clear hacc
    have hsz : w.heap.size + 1 ≤ wr.heap.size := by have := hbl.size; simpa using this
    have b0 : wr.cell? ⟨w.heap.size, 0, none⟩ = some (.int .i64 key) := (hbl.cell (by exact Nat.lt_succ_self _)).trans (by simp)
    have b1 : wr.cell? ⟨w.heap.size, 1, none⟩ = some (.int .i64 val) := (hbl.cell (by exact Nat.lt_succ_self _)).trans (by simp)
    have hbw : Below w.heap.size w wr := ((Below.refl _ w).alloc (Nat.le_refl _) _).trans (hbl.mono (by omega))
    have HQ := Lib.hid (show (acc.length + 1) * 16 ≤ 140737488355328 by have := congrArg List.length Hacc.out; have := HT.out; simp at *; omega)
    have HQ2 := Lib.hid (show ((acc ++ [(key, val)]).length + 1) * 16 ≤ 140737488355328 by have := congrArg List.length Hacc.out; have := HT.out; simp at *; omega)
    by_cases hlt : k < n
    · obtain ⟨⟨a, b⟩, hx, hd, ht⟩ := get_some (l := l) (k := k) (by have := hl.out; omega)
      obtain ⟨bl, o, rfl, hb, c0', c1'⟩ := h.cellsE hx
      have c0 := (hbw.cell (p := ⟨bl, o + k * 2, none⟩) (by exact hb)).trans c0'
      have c1 := (hbw.cell (p := ⟨bl, o + k * 2 + 1, none⟩) (by exact hb)).trans c1'
      have Hd := Lib.hid hd
      clear hx hd ht
      cases put with
      | true =>
        by_cases he : a = key
        · have HS := Lib.hid (show acc ++ insGo (key, val) true (l.drop (k + 1)) = insGo (key, val) false l by rw [← Hacc.out, Hd.out]; simp [insGo, he])
          go_wp2
          go_quiet (fail)
          go_wp2
          go_quiet (fail)
          go_wp2
          exact ⟨⟨k + 1, true, acc, by omega, by go_num, rfl, HS.out, hown.drewN _, below_drewN hbl _⟩, by simp [intOf]; omega⟩
        · have HS := Lib.hid (show (acc ++ [(a, b)]) ++ insGo (key, val) true (l.drop (k + 1)) = insGo (key, val) false l by rw [← Hacc.out, Hd.out]; simp [insGo, he])
          go_wp2
          go_quiet (fail)
          go_wp2
          go_quiet (fail)
          go_wp2_with (at_builtin; first | (refine wpList_push rfl _ _ 27 rfl _ 16 Try.underlying27 infoE rfl (by decide) _ _ hown rfl (a, b) _ rfl rfl (entC_one _) HQ.out (by decide) hsz ?_) | (refine wpList_pushN rfl _ _ 27 rfl _ 16 Try.underlying27 infoE rfl (by decide) _ _ hown rfl (a, b) _ rfl rfl (entC_one _) HQ.out (by decide) hsz ?_))
          intro v' w' hown2 hg _
          have hb2 := (show Below _ _ _ from hbl).grown hg (by exact hsz) (fun k hk => (Own.ge hown k hk).1)
          clear hg hown hbl
          go_wp2
          exact ⟨⟨k + 1, true, _, by omega, by go_num, rfl, HS.out, hown2, hb2⟩, by simp [intOf]; omega⟩
      | false =>
        rcases Int.lt_trichotomy key a with he | rfl | he
        · have HS := Lib.hid (show (acc ++ [(key, val), (a, b)]) ++ insGo (key, val) true (l.drop (k + 1)) = insGo (key, val) false l by
            rw [← Hacc.out, Hd.out]; simp [insGo, show ¬ a = key by omega, show key ≤ a by omega])
          go_wp2
          go_quiet (fail)
          go_wp2_with (at_builtin; first | (refine wpList_push rfl _ _ 27 rfl _ 16 Try.underlying27 infoE rfl (by decide) _ _ hown rfl (key, val) _ rfl rfl (entC_one _) HQ.out (by decide) hsz ?_) | (refine wpList_pushN rfl _ _ 27 rfl _ 16 Try.underlying27 infoE rfl (by decide) _ _ hown rfl (key, val) _ rfl rfl (entC_one _) HQ.out (by decide) hsz ?_))
          intro v' w' hown2 hg _
          have hb2 := (show Below _ _ _ from hbl).grown hg (by exact hsz) (fun k hk => (Own.ge hown k hk).1)
          clear hg hown hbl
          have hbw2 : Below w.heap.size w w' := ((Below.refl _ w).alloc (Nat.le_refl _) _).trans (hb2.mono (by omega))
          have e0 := (hbw2.cell (p := ⟨bl, o + k * 2, none⟩) (by exact hb)).trans c0'
          have e1 := (hbw2.cell (p := ⟨bl, o + k * 2 + 1, none⟩) (by exact hb)).trans c1'
          have b0 : w'.cell? ⟨w.heap.size, 0, none⟩ = some (.int .i64 key) := (hb2.cell (by exact Nat.lt_succ_self _)).trans (by simp)
          have hsz2 : w.heap.size + 1 ≤ w'.heap.size := by have := hb2.size; simpa using this
          clear hbw2
          go_wp2
          go_quiet (fail)
          go_wp2_with (at_builtin; first | (refine wpList_push rfl _ _ 27 rfl _ 16 Try.underlying27 infoE rfl (by decide) _ _ hown2 rfl (a, b) _ rfl rfl (entC_one _) HQ2.out (by decide) hsz2 ?_) | (refine wpList_pushN rfl _ _ 27 rfl _ 16 Try.underlying27 infoE rfl (by decide) _ _ hown2 rfl (a, b) _ rfl rfl (entC_one _) HQ2.out (by decide) hsz2 ?_))
          intro v' w' hown3 hg _
          have hb3 := (show Below _ _ _ from hb2).grown hg (by exact hsz2) (fun k hk => (Own.ge hown2 k hk).1)
          clear hg hown2 hb2
          go_wp2
          exact ⟨⟨k + 1, true, _, by omega, by go_num, rfl, HS.out, hown3, hb3⟩, by simp [intOf]; omega⟩
        · have HS := Lib.hid (show (acc ++ [(key, val)]) ++ insGo (key, val) true (l.drop (k + 1)) = insGo (key, val) false l by
            rw [← Hacc.out, Hd.out]; simp [insGo])
          go_wp2
          go_quiet (fail)
          go_wp2_with (at_builtin; first | (refine wpList_push rfl _ _ 27 rfl _ 16 Try.underlying27 infoE rfl (by decide) _ _ hown rfl (key, val) _ rfl rfl (entC_one _) HQ.out (by decide) hsz ?_) | (refine wpList_pushN rfl _ _ 27 rfl _ 16 Try.underlying27 infoE rfl (by decide) _ _ hown rfl (key, val) _ rfl rfl (entC_one _) HQ.out (by decide) hsz ?_))
          intro v' w' hown2 hg _
          have hb2 := (show Below _ _ _ from hbl).grown hg (by exact hsz) (fun k hk => (Own.ge hown k hk).1)
          clear hg hown hbl
          have hbw2 : Below w.heap.size w w' := ((Below.refl _ w).alloc (Nat.le_refl _) _).trans (hb2.mono (by omega))
          have e0 := (hbw2.cell (p := ⟨bl, o + k * 2, none⟩) (by exact hb)).trans c0'
          have e1 := (hbw2.cell (p := ⟨bl, o + k * 2 + 1, none⟩) (by exact hb)).trans c1'
          have b0 : w'.cell? ⟨w.heap.size, 0, none⟩ = some (.int .i64 key) := (hb2.cell (by exact Nat.lt_succ_self _)).trans (by simp)
          clear hbw2
          go_wp2
          go_quiet (fail)
          go_wp2
          exact ⟨⟨k + 1, true, _, by omega, by go_num, rfl, HS.out, hown2.drewN _, below_drewN hb2 _⟩, by simp [intOf]; omega⟩
        · have HS := Lib.hid (show (acc ++ [(a, b)]) ++ insGo (key, val) false (l.drop (k + 1)) = insGo (key, val) false l by
            rw [← Hacc.out, Hd.out]; simp [insGo, show ¬ a = key by omega, show ¬ key ≤ a by omega])
          go_wp2
          go_quiet (fail)
          go_wp2
          go_quiet (fail)
          go_wp2_with (at_builtin; first | (refine wpList_push rfl _ _ 27 rfl _ 16 Try.underlying27 infoE rfl (by decide) _ _ hown rfl (a, b) _ rfl rfl (entC_one _) HQ.out (by decide) hsz ?_) | (refine wpList_pushN rfl _ _ 27 rfl _ 16 Try.underlying27 infoE rfl (by decide) _ _ hown rfl (a, b) _ rfl rfl (entC_one _) HQ.out (by decide) hsz ?_))
          intro v' w' hown2 hg _
          have hb2 := (show Below _ _ _ from hbl).grown hg (by exact hsz) (fun k hk => (Own.ge hown k hk).1)
          clear hg hown hbl
          go_wp2
          exact ⟨⟨k + 1, false, _, by omega, by go_num, rfl, HS.out, hown2, hb2⟩, by simp [intOf]; omega⟩
    · have hdn := Lib.hid (show l.drop k = [] from List.drop_eq_nil_of_le (by have := hl.out; omega))
      cases put with
      | true =>
        have HS := Lib.hid (show acc = insGo (key, val) false l by rw [← Hacc.out, hdn.out]; simp [insGo])
        go_wp2
        go_ret
        exact ⟨_, rfl, by rw [← HS.out]; exact hown.mono (by omega), hbw⟩
      | false =>
        have HS := Lib.hid (show acc ++ [(key, val)] = insGo (key, val) false l by rw [← Hacc.out, hdn.out]; simp [insGo])
        go_wp2_with (at_builtin; first | (refine wpList_push rfl _ _ 27 rfl _ 16 Try.underlying27 infoE rfl (by decide) _ _ hown rfl (key, val) _ rfl rfl (entC_one _) HQ.out (by decide) hsz ?_) | (refine wpList_pushN rfl _ _ 27 rfl _ 16 Try.underlying27 infoE rfl (by decide) _ _ hown rfl (key, val) _ rfl rfl (entC_one _) HQ.out (by decide) hsz ?_))
        intro v' w' hown2 hg _
        have hb2 := (show Below _ _ _ from hbl).grown hg (by exact hsz) (fun k hk => (Own.ge hown k hk).1)
        clear hg hown hbl
        have hbw2 := Lib.hid (show Below w.heap.size w w' from ((Below.refl _ w).alloc (Nat.le_refl _) _).trans (hb2.mono (by omega)))
        go_wp2
        go_ret
        exact ⟨_, rfl, by rw [← HS.out]; exact hown2.mono (by omega), hbw2.out⟩
end Go.Proofs.Ytdgodcamadalhaa
