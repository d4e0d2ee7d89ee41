/- Contracts: comparisons of lists, ascending, delete, choose, Mod. -/
import Derived.Test.YtdgodcamadalhaaRef9
namespace Go.Proofs.Ytdgodcamadalhaa
open Go.RowKit

def intC (x : Int) : List Value := [.int .i64 x]
abbrev RdI := Rd intC 1
abbrev OwnI := Own intC 1
theorem intC_len (x : Int) : (intC x).length = 1 := rfl
theorem intC_one (x : Int) : ∀ u ∈ intC x, u.oneCell' = true := by
  intro u hu; simp [intC] at hu; subst hu; rfl
theorem infoI : (Try.prog.info? 2).map (fun i => (i.zero, i.size, i.bytes)) = some (some (.int .i64 0), 1, 8) := by kernel_rfl
theorem Rd.cellI {w : World} {A : Option Addr} {n c : Nat} {l : List Int} (h : Rd intC 1 w A n c l) {k : Nat} {a : Int} (hx : l[k]? = some a) :
    ∃ bl o, A = some ⟨bl, o, none⟩ ∧ bl < w.heap.size ∧ w.cell? ⟨bl, o + k, none⟩ = some (.int .i64 a) := by
  obtain ⟨bl, o, hA, hb, hc⟩ := h.at_ hx
  exact ⟨bl, o, hA, hb, by simpa using hc 0 _ rfl⟩

theorem drop_eq_iff {α : Type} {l m : List α} {k : Nat} {x y : α} (hl : l.drop k = x :: l.drop (k + 1)) (hm : m.drop k = y :: m.drop (k + 1)) : (l.drop k = m.drop k) ↔ x = y ∧ l.drop (k + 1) = m.drop (k + 1) := by
  rw [hl, hm, List.cons.injEq]

set_option maxHeartbeats 400000 in
theorem ref9_Same (A A' : Option Addr) (n c n' c' : Nat) (l m : List Ent) (w : World) (h : RdE w A n c l) (h' : RdE w A' n' c' m) :
    Calls Try.prog 29 #[.slice A n c, .slice A' n' c'] w fun e w' => e = .returned (.bool (decide (l = m))) ∧ ∃ k, w' = w.drewN k := by
  have hm := h.max
  have hcap := h.cap
  have hl := Lib.hid h.len
  have hm' := h'.max
  have hcap' := h'.cap
  have hl' := Lib.hid h'.len
  unfold maxLen at hm hm'
  by_cases hne : n = n'
  · subst hne
    go_enter Try.func29, Try.ntmps29
    go_wp2
    go_loopw [5] (fun i wr => ∃ (k nd : Nat), k ≤ n ∧ i = .int .i64 k ∧ decide (l = m) = decide (l.drop k = m.drop k) ∧ wr = w.drewN nd) (fun i _ => n - (intOf i).toNat)
    case atStart => exact ⟨0, 0, by omega, rfl, rfl, rfl⟩
    case round =>
      obtain ⟨k, nd, hk, rfl, hg, rfl⟩ := hrel
      have Hg := Lib.hid hg
      clear hg
      by_cases hlt : k < n
      · obtain ⟨⟨a, b⟩, hx, hd, _⟩ := get_some (l := l) (k := k) (by have := hl.out; omega)
        obtain ⟨⟨a', b'⟩, hx', hd', _⟩ := get_some (l := m) (k := k) (by have := hl'.out; omega)
        obtain ⟨bl, o, rfl, hb, c0, c1⟩ := h.cellsE hx
        obtain ⟨bl', o', rfl, hb', c0', c1'⟩ := h'.cellsE hx'
        have He := Lib.hid (drop_eq_iff hd hd')
        clear hx hx' hd hd'
        by_cases e1 : a = a'
        · subst e1
          by_cases e2 : b = b'
          · subst e2
            have HG := Lib.hid (show decide (l = m) = decide (l.drop (k + 1) = m.drop (k + 1)) by rw [Hg.out]; exact decide_eq_decide.2 (by rw [He.out]; simp))
            go_wp2
            go_quiet (fail)
            go_wp2
            exact ⟨⟨k + 1, _, by omega, by go_num, HG.out, rfl⟩, by simp [intOf]; omega⟩
          · have HG := Lib.hid (show decide (l = m) = false by rw [Hg.out]; exact decide_eq_false (by rw [He.out]; simp [e2]))
            go_wp2
            go_quiet (fail)
            go_wp2
            go_ret
            exact ⟨by rw [HG.out]; rfl, _, by apply World.drewN_drewN⟩
        · have HG := Lib.hid (show decide (l = m) = false by rw [Hg.out]; exact decide_eq_false (by rw [He.out]; simp [e1]))
          go_wp2
          go_quiet (fail)
          go_wp2
          go_ret
          exact ⟨by rw [HG.out]; rfl, _, by apply World.drewN_drewN⟩
      · have HG := Lib.hid (show decide (l = m) = true by
          rw [Hg.out, List.drop_eq_nil_of_le (by have := hl.out; omega), List.drop_eq_nil_of_le (by have := hl'.out; omega)]; rfl)
        go_wp2
        go_ret
        exact ⟨by rw [HG.out]; rfl, _, rfl⟩
  · have HG := Lib.hid (show decide (l = m) = false from decide_eq_false (by rintro rfl; exact hne (hl.out.trans hl'.out.symm)))
    go_enter Try.func29, Try.ntmps29
    go_wp2
    go_ret
    exact ⟨by rw [HG.out]; rfl, 0, rfl⟩

set_option maxHeartbeats 400000 in
theorem kit_SameI (A A' : Option Addr) (n c n' c' : Nat) (l m : List Int) (w : World) (h : RdI w A n c l) (h' : RdI w A' n' c' m) :
    Calls Try.prog 35 #[.slice A n c, .slice A' n' c'] w fun e w' => e = .returned (.bool (decide (l = m))) ∧ ∃ k, w' = w.drewN k := by
  have hm := h.max
  have hcap := h.cap
  have hl := Lib.hid h.len
  have hm' := h'.max
  have hcap' := h'.cap
  have hl' := Lib.hid h'.len
  unfold maxLen at hm hm'
  by_cases hne : n = n'
  · subst hne
    go_enter Try.func35, Try.ntmps35
    go_wp2
    go_loopw [5] (fun i wr => ∃ (k nd : Nat), k ≤ n ∧ i = .int .i64 k ∧ decide (l = m) = decide (l.drop k = m.drop k) ∧ wr = w.drewN nd) (fun i _ => n - (intOf i).toNat)
    case atStart => exact ⟨0, 0, by omega, rfl, rfl, rfl⟩
    case round =>
      obtain ⟨k, nd, hk, rfl, hg, rfl⟩ := hrel
      have Hg := Lib.hid hg
      clear hg
      by_cases hlt : k < n
      · obtain ⟨a, hx, hd, _⟩ := get_some (l := l) (k := k) (by have := hl.out; omega)
        obtain ⟨a', hx', hd', _⟩ := get_some (l := m) (k := k) (by have := hl'.out; omega)
        obtain ⟨bl, o, rfl, hb, c0⟩ := h.cellI hx
        obtain ⟨bl', o', rfl, hb', c0'⟩ := h'.cellI hx'
        have He := Lib.hid (drop_eq_iff hd hd')
        clear hx hx' hd hd'
        by_cases e1 : a = a'
        · subst e1
          have HG := Lib.hid (show decide (l = m) = decide (l.drop (k + 1) = m.drop (k + 1)) by rw [Hg.out]; exact decide_eq_decide.2 (by rw [He.out]; simp))
          go_wp2
          go_quiet (fail)
          go_wp2
          exact ⟨⟨k + 1, _, by omega, by go_num, HG.out, rfl⟩, by simp [intOf]; omega⟩
        · have HG := Lib.hid (show decide (l = m) = false by rw [Hg.out]; exact decide_eq_false (by rw [He.out]; simp [e1]))
          go_wp2
          go_quiet (fail)
          go_wp2
          go_ret
          exact ⟨by rw [HG.out]; rfl, _, by apply World.drewN_drewN⟩
      · have HG := Lib.hid (show decide (l = m) = true by
          rw [Hg.out, List.drop_eq_nil_of_le (by have := hl.out; omega), List.drop_eq_nil_of_le (by have := hl'.out; omega)]; rfl)
        go_wp2
        go_ret
        exact ⟨by rw [HG.out]; rfl, _, rfl⟩
  · have HG := Lib.hid (show decide (l = m) = false from decide_eq_false (by rintro rfl; exact hne (hl.out.trans hl'.out.symm)))
    go_enter Try.func35, Try.ntmps35
    go_wp2
    go_ret
    exact ⟨by rw [HG.out]; rfl, 0, rfl⟩

/-- Ascending, step by step: the list from k on is ascending, seen from the element before. -/
theorem asc_step {l : List Ent} {k : Nat} {x y : Ent} (hx : l.drop k = x :: l.drop (k + 1)) (hy : l.drop (k + 1) = y :: l.drop (k + 1 + 1)) : Asc (l.drop k) ↔ x.1 < y.1 ∧ Asc (l.drop (k + 1)) := by
  rw [hx]
  constructor
  · intro h; exact ⟨h.head y (by rw [hy]; exact List.mem_cons_self), h.tail⟩
  · rintro ⟨h1, h2⟩
    refine h2.cons fun z hz => ?_
    rw [hy] at hz h2
    rcases List.mem_cons.1 hz with rfl | hz
    · exact h1
    · have := h2.head z hz; omega

set_option maxHeartbeats 400000 in
theorem ref9_Ascending (A : Option Addr) (n c : Nat) (l : List Ent) (w : World) (h : RdE w A n c l) :
    Calls Try.prog 57 #[.slice A n c] w fun e w' => e = .returned (.bool (ascB l)) ∧ ∃ k, w' = w.drewN k := by
  have hm := h.max
  have hcap := h.cap
  have hl := Lib.hid h.len
  unfold maxLen at hm
  go_enter Try.func57, Try.ntmps57
  go_wp2
  go_loopw [3] (fun i wr => ∃ (k nd : Nat), k ≤ n ∧ i = .int .i64 (k + 1 : Int) ∧ ascB l = ascB (l.drop k) ∧ wr = w.drewN nd) (fun i _ => n + 1 - (intOf i).toNat)
  case atStart => exact ⟨0, 0, by omega, rfl, rfl, rfl⟩
  case round =>
    obtain ⟨k, nd, hk, rfl, hg, rfl⟩ := hrel
    have Hg := Lib.hid hg
    clear hg
    by_cases hlt : k + 1 < n
    · obtain ⟨⟨a, b⟩, hx, hd, _⟩ := get_some (l := l) (k := k) (by have := hl.out; omega)
      obtain ⟨⟨a', b'⟩, hx', hd', _⟩ := get_some (l := l) (k := k + 1) (by have := hl.out; omega)
      obtain ⟨bl, o, rfl, hb, c0, c1⟩ := h.cellsE hx
      obtain ⟨bl', o', e, hb', c0', c1'⟩ := h.cellsE hx'
      obtain ⟨rfl, rfl⟩ : bl = bl' ∧ o = o' := by simpa using e
      have He := Lib.hid (asc_step hd hd')
      clear hx hx' hd hd' e
      by_cases e1 : a < a'
      · have HG := Lib.hid (show ascB l = ascB (l.drop (k + 1)) by rw [Hg.out]; exact decide_eq_decide.2 (by rw [He.out]; simp [e1]))
        go_wp2
        go_quiet (fail)
        go_wp2
        exact ⟨⟨k + 1, _, by omega, by go_num, HG.out, rfl⟩, by simp [intOf]; omega⟩
      · have HG := Lib.hid (show ascB l = false by rw [Hg.out]; exact decide_eq_false (by rw [He.out]; simp [e1]))
        have e2 : a' ≤ a := by omega
        clear e1
        go_wp2
        go_quiet (fail)
        go_wp2
        go_ret
        exact ⟨by rw [HG.out]; rfl, _, by apply World.drewN_drewN⟩
    · have HG := Lib.hid (show ascB l = true by
        rw [Hg.out]
        have hll : (l.drop k).length ≤ 1 := by have := hl.out; simp; omega
        match hq : l.drop k, hll with
        | [], _ => rfl
        | [x], _ => simp [ascB, Srt]
        | x :: y :: t, hh => simp at hh)
      go_wp2
      go_ret
      exact ⟨by rw [HG.out]; rfl, _, rfl⟩

theorem ref9_Delete (A : Option Addr) (n c : Nat) (l : List Ent) (q : Int) (w : World) (h : RdE w A n c l) (hsm : n ≤ 1000000) :
    Calls Try.prog 32 #[.slice A n c, .int .i64 q] w fun e w' => ∃ v, e = .returned v ∧ OwnE 48 w' w.heap.size v (outE l q q) ∧ Below w.heap.size w w' := by
  go_enter Try.func32, Try.ntmps32
  go_wp2_with (go_at_call 66; refine (ref9_Outside A n c l q q _ h hsm).mono ?_; rintro e w' ⟨v, rfl, hown, hb⟩)
  go_ret
  exact ⟨_, rfl, hown, hb⟩

/-- Go's remainder, brought to 0 .. n - 1. -/
theorem kit_Mod (k n : Int) (w : World) (h0 : 0 < n) (h1 : n ≤ 9223372036854775807) (hk : -9223372036854775808 ≤ k) (hk2 : k ≤ 9223372036854775807) :
    Calls Try.prog 14 #[.int .i64 k, .int .i64 n] w fun e w' => e = .returned (.int .i64 (k % n)) ∧ w = w' := by
  have hne : n ≠ 0 := by omega
  have ht := Int.tmod_eq_emod (a := k) (b := n)
  have he0 := Int.emod_nonneg k hne
  have he1 := Int.emod_lt_of_pos k h0
  by_cases hs : 0 ≤ k
  · go_enter Try.func14, Try.ntmps14
    go_wp2
    go_ret
    exact ⟨rfl, rfl⟩
  · have hs2 : k < 0 := by omega
    clear hs
    have HT := Lib.hid ht
    by_cases hz : k.tmod n < 0
    · have HE := Lib.hid (show k.tmod n + n = k % n by
        have := HT.out
        split at this
        · omega
        · have hna : (n.natAbs : Int) = n := by omega
          rw [hna] at this; omega)
      have hb1 : 0 ≤ k.tmod n + n := by rw [HE.out]; exact he0
      have hb2 : k.tmod n + n < n := by rw [HE.out]; exact he1
      clear ht he0 he1
      go_enter Try.func14, Try.ntmps14
      go_wp2
      go_ret
      exact ⟨by rw [← HE.out]; rfl, rfl⟩
    · have HE := Lib.hid (show k.tmod n = k % n by
        have := HT.out
        split at this
        · omega
        · have hna : (n.natAbs : Int) = n := by omega
          rw [hna] at this; omega)
      have hz2 : 0 ≤ k.tmod n := by omega
      clear hz ht he0 he1
      go_enter Try.func14, Try.ntmps14
      go_wp2
      go_ret
      exact ⟨by rw [← HE.out]; rfl, rfl⟩
end Go.Proofs.Ytdgodcamadalhaa
