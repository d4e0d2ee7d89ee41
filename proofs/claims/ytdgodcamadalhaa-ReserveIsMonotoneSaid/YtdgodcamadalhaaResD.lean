/- Contracts of package reserve's functions and of their references. -/
import Derived.Test.YtdgodcamadalhaaResC
namespace Go.Proofs.Ytdgodcamadalhaa
open Go.RowKit Hts

/-- One growth behind another. -/
theorem _root_.Go.RowKit.Below.and {a b c : World} (h : Below a.heap.size a b) (k : Below b.heap.size b c) : Below a.heap.size a c := h.trans (k.mono h.size)

def needV (a b c more extra factor : Int) : Int := if (okN a && okN b && okN c) = true then extra + factor * (hI (a + b + c + more) + 2) else -1

theorem mul_bd {f h : Int} (hf : 0 ≤ f) (hf2 : f ≤ 12) (h0 : 0 ≤ h) (h1 : h ≤ 80) : 0 ≤ f * (h + 2) ∧ f * (h + 2) ≤ 984 := by
  have a := Int.mul_nonneg hf (show 0 ≤ h + 2 by omega)
  have b := Int.mul_le_mul hf2 (show h + 2 ≤ 82 by omega) (by omega) (by omega)
  omega

set_option maxHeartbeats 800000 in
theorem ref8_need (a b c more extra factor : Int) (w : World) (hm0 : 0 ≤ more) (hm1 : more ≤ 1) (hf : 0 ≤ factor) (hf2 : factor ≤ 12) (he : (okN a && okN b && okN c) = true → 0 ≤ extra ∧ extra ≤ 300000) :
    Calls Try.prog 75 #[.int .i64 a, .int .i64 b, .int .i64 c, .int .i64 more, .int .i64 extra, .int .i64 factor] w fun e w' => e = .returned (.int .i64 (needV a b c more extra factor)) ∧ Below w.heap.size w w' := by
  by_cases hok : (okN a && okN b && okN c) = true
  · obtain ⟨he0, he1⟩ := he hok
    have HV := Lib.hid (show needV a b c more extra factor = extra + factor * (hI (a + b + c + more) + 2) by rw [needV, if_pos hok])
    simp only [Bool.and_eq_true, okN_iff] at hok
    obtain ⟨⟨⟨a0, a1⟩, b0, b1⟩, c0, c1⟩ := hok
    have hb := hI_le (a + b + c + more)
    have hmb := mul_bd hf hf2 hb.1 hb.2
    clear he
    go_enter Try.func75, Try.ntmps75
    go_wp2_with (go_at_call 78; refine (refMaxHeight_any (a + b + c + more) _ (by omega) (by omega)).mono ?_; rintro e w' ⟨rfl, hbl⟩; rw [show ((mh (a + b + c + more).toNat : Nat) : Int) = hI (a + b + c + more) from rfl])
    go_ret
    exact ⟨by rw [HV.out]; rfl, hbl⟩
  · have HV := Lib.hid (show needV a b c more extra factor = -1 by rw [needV, if_neg hok])
    clear he
    by_cases a0 : a < 0
    · clear hok
      go_enter Try.func75, Try.ntmps75
      go_wp2
      go_ret
      exact ⟨by rw [HV.out]; rfl, Below.refl _ _⟩
    · have a0' : 0 ≤ a := by omega
      clear a0
      by_cases a1 : 65536 < a
      · clear hok
        go_enter Try.func75, Try.ntmps75
        go_wp2
        go_ret
        exact ⟨by rw [HV.out]; rfl, Below.refl _ _⟩
      · have a1' : a ≤ 65536 := by omega
        clear a1
        by_cases b0 : b < 0
        · clear hok
          go_enter Try.func75, Try.ntmps75
          go_wp2
          go_ret
          exact ⟨by rw [HV.out]; rfl, Below.refl _ _⟩
        · have b0' : 0 ≤ b := by omega
          clear b0
          by_cases b1 : 65536 < b
          · clear hok
            go_enter Try.func75, Try.ntmps75
            go_wp2
            go_ret
            exact ⟨by rw [HV.out]; rfl, Below.refl _ _⟩
          · have b1' : b ≤ 65536 := by omega
            clear b1
            by_cases c0 : c < 0
            · clear hok
              go_enter Try.func75, Try.ntmps75
              go_wp2
              go_ret
              exact ⟨by rw [HV.out]; rfl, Below.refl _ _⟩
            · have c0' : 0 ≤ c := by omega
              clear c0
              by_cases c1 : 65536 < c
              · clear hok
                go_enter Try.func75, Try.ntmps75
                go_wp2
                go_ret
                exact ⟨by rw [HV.out]; rfl, Below.refl _ _⟩
              · exact absurd (by simp only [Bool.and_eq_true, okN_iff]; omega) hok

def rInsert (n : Int) : Int := if (okN n) = true then 4 * (hI (n + 1) + 2) else -1

set_option maxHeartbeats 400000 in
theorem reserve_Insert (n : Int) (w : World) : Calls Try.prog 15 #[.int .i64 n] w fun e w' => e = .returned (.int .i64 (rInsert n)) ∧ Below w.heap.size w w' := by
  by_cases hok : (okN n) = true
  · have HV := Lib.hid (show rInsert n = 4 * (hI (n + 1) + 2) by rw [rInsert, if_pos hok])
    have HA := Lib.hid (show [n].all okN = true by simpa [and_assoc] using hok)
    have hn := okN_iff.1 hok
    obtain ⟨n0, n1⟩ := hn
    have hbd := hI_le (n + 1)
    clear hok
    go_enter Try.func15, Try.ntmps15
    go_wp2_with (first | (go_at_call 54; refine (reserve_valid _ _ _ [n] _ (Rd.litI w [n] _ rfl (by simp))).mono ?_; rw [HA.out]; rintro e w' ⟨rfl, rfl⟩) | (go_at_call 55; refine (reserve_path 4 (n + 1) _ (by omega) (by omega) (by omega) (by omega)).mono ?_; rintro e w' ⟨rfl, rfl⟩))
    go_ret
    exact ⟨by rw [HV.out]; rfl, (Below.refl _ _).alloc (Nat.le_refl _) _⟩
  · have HV := Lib.hid (show rInsert n = -1 by rw [rInsert, if_neg hok])
    have HA := Lib.hid (show [n].all okN = false by
      cases h : [n].all okN with
      | false => rfl
      | true => exact absurd (by simpa [and_assoc] using h) hok)
    clear hok
    go_enter Try.func15, Try.ntmps15
    go_wp2_with (go_at_call 54; refine (reserve_valid _ _ _ [n] _ (Rd.litI w [n] _ rfl (by simp))).mono ?_; rw [HA.out]; rintro e w' ⟨rfl, rfl⟩)
    go_ret
    exact ⟨by rw [HV.out]; rfl, (Below.refl _ _).alloc (Nat.le_refl _) _⟩

theorem need_Insert (n : Int) : needV n 0 0 1 0 4 = rInsert n := by
  have h0 : okN 0 = true := by decide
  unfold needV rInsert
  simp only [h0, Bool.and_true, Int.add_zero, Int.zero_add, Int.zero_mul]
theorem ref8_Insert (n : Int) (w : World) : Calls Try.prog 46 #[.int .i64 n] w fun e w' => e = .returned (.int .i64 (rInsert n)) ∧ Below w.heap.size w w' := by
  have HE := Lib.hid (need_Insert n)
  go_enter Try.func46, Try.ntmps46
  go_wp2_with (go_at_call 75; refine (ref8_need n 0 0 1 0 4 _ (by omega) (by omega) (by omega) (by omega) (by intro h; simp only [Bool.and_eq_true, okN_iff] at h; omega)).mono ?_; rw [HE.out]; rintro e w' ⟨rfl, hb⟩)
  go_ret
  exact ⟨rfl, hb⟩

def rDelete (n : Int) : Int := if (okN n) = true then 4 * (hI n + 2) else -1

set_option maxHeartbeats 400000 in
theorem reserve_Delete (n : Int) (w : World) : Calls Try.prog 16 #[.int .i64 n] w fun e w' => e = .returned (.int .i64 (rDelete n)) ∧ Below w.heap.size w w' := by
  by_cases hok : (okN n) = true
  · have HV := Lib.hid (show rDelete n = 4 * (hI n + 2) by rw [rDelete, if_pos hok])
    have HA := Lib.hid (show [n].all okN = true by simpa [and_assoc] using hok)
    have hn := okN_iff.1 hok
    obtain ⟨n0, n1⟩ := hn
    have hbd := hI_le n
    clear hok
    go_enter Try.func16, Try.ntmps16
    go_wp2_with (first | (go_at_call 54; refine (reserve_valid _ _ _ [n] _ (Rd.litI w [n] _ rfl (by simp))).mono ?_; rw [HA.out]; rintro e w' ⟨rfl, rfl⟩) | (go_at_call 55; refine (reserve_path 4 n _ (by omega) (by omega) (by omega) (by omega)).mono ?_; rintro e w' ⟨rfl, rfl⟩))
    go_ret
    exact ⟨by rw [HV.out]; rfl, (Below.refl _ _).alloc (Nat.le_refl _) _⟩
  · have HV := Lib.hid (show rDelete n = -1 by rw [rDelete, if_neg hok])
    have HA := Lib.hid (show [n].all okN = false by
      cases h : [n].all okN with
      | false => rfl
      | true => exact absurd (by simpa [and_assoc] using h) hok)
    clear hok
    go_enter Try.func16, Try.ntmps16
    go_wp2_with (go_at_call 54; refine (reserve_valid _ _ _ [n] _ (Rd.litI w [n] _ rfl (by simp))).mono ?_; rw [HA.out]; rintro e w' ⟨rfl, rfl⟩)
    go_ret
    exact ⟨by rw [HV.out]; rfl, (Below.refl _ _).alloc (Nat.le_refl _) _⟩

theorem need_Delete (n : Int) : needV n 0 0 0 0 4 = rDelete n := by
  have h0 : okN 0 = true := by decide
  unfold needV rDelete
  simp only [h0, Bool.and_true, Int.add_zero, Int.zero_add, Int.zero_mul]
theorem ref8_Delete (n : Int) (w : World) : Calls Try.prog 47 #[.int .i64 n] w fun e w' => e = .returned (.int .i64 (rDelete n)) ∧ Below w.heap.size w w' := by
  have HE := Lib.hid (need_Delete n)
  go_enter Try.func47, Try.ntmps47
  go_wp2_with (go_at_call 75; refine (ref8_need n 0 0 0 0 4 _ (by omega) (by omega) (by omega) (by omega) (by intro h; simp only [Bool.and_eq_true, okN_iff] at h; omega)).mono ?_; rw [HE.out]; rintro e w' ⟨rfl, hb⟩)
  go_ret
  exact ⟨rfl, hb⟩

def rJoin (l r : Int) : Int := if (okN l && okN r) = true then 4 * (hI (l + r + 1) + 2) else -1

set_option maxHeartbeats 400000 in
theorem reserve_Join (l r : Int) (w : World) : Calls Try.prog 17 #[.int .i64 l, .int .i64 r] w fun e w' => e = .returned (.int .i64 (rJoin l r)) ∧ Below w.heap.size w w' := by
  by_cases hok : (okN l && okN r) = true
  · have HV := Lib.hid (show rJoin l r = 4 * (hI (l + r + 1) + 2) by rw [rJoin, if_pos hok])
    have HA := Lib.hid (show [l, r].all okN = true by simpa [and_assoc] using hok)
    have hl := okN_iff.1 (Bool.and_eq_true_iff.1 hok).1
    have hr := okN_iff.1 (Bool.and_eq_true_iff.1 hok).2
    obtain ⟨l0, l1⟩ := hl
    obtain ⟨r0, r1⟩ := hr
    have hbd := hI_le (l + r + 1)
    clear hok
    go_enter Try.func17, Try.ntmps17
    go_wp2_with (first | (go_at_call 54; refine (reserve_valid _ _ _ [l, r] _ (Rd.litI w [l, r] _ rfl (by simp))).mono ?_; rw [HA.out]; rintro e w' ⟨rfl, rfl⟩) | (go_at_call 55; refine (reserve_path 4 (l + r + 1) _ (by omega) (by omega) (by omega) (by omega)).mono ?_; rintro e w' ⟨rfl, rfl⟩))
    go_ret
    exact ⟨by rw [HV.out]; rfl, (Below.refl _ _).alloc (Nat.le_refl _) _⟩
  · have HV := Lib.hid (show rJoin l r = -1 by rw [rJoin, if_neg hok])
    have HA := Lib.hid (show [l, r].all okN = false by
      cases h : [l, r].all okN with
      | false => rfl
      | true => exact absurd (by simpa [and_assoc] using h) hok)
    clear hok
    go_enter Try.func17, Try.ntmps17
    go_wp2_with (go_at_call 54; refine (reserve_valid _ _ _ [l, r] _ (Rd.litI w [l, r] _ rfl (by simp))).mono ?_; rw [HA.out]; rintro e w' ⟨rfl, rfl⟩)
    go_ret
    exact ⟨by rw [HV.out]; rfl, (Below.refl _ _).alloc (Nat.le_refl _) _⟩

theorem need_Join (l r : Int) : needV l r 0 1 0 4 = rJoin l r := by
  have h0 : okN 0 = true := by decide
  unfold needV rJoin
  simp only [h0, Bool.and_true, Int.add_zero, Int.zero_add, Int.zero_mul]
theorem ref8_Join (l r : Int) (w : World) : Calls Try.prog 48 #[.int .i64 l, .int .i64 r] w fun e w' => e = .returned (.int .i64 (rJoin l r)) ∧ Below w.heap.size w w' := by
  have HE := Lib.hid (need_Join l r)
  go_enter Try.func48, Try.ntmps48
  go_wp2_with (go_at_call 75; refine (ref8_need l r 0 1 0 4 _ (by omega) (by omega) (by omega) (by omega) (by intro h; simp only [Bool.and_eq_true, okN_iff] at h; omega)).mono ?_; rw [HE.out]; rintro e w' ⟨rfl, hb⟩)
  go_ret
  exact ⟨rfl, hb⟩

def rSplit (n : Int) : Int := if (okN n) = true then 12 * (hI n + 2) else -1

set_option maxHeartbeats 400000 in
theorem reserve_Split (n : Int) (w : World) : Calls Try.prog 18 #[.int .i64 n] w fun e w' => e = .returned (.int .i64 (rSplit n)) ∧ Below w.heap.size w w' := by
  by_cases hok : (okN n) = true
  · have HV := Lib.hid (show rSplit n = 12 * (hI n + 2) by rw [rSplit, if_pos hok])
    have HA := Lib.hid (show [n].all okN = true by simpa [and_assoc] using hok)
    have hn := okN_iff.1 hok
    obtain ⟨n0, n1⟩ := hn
    have hbd := hI_le n
    clear hok
    go_enter Try.func18, Try.ntmps18
    go_wp2_with (first | (go_at_call 54; refine (reserve_valid _ _ _ [n] _ (Rd.litI w [n] _ rfl (by simp))).mono ?_; rw [HA.out]; rintro e w' ⟨rfl, rfl⟩) | (go_at_call 55; refine (reserve_path 12 n _ (by omega) (by omega) (by omega) (by omega)).mono ?_; rintro e w' ⟨rfl, rfl⟩))
    go_ret
    exact ⟨by rw [HV.out]; rfl, (Below.refl _ _).alloc (Nat.le_refl _) _⟩
  · have HV := Lib.hid (show rSplit n = -1 by rw [rSplit, if_neg hok])
    have HA := Lib.hid (show [n].all okN = false by
      cases h : [n].all okN with
      | false => rfl
      | true => exact absurd (by simpa [and_assoc] using h) hok)
    clear hok
    go_enter Try.func18, Try.ntmps18
    go_wp2_with (go_at_call 54; refine (reserve_valid _ _ _ [n] _ (Rd.litI w [n] _ rfl (by simp))).mono ?_; rw [HA.out]; rintro e w' ⟨rfl, rfl⟩)
    go_ret
    exact ⟨by rw [HV.out]; rfl, (Below.refl _ _).alloc (Nat.le_refl _) _⟩

theorem need_Split (n : Int) : needV n 0 0 0 0 12 = rSplit n := by
  have h0 : okN 0 = true := by decide
  unfold needV rSplit
  simp only [h0, Bool.and_true, Int.add_zero, Int.zero_add, Int.zero_mul]
theorem ref8_Split (n : Int) (w : World) : Calls Try.prog 49 #[.int .i64 n] w fun e w' => e = .returned (.int .i64 (rSplit n)) ∧ Below w.heap.size w w' := by
  have HE := Lib.hid (need_Split n)
  go_enter Try.func49, Try.ntmps49
  go_wp2_with (go_at_call 75; refine (ref8_need n 0 0 0 0 12 _ (by omega) (by omega) (by omega) (by omega) (by intro h; simp only [Bool.and_eq_true, okN_iff] at h; omega)).mono ?_; rw [HE.out]; rintro e w' ⟨rfl, hb⟩)
  go_ret
  exact ⟨rfl, hb⟩

def rBuild (n : Int) : Int := if (okN n) = true then n else -1

set_option maxHeartbeats 400000 in
theorem reserve_Build (n : Int) (w : World) : Calls Try.prog 45 #[.int .i64 n] w fun e w' => e = .returned (.int .i64 (rBuild n)) ∧ Below w.heap.size w w' := by
  by_cases hok : (okN n) = true
  · have HV := Lib.hid (show rBuild n = n by rw [rBuild, if_pos hok])
    have HA := Lib.hid (show [n].all okN = true by simpa [and_assoc] using hok)
    have hn := okN_iff.1 hok
    obtain ⟨n0, n1⟩ := hn
    clear hok
    go_enter Try.func45, Try.ntmps45
    go_wp2_with (first | (go_at_call 54; refine (reserve_valid _ _ _ [n] _ (Rd.litI w [n] _ rfl (by simp))).mono ?_; rw [HA.out]; rintro e w' ⟨rfl, rfl⟩))
    go_ret
    exact ⟨by rw [HV.out]; rfl, (Below.refl _ _).alloc (Nat.le_refl _) _⟩
  · have HV := Lib.hid (show rBuild n = -1 by rw [rBuild, if_neg hok])
    have HA := Lib.hid (show [n].all okN = false by
      cases h : [n].all okN with
      | false => rfl
      | true => exact absurd (by simpa [and_assoc] using h) hok)
    clear hok
    go_enter Try.func45, Try.ntmps45
    go_wp2_with (go_at_call 54; refine (reserve_valid _ _ _ [n] _ (Rd.litI w [n] _ rfl (by simp))).mono ?_; rw [HA.out]; rintro e w' ⟨rfl, rfl⟩)
    go_ret
    exact ⟨by rw [HV.out]; rfl, (Below.refl _ _).alloc (Nat.le_refl _) _⟩

theorem need_Build (n : Int) : needV n 0 0 0 n 0 = rBuild n := by
  have h0 : okN 0 = true := by decide
  unfold needV rBuild
  simp only [h0, Bool.and_true, Int.add_zero, Int.zero_add, Int.zero_mul]
theorem ref8_Build (n : Int) (w : World) : Calls Try.prog 50 #[.int .i64 n] w fun e w' => e = .returned (.int .i64 (rBuild n)) ∧ Below w.heap.size w w' := by
  have HE := Lib.hid (need_Build n)
  go_enter Try.func50, Try.ntmps50
  go_wp2_with (go_at_call 75; refine (ref8_need n 0 0 0 n 0 _ (by omega) (by omega) (by omega) (by omega) (by intro h; simp only [Bool.and_eq_true, okN_iff] at h; omega)).mono ?_; rw [HE.out]; rintro e w' ⟨rfl, hb⟩)
  go_ret
  exact ⟨rfl, hb⟩

def rSetOperation (l r : Int) : Int := if (okN l && okN r) = true then l + r + 12 * (hI (l + r) + 2) else -1

set_option maxHeartbeats 400000 in
theorem reserve_SetOperation (l r : Int) (w : World) : Calls Try.prog 19 #[.int .i64 l, .int .i64 r] w fun e w' => e = .returned (.int .i64 (rSetOperation l r)) ∧ Below w.heap.size w w' := by
  by_cases hok : (okN l && okN r) = true
  · have HV := Lib.hid (show rSetOperation l r = l + r + 12 * (hI (l + r) + 2) by rw [rSetOperation, if_pos hok])
    have HA := Lib.hid (show [l, r].all okN = true by simpa [and_assoc] using hok)
    have hl := okN_iff.1 (Bool.and_eq_true_iff.1 hok).1
    have hr := okN_iff.1 (Bool.and_eq_true_iff.1 hok).2
    obtain ⟨l0, l1⟩ := hl
    obtain ⟨r0, r1⟩ := hr
    have hbd := hI_le (l + r)
    clear hok
    go_enter Try.func19, Try.ntmps19
    go_wp2_with (first | (go_at_call 54; refine (reserve_valid _ _ _ [l, r] _ (Rd.litI w [l, r] _ rfl (by simp))).mono ?_; rw [HA.out]; rintro e w' ⟨rfl, rfl⟩) | (go_at_call 55; refine (reserve_path 12 (l + r) _ (by omega) (by omega) (by omega) (by omega)).mono ?_; rintro e w' ⟨rfl, rfl⟩))
    go_ret
    exact ⟨by rw [HV.out]; rfl, (Below.refl _ _).alloc (Nat.le_refl _) _⟩
  · have HV := Lib.hid (show rSetOperation l r = -1 by rw [rSetOperation, if_neg hok])
    have HA := Lib.hid (show [l, r].all okN = false by
      cases h : [l, r].all okN with
      | false => rfl
      | true => exact absurd (by simpa [and_assoc] using h) hok)
    clear hok
    go_enter Try.func19, Try.ntmps19
    go_wp2_with (go_at_call 54; refine (reserve_valid _ _ _ [l, r] _ (Rd.litI w [l, r] _ rfl (by simp))).mono ?_; rw [HA.out]; rintro e w' ⟨rfl, rfl⟩)
    go_ret
    exact ⟨by rw [HV.out]; rfl, (Below.refl _ _).alloc (Nat.le_refl _) _⟩

theorem need_SetOperation (l r : Int) (hok : (okN l && okN r) = true) : needV l r 0 0 (l + r) 12 = rSetOperation l r := by
  have h0 : okN 0 = true := by decide
  unfold needV rSetOperation
  simp only [h0, Bool.and_true, Int.add_zero, hok, if_true]
theorem pre_SetOperation (l r : Int) : needV l r 0 0 0 0 = if (okN l && okN r) = true then 0 else -1 := by
  have h0 : okN 0 = true := by decide
  unfold needV
  simp only [h0, Bool.and_true, Int.add_zero, Int.zero_mul]
set_option maxHeartbeats 400000 in
theorem ref8_SetOperation (l r : Int) (w : World) : Calls Try.prog 51 #[.int .i64 l, .int .i64 r] w fun e w' => e = .returned (.int .i64 (rSetOperation l r)) ∧ Below w.heap.size w w' := by
  have HP := Lib.hid (pre_SetOperation l r)
  by_cases hok : (okN l && okN r) = true
  · have HE := Lib.hid (need_SetOperation l r hok)
    have HP2 := Lib.hid (show needV l r 0 0 0 0 = 0 by rw [HP.out, if_pos hok])
    have hl := okN_iff.1 (Bool.and_eq_true_iff.1 hok).1
    have hr := okN_iff.1 (Bool.and_eq_true_iff.1 hok).2
    obtain ⟨l0, l1⟩ := hl
    obtain ⟨r0, r1⟩ := hr
    clear hok
    go_enter Try.func51, Try.ntmps51
    go_wp2_with fail
    refine (ref8_need l r 0 0 0 0 _ (by omega) (by omega) (by omega) (by omega) (by intro _; omega)).mono ?_
    rw [HP2.out]
    rintro e w1 ⟨rfl, hb1⟩
    go_wp2_with fail
    refine (ref8_need l r 0 0 (l + r) 12 _ (by omega) (by omega) (by omega) (by omega) (by intro _; omega)).mono ?_
    rw [HE.out]
    rintro e w2 ⟨rfl, hb2⟩
    go_wp2_with fail
    go_ret
    exact ⟨rfl, hb1.trans (hb2.mono hb1.size)⟩
  · have HV := Lib.hid (show rSetOperation l r = -1 by rw [rSetOperation, if_neg hok])
    have HP2 := Lib.hid (show needV l r 0 0 0 0 = -1 by rw [HP.out, if_neg hok])
    clear hok
    go_enter Try.func51, Try.ntmps51
    go_wp2_with fail
    refine (ref8_need l r 0 0 0 0 _ (by omega) (by omega) (by omega) (by omega) (by intro _; omega)).mono ?_
    rw [HP2.out]
    rintro e w1 ⟨rfl, hb1⟩
    go_wp2_with fail
    go_ret
    exact ⟨by rw [HV.out]; rfl, hb1⟩

def rMerge (b o t : Int) : Int := if (okN b && okN o && okN t) = true then b + o + t + 12 * (hI (b + o + t) + 2) else -1

set_option maxHeartbeats 400000 in
theorem reserve_Merge (b o t : Int) (w : World) : Calls Try.prog 20 #[.int .i64 b, .int .i64 o, .int .i64 t] w fun e w' => e = .returned (.int .i64 (rMerge b o t)) ∧ Below w.heap.size w w' := by
  by_cases hok : (okN b && okN o && okN t) = true
  · have HV := Lib.hid (show rMerge b o t = b + o + t + 12 * (hI (b + o + t) + 2) by rw [rMerge, if_pos hok])
    have HA := Lib.hid (show [b, o, t].all okN = true by simpa [and_assoc] using hok)
    have hb := okN_iff.1 (Bool.and_eq_true_iff.1 (Bool.and_eq_true_iff.1 hok).1).1
    have ho := okN_iff.1 (Bool.and_eq_true_iff.1 (Bool.and_eq_true_iff.1 hok).1).2
    have ht := okN_iff.1 (Bool.and_eq_true_iff.1 hok).2
    obtain ⟨b0, b1⟩ := hb
    obtain ⟨o0, o1⟩ := ho
    obtain ⟨t0, t1⟩ := ht
    have hbd := hI_le (b + o + t)
    clear hok
    go_enter Try.func20, Try.ntmps20
    go_wp2_with (first | (go_at_call 54; refine (reserve_valid _ _ _ [b, o, t] _ (Rd.litI w [b, o, t] _ rfl (by simp))).mono ?_; rw [HA.out]; rintro e w' ⟨rfl, rfl⟩) | (go_at_call 55; refine (reserve_path 12 (b + o + t) _ (by omega) (by omega) (by omega) (by omega)).mono ?_; rintro e w' ⟨rfl, rfl⟩))
    go_ret
    exact ⟨by rw [HV.out]; rfl, (Below.refl _ _).alloc (Nat.le_refl _) _⟩
  · have HV := Lib.hid (show rMerge b o t = -1 by rw [rMerge, if_neg hok])
    have HA := Lib.hid (show [b, o, t].all okN = false by
      cases h : [b, o, t].all okN with
      | false => rfl
      | true => exact absurd (by simpa [and_assoc] using h) hok)
    clear hok
    go_enter Try.func20, Try.ntmps20
    go_wp2_with (go_at_call 54; refine (reserve_valid _ _ _ [b, o, t] _ (Rd.litI w [b, o, t] _ rfl (by simp))).mono ?_; rw [HA.out]; rintro e w' ⟨rfl, rfl⟩)
    go_ret
    exact ⟨by rw [HV.out]; rfl, (Below.refl _ _).alloc (Nat.le_refl _) _⟩

theorem need_Merge (b o t : Int) (hok : (okN b && okN o && okN t) = true) : needV b o t 0 (b + o + t) 12 = rMerge b o t := by
  have h0 : okN 0 = true := by decide
  unfold needV rMerge
  simp only [h0, Bool.and_true, Int.add_zero, hok, if_true]
theorem pre_Merge (b o t : Int) : needV b o t 0 0 0 = if (okN b && okN o && okN t) = true then 0 else -1 := by
  have h0 : okN 0 = true := by decide
  unfold needV
  simp only [h0, Bool.and_true, Int.add_zero, Int.zero_mul]
set_option maxHeartbeats 400000 in
theorem ref8_Merge (b o t : Int) (w : World) : Calls Try.prog 52 #[.int .i64 b, .int .i64 o, .int .i64 t] w fun e w' => e = .returned (.int .i64 (rMerge b o t)) ∧ Below w.heap.size w w' := by
  have HP := Lib.hid (pre_Merge b o t)
  by_cases hok : (okN b && okN o && okN t) = true
  · have HE := Lib.hid (need_Merge b o t hok)
    have HP2 := Lib.hid (show needV b o t 0 0 0 = 0 by rw [HP.out, if_pos hok])
    have hb := okN_iff.1 (Bool.and_eq_true_iff.1 (Bool.and_eq_true_iff.1 hok).1).1
    have ho := okN_iff.1 (Bool.and_eq_true_iff.1 (Bool.and_eq_true_iff.1 hok).1).2
    have ht := okN_iff.1 (Bool.and_eq_true_iff.1 hok).2
    obtain ⟨b0, b1⟩ := hb
    obtain ⟨o0, o1⟩ := ho
    obtain ⟨t0, t1⟩ := ht
    clear hok
    go_enter Try.func52, Try.ntmps52
    go_wp2_with fail
    refine (ref8_need b o t 0 0 0 _ (by omega) (by omega) (by omega) (by omega) (by intro _; omega)).mono ?_
    rw [HP2.out]
    rintro e w1 ⟨rfl, hb1⟩
    go_wp2_with fail
    refine (ref8_need b o t 0 (b + o + t) 12 _ (by omega) (by omega) (by omega) (by omega) (by intro _; omega)).mono ?_
    rw [HE.out]
    rintro e w2 ⟨rfl, hb2⟩
    go_wp2_with fail
    go_ret
    exact ⟨rfl, hb1.trans (hb2.mono hb1.size)⟩
  · have HV := Lib.hid (show rMerge b o t = -1 by rw [rMerge, if_neg hok])
    have HP2 := Lib.hid (show needV b o t 0 0 0 = -1 by rw [HP.out, if_neg hok])
    clear hok
    go_enter Try.func52, Try.ntmps52
    go_wp2_with fail
    refine (ref8_need b o t 0 0 0 _ (by omega) (by omega) (by omega) (by omega) (by intro _; omega)).mono ?_
    rw [HP2.out]
    rintro e w1 ⟨rfl, hb1⟩
    go_wp2_with fail
    go_ret
    exact ⟨by rw [HV.out]; rfl, hb1⟩

def rApply (n m : Int) : Int := if (okN n && okN m) = true then n + m + 4 * (hI (n + m) + 2) else -1

set_option maxHeartbeats 400000 in
theorem reserve_Apply (n m : Int) (w : World) : Calls Try.prog 21 #[.int .i64 n, .int .i64 m] w fun e w' => e = .returned (.int .i64 (rApply n m)) ∧ Below w.heap.size w w' := by
  by_cases hok : (okN n && okN m) = true
  · have HV := Lib.hid (show rApply n m = n + m + 4 * (hI (n + m) + 2) by rw [rApply, if_pos hok])
    have HA := Lib.hid (show [n, m].all okN = true by simpa [and_assoc] using hok)
    have hn := okN_iff.1 (Bool.and_eq_true_iff.1 hok).1
    have hm := okN_iff.1 (Bool.and_eq_true_iff.1 hok).2
    obtain ⟨n0, n1⟩ := hn
    obtain ⟨m0, m1⟩ := hm
    have hbd := hI_le (n + m)
    clear hok
    go_enter Try.func21, Try.ntmps21
    go_wp2_with (first | (go_at_call 54; refine (reserve_valid _ _ _ [n, m] _ (Rd.litI w [n, m] _ rfl (by simp))).mono ?_; rw [HA.out]; rintro e w' ⟨rfl, rfl⟩) | (go_at_call 55; refine (reserve_path 4 (n + m) _ (by omega) (by omega) (by omega) (by omega)).mono ?_; rintro e w' ⟨rfl, rfl⟩))
    go_ret
    exact ⟨by rw [HV.out]; rfl, (Below.refl _ _).alloc (Nat.le_refl _) _⟩
  · have HV := Lib.hid (show rApply n m = -1 by rw [rApply, if_neg hok])
    have HA := Lib.hid (show [n, m].all okN = false by
      cases h : [n, m].all okN with
      | false => rfl
      | true => exact absurd (by simpa [and_assoc] using h) hok)
    clear hok
    go_enter Try.func21, Try.ntmps21
    go_wp2_with (go_at_call 54; refine (reserve_valid _ _ _ [n, m] _ (Rd.litI w [n, m] _ rfl (by simp))).mono ?_; rw [HA.out]; rintro e w' ⟨rfl, rfl⟩)
    go_ret
    exact ⟨by rw [HV.out]; rfl, (Below.refl _ _).alloc (Nat.le_refl _) _⟩

theorem need_Apply (n m : Int) (hok : (okN n && okN m) = true) : needV n m 0 0 (n + m) 4 = rApply n m := by
  have h0 : okN 0 = true := by decide
  unfold needV rApply
  simp only [h0, Bool.and_true, Int.add_zero, hok, if_true]
theorem pre_Apply (n m : Int) : needV n m 0 0 0 0 = if (okN n && okN m) = true then 0 else -1 := by
  have h0 : okN 0 = true := by decide
  unfold needV
  simp only [h0, Bool.and_true, Int.add_zero, Int.zero_mul]
set_option maxHeartbeats 400000 in
theorem ref8_Apply (n m : Int) (w : World) : Calls Try.prog 53 #[.int .i64 n, .int .i64 m] w fun e w' => e = .returned (.int .i64 (rApply n m)) ∧ Below w.heap.size w w' := by
  have HP := Lib.hid (pre_Apply n m)
  by_cases hok : (okN n && okN m) = true
  · have HE := Lib.hid (need_Apply n m hok)
    have HP2 := Lib.hid (show needV n m 0 0 0 0 = 0 by rw [HP.out, if_pos hok])
    have hn := okN_iff.1 (Bool.and_eq_true_iff.1 hok).1
    have hm := okN_iff.1 (Bool.and_eq_true_iff.1 hok).2
    obtain ⟨n0, n1⟩ := hn
    obtain ⟨m0, m1⟩ := hm
    clear hok
    go_enter Try.func53, Try.ntmps53
    go_wp2_with fail
    refine (ref8_need n m 0 0 0 0 _ (by omega) (by omega) (by omega) (by omega) (by intro _; omega)).mono ?_
    rw [HP2.out]
    rintro e w1 ⟨rfl, hb1⟩
    go_wp2_with fail
    refine (ref8_need n m 0 0 (n + m) 4 _ (by omega) (by omega) (by omega) (by omega) (by intro _; omega)).mono ?_
    rw [HE.out]
    rintro e w2 ⟨rfl, hb2⟩
    go_wp2_with fail
    go_ret
    exact ⟨rfl, hb1.trans (hb2.mono hb1.size)⟩
  · have HV := Lib.hid (show rApply n m = -1 by rw [rApply, if_neg hok])
    have HP2 := Lib.hid (show needV n m 0 0 0 0 = -1 by rw [HP.out, if_neg hok])
    clear hok
    go_enter Try.func53, Try.ntmps53
    go_wp2_with fail
    refine (ref8_need n m 0 0 0 0 _ (by omega) (by omega) (by omega) (by omega) (by intro _; omega)).mono ?_
    rw [HP2.out]
    rintro e w1 ⟨rfl, hb1⟩
    go_wp2_with fail
    go_ret
    exact ⟨by rw [HV.out]; rfl, hb1⟩

end Go.Proofs.Ytdgodcamadalhaa
