/- The laws of layer 8: the program's reservations are the reference's, and they grow with the keys. -/
import Derived.Test.YtdgodcamadalhaaResD
namespace Go.Proofs.Ytdgodcamadalhaa
open Go.RowKit Hts

theorem resAwake (w : World) : Calls Try.prog 12 #[] w fun e w' => e = .returned (.bool true) ∧ Below w.heap.size w w' := by
  have h1 := Lib.hid (show rInsert 0 = 12 by decide +kernel)
  have h2 := Lib.hid (show rBuild 5 = 5 by decide +kernel)
  go_enter Try.func12, Try.ntmps12
  go_wp2_with fail
  refine (reserve_Insert 0 _).mono ?_
  rw [h1.out]
  rintro e w1 ⟨rfl, hb1⟩
  go_wp2_with fail
  refine (reserve_Build 5 _).mono ?_
  rw [h2.out]
  rintro e w2 ⟨rfl, hb2⟩
  go_wp2_with fail
  go_ret
  exact ⟨rfl, hb1.trans (hb2.mono hb1.size)⟩

set_option maxHeartbeats 800000 in
theorem resAgrees (n m k : Int) (w : World) : Calls Try.prog 13 #[.int .i64 n, .int .i64 m, .int .i64 k] w fun e w' => e = .returned (.bool true) ∧ Below w.heap.size w w' := by
  go_enter Try.func13, Try.ntmps13
  go_wp2_with fail
  refine (reserve_Insert n _).mono ?_
  rintro e w1 ⟨rfl, hb1⟩
  go_wp2_with fail
  refine (ref8_Insert n _).mono ?_
  rintro e w2 ⟨rfl, hb2⟩
  go_wp2_with fail
  refine (reserve_Delete n _).mono ?_
  rintro e w3 ⟨rfl, hb3⟩
  go_wp2_with fail
  refine (ref8_Delete n _).mono ?_
  rintro e w4 ⟨rfl, hb4⟩
  go_wp2_with fail
  refine (reserve_Join n m _).mono ?_
  rintro e w5 ⟨rfl, hb5⟩
  go_wp2_with fail
  refine (ref8_Join n m _).mono ?_
  rintro e w6 ⟨rfl, hb6⟩
  go_wp2_with fail
  refine (reserve_Split n _).mono ?_
  rintro e w7 ⟨rfl, hb7⟩
  go_wp2_with fail
  refine (ref8_Split n _).mono ?_
  rintro e w8 ⟨rfl, hb8⟩
  go_wp2_with fail
  refine (reserve_Build n _).mono ?_
  rintro e w9 ⟨rfl, hb9⟩
  go_wp2_with fail
  refine (ref8_Build n _).mono ?_
  rintro e wa ⟨rfl, hba⟩
  go_wp2_with fail
  refine (reserve_SetOperation n m _).mono ?_
  rintro e wb ⟨rfl, hbb⟩
  go_wp2_with fail
  refine (ref8_SetOperation n m _).mono ?_
  rintro e wc ⟨rfl, hbc⟩
  go_wp2_with fail
  refine (reserve_Merge n m k _).mono ?_
  rintro e wd ⟨rfl, hbd⟩
  go_wp2_with fail
  refine (ref8_Merge n m k _).mono ?_
  rintro e we ⟨rfl, hbe⟩
  go_wp2_with fail
  refine (reserve_Apply n m _).mono ?_
  rintro e wf ⟨rfl, hbf⟩
  go_wp2_with fail
  refine (ref8_Apply n m _).mono ?_
  rintro e wg ⟨rfl, hbg⟩
  go_wp2_with fail
  go_ret
  have z2 := hb1.trans (hb2.mono hb1.size)
  have z3 := z2.trans (hb3.mono z2.size)
  have z4 := z3.trans (hb4.mono z3.size)
  have z5 := z4.trans (hb5.mono z4.size)
  have z6 := z5.trans (hb6.mono z5.size)
  have z7 := z6.trans (hb7.mono z6.size)
  have z8 := z7.trans (hb8.mono z7.size)
  have z9 := z8.trans (hb9.mono z8.size)
  have za := z9.trans (hba.mono z9.size)
  have zb := za.trans (hbb.mono za.size)
  have zc := zb.trans (hbc.mono zb.size)
  have zd := zc.trans (hbd.mono zc.size)
  have ze := zd.trans (hbe.mono zd.size)
  have zf := ze.trans (hbf.mono ze.size)
  exact ⟨rfl, zf.trans (hbg.mono zf.size)⟩

set_option maxHeartbeats 800000 in
theorem law_ReserveAgrees (n m k : Int) (hn : -9223372036854775808 ≤ n) (hn2 : n ≤ 9223372036854775807) (hm : -9223372036854775808 ≤ m) (hm2 : m ≤ 9223372036854775807) (hk : -9223372036854775808 ≤ k) (hk2 : k ≤ 9223372036854775807) (w : World) :
    Calls Try.prog 3 #[.int .i64 n, .int .i64 m, .int .i64 k] w fun e w' => e = .returned (.bool true) ∧ Below w.heap.size w w' := by
  go_enter Try.func3, Try.ntmps3
  go_wp2_with (first
    | (go_at_call 12; refine (resAwake _).mono ?_; rintro e w1 ⟨rfl, hb1⟩)
    | (go_at_call 13; refine (resAgrees _ _ _ _).mono ?_; rintro e w2 ⟨rfl, hb2⟩)
    | (go_at_call 14; refine (kit_Mod _ _ _ (by omega) (by omega) (by omega) (by omega)).mono ?_; rintro e w3 ⟨rfl, rfl⟩))
  go_ret
  refine ⟨rfl, ?_⟩
  repeat (first | assumption | exact Below.refl _ _ | refine Below.and ?_ (by assumption))

theorem okN_mod (n : Int) : okN (n % 65536) = true := okN_iff.2 ⟨by omega, by omega⟩
theorem okN_mod1 (n : Int) : okN (n % 65536 + 1) = true := okN_iff.2 ⟨by omega, by omega⟩

set_option maxHeartbeats 800000 in
theorem law_ReserveIsMonotone (n m k : Int) (hn : -9223372036854775808 ≤ n) (hn2 : n ≤ 9223372036854775807) (hm : -9223372036854775808 ≤ m) (hm2 : m ≤ 9223372036854775807) (hk : -9223372036854775808 ≤ k) (hk2 : k ≤ 9223372036854775807) (w : World) :
    Calls Try.prog 4 #[.int .i64 n, .int .i64 m, .int .i64 k] w fun e w' => e = .returned (.bool true) ∧ Below w.heap.size w w' := by
  obtain ⟨a, ha⟩ : ∃ a, a = n % 65536 := ⟨_, rfl⟩
  obtain ⟨b, hb⟩ : ∃ b, b = m % 65536 := ⟨_, rfl⟩
  obtain ⟨c, hc⟩ : ∃ c, c = k % 65536 := ⟨_, rfl⟩
  have oka : okN a = true := ha ▸ okN_mod n
  have oka1 : okN (a + 1) = true := ha ▸ okN_mod1 n
  have okb : okN b = true := hb ▸ okN_mod m
  have okb1 : okN (b + 1) = true := hb ▸ okN_mod1 m
  have okc : okN c = true := hc ▸ okN_mod k
  have okc1 : okN (c + 1) = true := hc ▸ okN_mod1 k
  have Ha := Lib.hid ha.symm
  have Hb := Lib.hid hb.symm
  have Hc := Lib.hid hc.symm
  have a0 : 0 ≤ a := by omega
  have a1 : a ≤ 65535 := by omega
  have b0 : 0 ≤ b := by omega
  have b1 : b ≤ 65535 := by omega
  have c0 : 0 ≤ c := by omega
  have c1 : c ≤ 65535 := by omega
  clear ha hb hc
  have t1 : decide (rInsert a ≤ rInsert (a + 1)) = true := by
    have := hI_mono (show a + 1 ≤ a + 1 + 1 by omega)
    simp only [rInsert, oka, oka1, if_true]; exact decide_eq_true (by omega)
  have t2 : decide (rDelete a ≤ rInsert a) = true := by
    have := hI_mono (show a ≤ a + 1 by omega)
    simp only [rInsert, rDelete, oka, if_true]; exact decide_eq_true (by omega)
  have t3 : decide (rInsert a ≤ 160) = true := by
    have h1 := hI_mono (show a + 1 ≤ 65536 by omega)
    have h2 : hI 65536 = 36 := by decide +kernel
    simp only [rInsert, oka, if_true]; exact decide_eq_true (by omega)
  have t4 : decide (rJoin a b ≤ rJoin (a + 1) b) = true := by
    have := hI_mono (show a + b + 1 ≤ a + 1 + b + 1 by omega)
    simp only [rJoin, oka, oka1, okb, Bool.and_self, if_true]; exact decide_eq_true (by omega)
  have t5 : decide (rSplit a ≤ rSplit (a + 1)) = true := by
    have := hI_mono (show a ≤ a + 1 by omega)
    simp only [rSplit, oka, oka1, if_true]; exact decide_eq_true (by omega)
  have t6 : decide (rSetOperation a b < rSetOperation a (b + 1)) = true := by
    have := hI_mono (show a + b ≤ a + (b + 1) by omega)
    simp only [rSetOperation, oka, okb, okb1, Bool.and_self, if_true]; exact decide_eq_true (by omega)
  have t7 : decide (rMerge a b c < rMerge a b (c + 1)) = true := by
    have := hI_mono (show a + b + c ≤ a + b + (c + 1) by omega)
    simp only [rMerge, oka, okb, okc, okc1, Bool.and_self, if_true]; exact decide_eq_true (by omega)
  have t8 : decide (rApply a b < rApply a (b + 1)) = true := by
    have := hI_mono (show a + b ≤ a + (b + 1) by omega)
    simp only [rApply, oka, okb, okb1, Bool.and_self, if_true]; exact decide_eq_true (by omega)
  clear oka oka1 okb okb1 okc okc1
  go_enter Try.func4, Try.ntmps4
  go_wp2_with fail
  refine (kit_Mod n 65536 _ (by omega) (by omega) hn hn2).mono ?_
  rw [Ha.out]
  rintro e w1 ⟨rfl, rfl⟩
  go_wp2_with fail
  refine (kit_Mod m 65536 _ (by omega) (by omega) hm hm2).mono ?_
  rw [Hb.out]
  rintro e w1 ⟨rfl, rfl⟩
  go_wp2_with fail
  refine (kit_Mod k 65536 _ (by omega) (by omega) hk hk2).mono ?_
  rw [Hc.out]
  rintro e w1 ⟨rfl, rfl⟩
  go_wp2_with (first
    | (go_at_call 12; refine (resAwake _).mono ?_; rintro e w1 ⟨rfl, hb1⟩)
    | (go_at_call 15; refine (reserve_Insert _ _).mono ?_; rintro e w2 ⟨rfl, hb2⟩)
    | (go_at_call 16; refine (reserve_Delete _ _).mono ?_; rintro e w2 ⟨rfl, hb2⟩)
    | (go_at_call 17; refine (reserve_Join _ _ _).mono ?_; rintro e w2 ⟨rfl, hb2⟩)
    | (go_at_call 18; refine (reserve_Split _ _).mono ?_; rintro e w2 ⟨rfl, hb2⟩)
    | (go_at_call 19; refine (reserve_SetOperation _ _ _).mono ?_; rintro e w2 ⟨rfl, hb2⟩)
    | (go_at_call 20; refine (reserve_Merge _ _ _ _).mono ?_; rintro e w2 ⟨rfl, hb2⟩)
    | (go_at_call 21; refine (reserve_Apply _ _ _).mono ?_; rintro e w2 ⟨rfl, hb2⟩))
  go_ret
  refine ⟨rfl, ?_⟩
  repeat (first | assumption | exact Below.refl _ _ | refine Below.and ?_ (by assumption))
end Go.Proofs.Ytdgodcamadalhaa
