/- Contracts of package reserve and of its reference. -/
import Derived.Test.YtdgodcamadalhaaResB
import Derived.Test.YtdgodcamadalhaaRef9B
namespace Go.Proofs.Ytdgodcamadalhaa
open Go.RowKit Hts

/-- A number that a reservation is defined for. -/
def okN (n : Int) : Bool := decide (0 ≤ n) && decide (n ≤ 65536)
theorem okN_iff {n : Int} : okN n = true ↔ 0 ≤ n ∧ n ≤ 65536 := by simp [okN]
theorem okN_false {n : Int} : okN n = false ↔ n < 0 ∨ 65536 < n := by simp [okN]; omega

def hI (n : Int) : Int := mh n.toNat
theorem hI_le (n : Int) : 0 ≤ hI n ∧ hI n ≤ 80 := by unfold hI; have := mh_le n.toNat; omega
theorem hI_mono {a b : Int} (h : a ≤ b) : hI a ≤ hI b := by unfold hI; have := mh_mono (show a.toNat ≤ b.toNat by omega); omega

set_option maxHeartbeats 400000 in
theorem reserve_valid (A : Option Addr) (n c : Nat) (l : List Int) (w : World) (h : RdI w A n c l) :
    Calls Try.prog 54 #[.slice A n c] w fun e w' => e = .returned (.bool (l.all okN)) ∧ w = w' := by
  have hm := h.max
  have hcap := h.cap
  have hl := Lib.hid h.len
  unfold maxLen at hm
  go_enter Try.func54, Try.ntmps54
  go_wp2
  go_loop [7] (fun i => ∃ k : Nat, k ≤ n ∧ i = .int .i64 k ∧ Hid (l.all okN = (l.drop k).all okN)) (fun i => n - (intOf i).toNat)
  case atStart => exact ⟨0, by omega, rfl, rfl⟩
  case round =>
    obtain ⟨k, hk, rfl, hg⟩ := hrel
    by_cases hlt : k < n
    · obtain ⟨a, hx, hd, _⟩ := get_some (l := l) (k := k) (by have := hl.out; omega)
      obtain ⟨bl, o, rfl, hb, c0⟩ := h.cellI hx
      have HD := Lib.hid (show l.all okN = (okN a && (l.drop (k + 1)).all okN) by rw [hg.out, hd]; rfl)
      clear hx hd
      by_cases h1 : a < 0
      · have HV := Lib.hid (show l.all okN = false by rw [HD.out, okN_false.2 (.inl h1)]; rfl)
        go_wp2
        go_ret
        exact ⟨by rw [HV.out]; rfl, rfl⟩
      · by_cases h2 : 65536 < a
        · have HV := Lib.hid (show l.all okN = false by rw [HD.out, okN_false.2 (.inr h2)]; rfl)
          go_wp2
          go_ret
          exact ⟨by rw [HV.out]; rfl, rfl⟩
        · have HV := Lib.hid (show l.all okN = (l.drop (k + 1)).all okN by rw [HD.out, okN_iff.2 ⟨by omega, by omega⟩]; rfl)
          have h3 : 0 ≤ a := by omega
          have h4 : a ≤ 65536 := by omega
          clear h1 h2
          go_wp2
          exact ⟨⟨k + 1, by omega, by go_num, HV⟩, by simp [intOf]; omega⟩
    · have HV := Lib.hid (show l.all okN = true by rw [hg.out, List.drop_eq_nil_of_le (by have := hl.out; omega)]; rfl)
      go_wp2
      go_ret
      exact ⟨by rw [HV.out]; rfl, rfl⟩

/-- A new block that reads as a list of numbers. -/
theorem Rd.litI (w : World) (l : List Int) (cs : Array Value) (hcs : cs.toList = l.map (Value.int .i64)) (hl : l.length ≤ 1000) : RdI (w.alloc (.cells cs 3)) (some ⟨w.heap.size, 0, none⟩) l.length l.length l :=
  ⟨rfl, Nat.le_refl _, by unfold maxLen; omega, intC_len, fun _ => ⟨w.heap.size, 0, rfl, by simp, fun k x hx j u hu => by
    simp only [intC] at hu
    cases j with
    | zero =>
      simp at hu; subst hu
      rw [World.cell?_alloc_new, Nat.zero_add, Nat.mul_one, Nat.add_zero, ← Array.getElem?_toList, hcs, List.getElem?_map, hx]; rfl
    | succ j => simp at hu⟩⟩

theorem reserve_path (f n : Int) (w : World) (h0 : 0 ≤ n) (h1 : n ≤ 2147483647) (hf : 0 ≤ f) (hf2 : f ≤ 1000) :
    Calls Try.prog 55 #[.int .i64 f, .int .i64 n] w fun e w' => e = .returned (.int .i64 (f * (hI n + 2))) ∧ w = w' := by
  have hb := hI_le n
  have hm := Lib.hid (IntWalk.wrap64_in (f * (hI n + 2)) ⟨by
    have := Int.mul_nonneg hf (show 0 ≤ hI n + 2 by omega); omega, by
    have := Int.mul_le_mul hf2 (show hI n + 2 ≤ 82 by omega) (by omega) (by omega); omega⟩)
  go_enter Try.func55, Try.ntmps55
  go_wp2_with (go_at_call 76; refine (MaxHeight_any n _ h0 h1).mono ?_; rintro e w' ⟨rfl, rfl⟩; rw [show ((mh n.toNat : Nat) : Int) = hI n from rfl])
  go_ret
  exact ⟨congrArg (fun x => Ending.returned (.int .i64 x)) (by first | exact hm.out | rfl), rfl⟩

end Go.Proofs.Ytdgodcamadalhaa
