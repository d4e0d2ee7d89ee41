/- The plain law of heights: the table of least weights and the greatest height that it allows. No program in sight. -/
import Derived.RowKit
namespace Go.Proofs.Ytdgodcamadalhaa.Hts

/-- The least weight of a balanced tree of height h. -/
def wt : Nat → Nat
  | 0 => 1
  | h + 1 => wt h + (wt h + 2) / 3

def up (k : Nat) : Nat → Nat → Nat
  | 0, h => h
  | f + 1, h => if wt (h + 1) ≤ k + 1 then up k f (h + 1) else h

/-- The greatest height (at most 80) that k keys allow. -/
def mh (k : Nat) : Nat := up k 80 0

theorem wt_pos (h : Nat) : 1 ≤ wt h := by
  induction h with
  | zero => simp [wt]
  | succ h ih => simp only [wt]; omega

theorem wt_lt (h : Nat) : wt h < wt (h + 1) := by
  have := wt_pos h
  simp only [wt]; omega

theorem wt_mono {a b : Nat} (h : a ≤ b) : wt a ≤ wt b := by
  induction b with
  | zero => have : a = 0 := by omega
            subst this; exact Nat.le_refl _
  | succ b ih =>
    by_cases e : a = b + 1
    · subst e; exact Nat.le_refl _
    · have := ih (by omega); have := wt_lt b; omega

theorem wt80 : wt 80 = 20530950500 := by decide +kernel
theorem wt81 : wt 81 ≤ 27374600667 := by decide +kernel
theorem wt_le {h : Nat} (hh : h ≤ 80) : wt h ≤ 20530950500 := by
  have := wt_mono hh; rw [wt80] at this; exact this

theorem up_ge (k f : Nat) : ∀ h, h ≤ up k f h ∧ up k f h ≤ h + f := by
  induction f with
  | zero => intro h; simp [up]
  | succ f ih =>
    intro h
    simp only [up]
    split
    · have := ih (h + 1); omega
    · omega

theorem up_spec (k f : Nat) : ∀ h, wt h ≤ k + 1 → wt (up k f h) ≤ k + 1 ∧ (up k f h = h + f ∨ k + 1 < wt (up k f h + 1)) := by
  induction f with
  | zero => intro h hh; simp [up, hh]
  | succ f ih =>
    intro h hh
    simp only [up]
    split
    · rename_i h1
      have := ih (h + 1) h1
      refine ⟨this.1, ?_⟩
      rcases this.2 with h2 | h2
      · exact .inl (by omega)
      · exact .inr h2
    · exact ⟨hh, .inr (by omega)⟩

theorem mh_le (k : Nat) : mh k ≤ 80 := by have := up_ge k 80 0; unfold mh; omega
theorem mh_lo (k : Nat) : wt (mh k) ≤ k + 1 := (up_spec k 80 0 (by simp [wt])).1
theorem mh_hi (k : Nat) : mh k = 80 ∨ k + 1 < wt (mh k + 1) := by have := (up_spec k 80 0 (by simp [wt])).2; unfold mh; omega

/-- What a search that goes up step by step ends in. -/
theorem mh_of {k h : Nat} (h80 : h ≤ 80) (lo : wt h ≤ k + 1) (hi : h = 80 ∨ k + 1 < wt (h + 1)) : mh k = h := by
  have a1 := mh_le k
  have a2 := mh_lo k
  have a3 := mh_hi k
  rcases Nat.lt_trichotomy (mh k) h with c | c | c
  · rcases a3 with e | e
    · omega
    · have := wt_mono (show mh k + 1 ≤ h by omega); omega
  · exact c
  · rcases hi with e | e
    · omega
    · have := wt_mono (show h + 1 ≤ mh k by omega); omega

theorem mh_mono {a b : Nat} (h : a ≤ b) : mh a ≤ mh b := by
  have a2 := mh_lo a
  have b3 := mh_hi b
  have b1 := mh_le a
  rcases Nat.lt_or_ge (mh b) (mh a) with c | c
  · rcases b3 with e | e
    · omega
    · have := wt_mono (show mh b + 1 ≤ mh a by omega); omega
  · exact c

end Go.Proofs.Ytdgodcamadalhaa.Hts
