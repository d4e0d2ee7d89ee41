/- A part of the proof. -/
import Derived.Test.YtjbkckcjmmmooaaG5
import Derived.Test.YtjbkckcjmmmooaaG4
section
/- How high a balanced tree is at most, and how many nodes a listing reads. No program in sight. -/
namespace Go.Proofs.Ytjbkckcjmmmooaa
open Go

/-- The least weights of trees of the heights 0 to 80. -/
def wtsL : List Int := [1, 2, 3, 4, 6, 8, 11, 15, 20, 27, 36, 48, 64, 86, 115, 154, 206, 275, 367, 490, 654, 872, 1163, 1551, 2068, 2758, 3678, 4904, 6539, 8719, 11626, 15502, 20670, 27560, 36747, 48996, 65328, 87104, 116139, 154852, 206470, 275294, 367059, 489412, 652550, 870067, 1160090, 1546787, 2062383, 2749844, 3666459, 4888612, 6518150, 8690867, 11587823, 15450431, 20600575, 27467434, 36623246, 48830995, 65107994, 86810659, 115747546, 154330062, 205773416, 274364555, 365819407, 487759210, 650345614, 867127486, 1156169982, 1541559976, 2055413302, 2740551070, 3654068094, 4872090792, 6496121056, 8661494742, 11548659656, 15398212875, 20530950500]
def wt (h : Nat) : Int := wtsL.getD h 0
def hnC : List Int → Int → Int → Int
  | [], h, _ => h
  | w :: l, h, k => if w - 1 ≤ k then hnC l (h + 1) k else h
/-- The greatest height of a tree with k keys. -/
def Hn (k : Int) : Int := hnC (wtsL.drop 1) 0 k
theorem wt_step : ∀ h < 80, wt (h + 1) = wt h + (wt h + 2) / 3 := by decide
theorem hnC_le : ∀ (l : List Int) (h k : Int), h ≤ hnC l h k
  | [], _, _ => Int.le_refl _
  | w :: l, h, k => by
    unfold hnC
    split
    · have := hnC_le l (h + 1) k; omega
    · exact Int.le_refl _
theorem hnC_ge : ∀ (l : List Int) (h k : Int) (m : Nat), m ≤ l.length → (∀ i < m, l.getD i 0 - 1 ≤ k) → h + m ≤ hnC l h k
  | [], h, k, m, hm, _ => by have : m = 0 := by simpa using hm
                             subst this; show h + 0 ≤ h; omega
  | w :: l, h, k, 0, _, _ => by have := hnC_le (w :: l) h k; show h + 0 ≤ _; omega
  | w :: l, h, k, m + 1, hm, hk => by
    have h0 := hk 0 (by omega)
    unfold hnC
    rw [if_pos (by simpa using h0)]
    have := hnC_ge l (h + 1) k m (by simpa using hm) (fun i hi => by have := hk (i + 1) (by omega); simpa using this)
    omega
theorem hnC_up : ∀ (l : List Int) (h k : Int), hnC l h k ≤ h + l.length
  | [], h, k => by show h ≤ h + 0; omega
  | w :: l, h, k => by
    unfold hnC
    have := hnC_up l (h + 1) k
    rw [List.length_cons]
    split <;> omega
theorem Hn_rng (k : Int) : 0 ≤ Hn k ∧ Hn k ≤ 80 := by
  have h1 := hnC_le (wtsL.drop 1) 0 k
  have h2 := hnC_up (wtsL.drop 1) 0 k
  have h3 : (wtsL.drop 1).length = 80 := rfl
  unfold Hn
  omega
def ht : Tr → Nat
  | .nil => 0
  | .node l _ _ r => 1 + (if ht l ≤ ht r then ht r else ht l)
theorem bal_wt : ∀ (t : Tr) (h : Nat), t.Bal → h ≤ 80 → h ≤ ht t → wt h ≤ t.size + 1
  | t, 0, _, _, _ => by have : wt 0 = 1 := rfl
                        rw [this]; omega
  | .nil, h + 1, _, _, hh => by simp [ht] at hh
  | .node l k v r, h + 1, hb, h8, hh => by
    obtain ⟨b0, bl, br⟩ := hb
    unfold balN at b0
    have hs : ((Tr.node l k v r).size : Int) = 1 + l.size + r.size := by simp [Tr.size]
    have st := wt_step h (by omega)
    have hh : h + 1 ≤ 1 + (if ht l ≤ ht r then ht r else ht l) := hh
    by_cases c : ht l ≤ ht r
    · rw [if_pos c] at hh
      have := bal_wt r h br (by omega) (by omega)
      omega
    · rw [if_neg c] at hh
      have := bal_wt l h bl (by omega) (by omega)
      omega
/-- A balanced tree is no higher than its number of keys allows. -/
theorem Bal.height {t : Tr} (hb : t.Bal) (hs : t.size ≤ 1000000) : (ht t : Int) ≤ Hn t.size := by
  have h80 : ht t ≤ 80 := by
    by_cases c : ht t ≤ 80
    · exact c
    · have := bal_wt t 80 hb (Nat.le_refl _) (by omega)
      have e : wt 80 = 20530950500 := rfl
      omega
  have hl : (wtsL.drop 1).length = 80 := rfl
  have := hnC_ge (wtsL.drop 1) 0 t.size (ht t) (by omega) (fun i hi => by
    have e : (wtsL.drop 1).getD i 0 = wt (i + 1) := by simp [wt, List.getD_eq_getElem?_getD]
    have := bal_wt t (i + 1) hb (by omega) (by omega)
    rw [e]; omega)
  unfold Hn
  omega

/-! ### Reads of a listing by keys -/
theorem lk_node {l r : Tr} {k v lo hi : Int} {rm : Nat} (h : rm ≠ 0) : ∃ a b c, a = (if lo < k then lk l lo hi rm else ([], 0)) ∧ b = (if lo ≤ k ∧ k ≤ hi ∧ a.1.length < rm then [(k, v)] else ([] : List Ent)) ∧ c = (if k < hi then lk r lo hi (rm - (a.1.length + b.length)) else ([], 0)) ∧
    (lk (.node l k v r) lo hi rm).1.length = a.1.length + b.length + c.1.length ∧ (lk (.node l k v r) lo hi rm).2 = 1 + a.2 + c.2 := by
  refine ⟨_, _, _, rfl, rfl, rfl, ?_, ?_⟩
  · rw [lk, if_neg h]; simp only [List.length_append]; omega
  · rw [lk, if_neg h]
theorem lk_zero : ∀ (t : Tr) (lo hi : Int), lk t lo hi 0 = ([], 0)
  | .nil, _, _ => rfl
  | .node _ _ _ _, _, _ => by rw [lk, if_pos rfl]
theorem lk_N : ∀ (t : Tr) (lo hi : Int) (rm : Nat), Asc t.list → (∀ x ∈ t.list, lo < x.1 ∧ x.1 ≤ hi) → (lk t lo hi rm).1.length < rm → (lk t lo hi rm).2 ≤ (lk t lo hi rm).1.length
  | .nil, _, _, _, _, _, _ => Nat.le_refl _
  | .node l k v r, lo, hi, rm, h, hx, hlt => by
    obtain ⟨hl, hr, hlk, hkr⟩ := node_asc h
    have hk := hx (k, v) (by simp [Tr.list])
    obtain ⟨a, b, c, ea, eb, ec, e1, e2⟩ := lk_node (l := l) (r := r) (k := k) (v := v) (lo := lo) (hi := hi) (rm := rm) (by omega)
    rw [e1] at hlt ⊢
    rw [e2]
    rw [if_pos hk.1] at ea
    rw [if_pos ⟨by omega, hk.2, by omega⟩] at eb
    have hb : b.length = 1 := by rw [eb]; rfl
    have ha := lk_N l lo hi rm hl (fun x hm => hx x (by simp [Tr.list, hm])) (by rw [← ea]; omega)
    rw [← ea] at ha
    have hc : c.2 ≤ c.1.length := by
      by_cases d : k < hi
      · rw [if_pos d] at ec
        have := lk_N r lo hi (rm - (a.1.length + b.length)) hr (fun x hm => hx x (by simp [Tr.list, hm])) (by rw [← ec]; omega)
        rw [← ec] at this; exact this
      · rw [if_neg d] at ec; rw [ec]; exact Nat.le_refl _
    omega
theorem ht_l (l r : Tr) (k v : Int) : 1 + ht l ≤ ht (.node l k v r) := by rw [ht]; split <;> omega
theorem ht_r (l r : Tr) (k v : Int) : 1 + ht r ≤ ht (.node l k v r) := by rw [ht]; split <;> omega
theorem lk_L : ∀ (t : Tr) (lo hi : Int) (rm : Nat), Asc t.list → (∀ x ∈ t.list, x.1 ≤ hi) → (lk t lo hi rm).1.length < rm → (lk t lo hi rm).2 ≤ ht t + (lk t lo hi rm).1.length
  | .nil, _, _, _, _, _, _ => by simp [lk]
  | .node l k v r, lo, hi, rm, h, hx, hlt => by
    obtain ⟨hl, hr, hlk, hkr⟩ := node_asc h
    have hk : k ≤ hi := hx (k, v) (by simp [Tr.list])
    have q1 := ht_l l r k v
    have q2 := ht_r l r k v
    obtain ⟨a, b, c, ea, eb, ec, e1, e2⟩ := lk_node (l := l) (r := r) (k := k) (v := v) (lo := lo) (hi := hi) (rm := rm) (by omega)
    rw [e1] at hlt ⊢
    rw [e2]
    by_cases d0 : lo < k
    · rw [if_pos d0] at ea
      rw [if_pos ⟨by omega, hk, by omega⟩] at eb
      have hb : b.length = 1 := by rw [eb]; rfl
      have ha := lk_L l lo hi rm hl (fun x hm => hx x (by simp [Tr.list, hm])) (by rw [← ea]; omega)
      rw [← ea] at ha
      have hc : c.2 ≤ c.1.length := by
        by_cases d : k < hi
        · rw [if_pos d] at ec
          have := lk_N r lo hi (rm - (a.1.length + b.length)) hr (fun x hm => ⟨by have := hkr x hm; omega, hx x (by simp [Tr.list, hm])⟩) (by rw [← ec]; omega)
          rw [← ec] at this; exact this
        · rw [if_neg d] at ec; rw [ec]; exact Nat.le_refl _
      omega
    · rw [if_neg d0] at ea
      have a1 : a.1.length = 0 := by rw [ea]; rfl
      have a2 : a.2 = 0 := by rw [ea]
      have hc : c.2 ≤ ht r + c.1.length := by
        by_cases d : k < hi
        · rw [if_pos d] at ec
          have := lk_L r lo hi (rm - (a.1.length + b.length)) hr (fun x hm => hx x (by simp [Tr.list, hm])) (by rw [← ec]; omega)
          rw [← ec] at this; exact this
        · rw [if_neg d] at ec; rw [ec]; simp
      omega
theorem lk_M : ∀ (t : Tr) (lo hi : Int) (rm : Nat), Asc t.list → (∀ x ∈ t.list, lo < x.1) → (lk t lo hi rm).2 ≤ ht t + (lk t lo hi rm).1.length
  | .nil, _, _, _, _, _ => by simp [lk]
  | .node l k v r, lo, hi, rm, h, hx => by
    by_cases h0 : rm = 0
    · rw [h0, lk_zero]; simp
    obtain ⟨hl, hr, hlk, hkr⟩ := node_asc h
    have hk : lo < k := hx (k, v) (by simp [Tr.list])
    have q1 := ht_l l r k v
    have q2 := ht_r l r k v
    obtain ⟨a, b, c, ea, eb, ec, e1, e2⟩ := lk_node (l := l) (r := r) (k := k) (v := v) (lo := lo) (hi := hi) (rm := rm) h0
    rw [e1, e2]
    rw [if_pos hk] at ea
    have ha := lk_M l lo hi rm hl (fun x hm => hx x (by simp [Tr.list, hm]))
    rw [← ea] at ha
    by_cases d1 : a.1.length < rm
    · by_cases d2 : k ≤ hi
      · rw [if_pos ⟨by omega, d2, d1⟩] at eb
        have hb : b.length = 1 := by rw [eb]; rfl
        have ha := lk_N l lo hi rm hl (fun x hm => ⟨hx x (by simp [Tr.list, hm]), by have := hlk x hm; omega⟩) (by rw [← ea]; omega)
        rw [← ea] at ha
        have hc : c.2 ≤ ht r + c.1.length := by
          by_cases d : k < hi
          · rw [if_pos d] at ec
            have := lk_M r lo hi (rm - (a.1.length + b.length)) hr (fun x hm => hx x (by simp [Tr.list, hm]))
            rw [← ec] at this; exact this
          · rw [if_neg d] at ec; rw [ec]; simp
        omega
      · rw [if_neg (by omega)] at ec
        have : c.2 = 0 := by rw [ec]
        omega
    · have hm : rm - (a.1.length + b.length) = 0 := by omega
      have : c.2 = 0 := by
        rw [ec, hm]
        split
        · rw [lk_zero]
        · rfl
      omega
/-- A listing by keys reads what it gives, and two paths. -/
theorem lk_reads : ∀ (t : Tr) (lo hi : Int) (rm : Nat), Asc t.list → (lk t lo hi rm).2 ≤ 2 * ht t + (lk t lo hi rm).1.length
  | .nil, _, _, _, _ => by simp [lk]
  | .node l k v r, lo, hi, rm, h => by
    by_cases h0 : rm = 0
    · rw [h0, lk_zero]; simp
    obtain ⟨hl, hr, hlk, hkr⟩ := node_asc h
    have q1 := ht_l l r k v
    have q2 := ht_r l r k v
    obtain ⟨a, b, c, ea, eb, ec, e1, e2⟩ := lk_node (l := l) (r := r) (k := k) (v := v) (lo := lo) (hi := hi) (rm := rm) h0
    rw [e1, e2]
    by_cases d0 : lo < k
    · rw [if_pos d0] at ea
      have ha := lk_reads l lo hi rm hl
      rw [← ea] at ha
      by_cases d1 : a.1.length < rm
      · by_cases d2 : k ≤ hi
        · rw [if_pos ⟨by omega, d2, d1⟩] at eb
          have hb : b.length = 1 := by rw [eb]; rfl
          have ha := lk_L l lo hi rm hl (fun x hm => by have := hlk x hm; omega) (by rw [← ea]; omega)
          rw [← ea] at ha
          have hc : c.2 ≤ ht r + c.1.length := by
            by_cases d : k < hi
            · rw [if_pos d] at ec
              have := lk_M r lo hi (rm - (a.1.length + b.length)) hr (fun x hm => by have := hkr x hm; omega)
              rw [← ec] at this; exact this
            · rw [if_neg d] at ec; rw [ec]; simp
          omega
        · rw [if_neg (by omega)] at ec
          have : c.2 = 0 := by rw [ec]
          omega
      · have hm : rm - (a.1.length + b.length) = 0 := by omega
        have : c.2 = 0 := by
          rw [ec, hm]
          split
          · rw [lk_zero]
          · rfl
        omega
    · rw [if_neg d0] at ea
      have a1 : a.1.length = 0 := by rw [ea]; rfl
      have a2 : a.2 = 0 := by rw [ea]
      have hc : c.2 ≤ 2 * ht r + c.1.length := by
        by_cases d : k < hi
        · rw [if_pos d] at ec
          have := lk_reads r lo hi (rm - (a.1.length + b.length)) hr
          rw [← ec] at this; exact this
        · rw [if_neg d] at ec; rw [ec]; simp
      omega

/-! ### Reads of a listing by places -/
theorem pl_node {l r : Tr} {k v x y : Int} (h : ¬ y ≤ x) : ∃ a b c, a = (if x < (l.size : Int) then pl l x (if (l.size : Int) < y then (l.size : Int) else y) else ([], 0)) ∧ b = (if x ≤ (l.size : Int) ∧ (l.size : Int) < y then [(k, v)] else ([] : List Ent)) ∧
    c = (if (l.size : Int) + 1 < y then pl r (if 0 < x - l.size - 1 then x - l.size - 1 else 0) (y - l.size - 1) else ([], 0)) ∧ (pl (.node l k v r) x y).1.length = a.1.length + b.length + c.1.length ∧ (pl (.node l k v r) x y).2 ≤ 2 + a.2 + c.2 := by
  refine ⟨_, _, _, rfl, rfl, rfl, ?_, ?_⟩
  · rw [pl, if_neg h]; simp only [List.length_append]; omega
  · rw [pl, if_neg h]
    have : ne0 l ≤ 1 := by cases l <;> simp [ne0]
    simp only []
    omega
theorem pl_none {t : Tr} {x y : Int} (h : y ≤ x) : pl t x y = ([], 0) := by
  cases t with
  | nil => rfl
  | node l k v r => rw [pl, if_pos h]
theorem pl_N : ∀ (t : Tr) (x y : Int), x ≤ 0 → (t.size : Int) ≤ y → (pl t x y).2 ≤ 2 * (pl t x y).1.length
  | .nil, _, _, _, _ => by simp [pl]
  | .node l k v r, x, y, hx, hy => by
    have hs : ((Tr.node l k v r).size : Int) = 1 + l.size + r.size := by simp [Tr.size]
    obtain ⟨a, b, c, ea, eb, ec, e1, e2⟩ := pl_node (l := l) (r := r) (k := k) (v := v) (x := x) (y := y) (by omega)
    rw [e1]
    rw [if_pos ⟨by omega, by omega⟩] at eb
    have hb : b.length = 1 := by rw [eb]; rfl
    have ha : a.2 ≤ 2 * a.1.length := by
      by_cases d : x < (l.size : Int)
      · rw [if_pos d, if_pos (by omega)] at ea
        rw [ea]; exact pl_N l x l.size hx (Int.le_refl _)
      · rw [if_neg d] at ea; rw [ea]; simp
    have hc : c.2 ≤ 2 * c.1.length := by
      by_cases d : (l.size : Int) + 1 < y
      · rw [if_pos d, if_neg (by omega)] at ec
        rw [ec]; exact pl_N r 0 _ (Int.le_refl _) (by omega)
      · rw [if_neg d] at ec; rw [ec]; simp
    omega
theorem pl_L : ∀ (t : Tr) (x y : Int), (t.size : Int) ≤ y → (pl t x y).2 ≤ 2 * ht t + 2 * (pl t x y).1.length
  | .nil, _, _, _ => by simp [pl]
  | .node l k v r, x, y, hy => by
    by_cases h0 : y ≤ x
    · rw [pl_none h0]; simp
    have hs : ((Tr.node l k v r).size : Int) = 1 + l.size + r.size := by simp [Tr.size]
    have q1 := ht_l l r k v
    have q2 := ht_r l r k v
    obtain ⟨a, b, c, ea, eb, ec, e1, e2⟩ := pl_node (l := l) (r := r) (k := k) (v := v) (x := x) (y := y) h0
    rw [e1]
    by_cases d : x < (l.size : Int)
    · rw [if_pos d, if_pos (by omega)] at ea
      rw [if_pos ⟨by omega, by omega⟩] at eb
      have hb : b.length = 1 := by rw [eb]; rfl
      have ha := pl_L l x l.size (Int.le_refl _)
      rw [← ea] at ha
      have hc : c.2 ≤ 2 * c.1.length := by
        by_cases e : (l.size : Int) + 1 < y
        · rw [if_pos e, if_neg (by omega)] at ec
          rw [ec]; exact pl_N r 0 _ (Int.le_refl _) (by omega)
        · rw [if_neg e] at ec; rw [ec]; simp
      omega
    · rw [if_neg d] at ea
      have a2 : a.2 = 0 := by rw [ea]
      have hc : c.2 ≤ 2 * ht r + 2 * c.1.length := by
        by_cases e : (l.size : Int) + 1 < y
        · rw [if_pos e] at ec
          rw [ec]; exact pl_L r _ _ (by omega)
        · rw [if_neg e] at ec; rw [ec]; simp
      omega
theorem pl_M : ∀ (t : Tr) (x y : Int), x ≤ 0 → (pl t x y).2 ≤ 2 * ht t + 2 * (pl t x y).1.length
  | .nil, _, _, _ => by simp [pl]
  | .node l k v r, x, y, hx => by
    by_cases h0 : y ≤ x
    · rw [pl_none h0]; simp
    have q1 := ht_l l r k v
    have q2 := ht_r l r k v
    obtain ⟨a, b, c, ea, eb, ec, e1, e2⟩ := pl_node (l := l) (r := r) (k := k) (v := v) (x := x) (y := y) h0
    rw [e1]
    by_cases f : (l.size : Int) < y
    · rw [if_pos ⟨by omega, f⟩] at eb
      have hb : b.length = 1 := by rw [eb]; rfl
      have ha : a.2 ≤ 2 * a.1.length := by
        by_cases d : x < (l.size : Int)
        · rw [if_pos d, if_pos f] at ea
          rw [ea]; exact pl_N l x l.size hx (Int.le_refl _)
        · rw [if_neg d] at ea; rw [ea]; simp
      have hc : c.2 ≤ 2 * ht r + 2 * c.1.length := by
        by_cases e : (l.size : Int) + 1 < y
        · rw [if_pos e, if_neg (by omega)] at ec
          rw [ec]; exact pl_M r 0 _ (Int.le_refl _)
        · rw [if_neg e] at ec; rw [ec]; simp
      omega
    · rw [if_neg (by omega)] at ec
      have c2 : c.2 = 0 := by rw [ec]
      have ha : a.2 ≤ 2 * ht l + 2 * a.1.length := by
        by_cases d : x < (l.size : Int)
        · rw [if_pos d] at ea
          rw [ea]; exact pl_M l x _ hx
        · rw [if_neg d] at ea; rw [ea]; simp
      omega
theorem pl_reads : ∀ (t : Tr) (x y : Int), (pl t x y).2 ≤ 4 * ht t + 2 * (pl t x y).1.length
  | .nil, _, _ => by simp [pl]
  | .node l k v r, x, y => by
    by_cases h0 : y ≤ x
    · rw [pl_none h0]; simp
    have q1 := ht_l l r k v
    have q2 := ht_r l r k v
    obtain ⟨a, b, c, ea, eb, ec, e1, e2⟩ := pl_node (l := l) (r := r) (k := k) (v := v) (x := x) (y := y) h0
    rw [e1]
    by_cases d : x < (l.size : Int)
    · rw [if_pos d] at ea
      by_cases f : (l.size : Int) < y
      · rw [if_pos f] at ea
        rw [if_pos ⟨by omega, f⟩] at eb
        have hb : b.length = 1 := by rw [eb]; rfl
        have ha := pl_L l x l.size (Int.le_refl _)
        rw [← ea] at ha
        have hc : c.2 ≤ 2 * ht r + 2 * c.1.length := by
          by_cases e : (l.size : Int) + 1 < y
          · rw [if_pos e, if_neg (by omega)] at ec
            rw [ec]; exact pl_M r 0 _ (Int.le_refl _)
          · rw [if_neg e] at ec; rw [ec]; simp
        omega
      · rw [if_neg (by omega)] at ec
        have c2 : c.2 = 0 := by rw [ec]
        have ha := pl_reads l x (if (l.size : Int) < y then (l.size : Int) else y)
        rw [← ea] at ha
        omega
    · rw [if_neg d] at ea
      have a2 : a.2 = 0 := by rw [ea]
      have hc : c.2 ≤ 4 * ht r + 2 * c.1.length := by
        by_cases e : (l.size : Int) + 1 < y
        · rw [if_pos e] at ec
          rw [ec]; exact pl_reads r _ _
        · rw [if_neg e] at ec; rw [ec]; simp
      omega
end Go.Proofs.Ytjbkckcjmmmooaa
end
section
/- What joining trees costs, and that one rotation is enough. No program in sight. -/
namespace Go.Proofs.Ytjbkckcjmmmooaa
open Go

/-! ### The greatest height of a weight -/
/-- The greatest h whose least weight is at most w. -/
def gN (w : Nat) : Nat := (Hn ((w : Int) - 1)).toNat
theorem hnC_spec : ∀ (l : List Int) (h k : Int) (i : Nat), (i : Int) < hnC l h k - h → l.getD i 0 - 1 ≤ k
  | [], h, k, i, hi => by simp [hnC] at hi; omega
  | w :: l, h, k, i, hi => by
    unfold hnC at hi
    split at hi
    · rename_i c
      cases i with
      | zero => simpa using c
      | succ i => have := hnC_spec l (h + 1) k i (by omega); simpa using this
    · omega
theorem wtsL_drop (i : Nat) : (wtsL.drop 1).getD i 0 = wt (i + 1) := by simp [wt, List.getD_eq_getElem?_getD]
theorem gN_rng (w : Nat) : gN w ≤ 80 := by have := Hn_rng ((w : Int) - 1); unfold gN; omega
theorem gN_Hn (w : Nat) : (gN w : Int) = Hn ((w : Int) - 1) := by have := Hn_rng ((w : Int) - 1); unfold gN; omega
theorem gN_size (n : Nat) : (gN (n + 1) : Int) = Hn n := by rw [gN_Hn]; congr 1; omega
theorem gN_wt {w : Nat} (hw : 1 ≤ w) : wt (gN w) ≤ w := by
  have h0 := Hn_rng ((w : Int) - 1)
  have e := gN_Hn w
  cases h : gN w with
  | zero => have : wt 0 = 1 := rfl
            rw [this]; omega
  | succ g =>
    have := hnC_spec (wtsL.drop 1) 0 ((w : Int) - 1) g (by unfold Hn at e; omega)
    rw [wtsL_drop] at this
    omega
theorem wt_mono1 : ∀ h < 80, wt h < wt (h + 1) := by decide
theorem wt_mono : ∀ {i j : Nat}, i ≤ j → j ≤ 80 → wt i ≤ wt j := by
  intro i j h
  induction h with
  | refl => intro _; exact Int.le_refl _
  | @step m h ih => intro hj; have := ih (by omega); have := wt_mono1 m (by omega); show wt i ≤ wt (m + 1); omega
theorem gN_le {w h : Nat} (h8 : h ≤ 80) (hw : wt h ≤ w) : h ≤ gN w := by
  have hl : (wtsL.drop 1).length = 80 := rfl
  have := hnC_ge (wtsL.drop 1) 0 ((w : Int) - 1) h (by omega) (fun i hi => by
    rw [wtsL_drop]
    have := wt_mono (show i + 1 ≤ h by omega) h8
    omega)
  have e := gN_Hn w
  unfold Hn at e
  omega
theorem gN_mono {v w : Nat} (hv : 1 ≤ v) (h : v ≤ w) : gN v ≤ gN w := gN_le (gN_rng v) (by have := gN_wt hv; omega)
theorem gN_small {w : Nat} (hw : 1 ≤ w) (h : w ≤ 1000000) : gN w ≤ 60 := by
  by_cases c : gN w ≤ 60
  · exact c
  · have h1 := gN_wt hw
    have h2 := wt_mono (show 61 ≤ gN w by omega) (gN_rng w)
    have : wt 61 = 86810659 := rfl
    omega
theorem gN_step {m w : Nat} (hm : 1 ≤ m) (h : 4 * m ≤ 3 * w) (hw : w ≤ 1000000) : gN m + 1 ≤ gN w := by
  have h1 := gN_small hm (by omega)
  have h2 := gN_wt hm
  have h3 := wt_step (gN m) (by omega)
  exact gN_le (by omega) (by omega)
theorem wt_step4 : ∀ h < 77, 4 ≤ h → wt (h + 4) ≤ 4 * wt h - 2 := by decide
theorem gN_step4 {r w : Nat} (hr : 5 ≤ r) (h : 4 * r ≤ w + 2) (hw : w ≤ 1000000) : gN r + 4 ≤ gN w := by
  have h1 := gN_small (w := r) (by omega) (by omega)
  have h2 := gN_wt (w := r) (by omega)
  have h3 : 3 ≤ gN r := gN_le (by decide) (by have : wt 3 = 4 := rfl
                                              omega)
  by_cases c : gN r = 3
  · rw [c]; exact gN_le (by decide) (by have : wt (3 + 4) = 15 := rfl
                                        omega)
  · have := wt_step4 (gN r) (by omega) (by omega)
    exact gN_le (by omega) (by omega)

/-! ### How often a join goes down -/
def dsc (w v : Nat) : Nat := if h : w ≤ 3 * v then 0 else 1 + dsc (3 * w / 4) v
termination_by w
decreasing_by omega
theorem dsc_zero {w v : Nat} (h : w ≤ 3 * v) : dsc w v = 0 := by rw [dsc, dif_pos h]
theorem dsc_succ {w v : Nat} (h : ¬ w ≤ 3 * v) : dsc w v = 1 + dsc (3 * w / 4) v := by rw [dsc, dif_neg h]
theorem dsc_mono (v : Nat) : ∀ (n w w' : Nat), w' < n → w ≤ w' → dsc w v ≤ dsc w' v := by
  intro n
  induction n with
  | zero => intro w w' h; omega
  | succ n ih =>
    intro w w' hn h
    by_cases c : w ≤ 3 * v
    · rw [dsc_zero c]; exact Nat.zero_le _
    · rw [dsc_succ c, dsc_succ (show ¬ w' ≤ 3 * v by omega)]
      have := ih (3 * w / 4) (3 * w' / 4) (by omega) (by omega)
      omega
theorem dsc_g {v : Nat} (hv : 1 ≤ v) : ∀ (n w : Nat), w < n → v ≤ w → w ≤ 1000000 → gN v + dsc w v ≤ gN w := by
  intro n
  induction n with
  | zero => intro w h; omega
  | succ n ih =>
    intro w hn h hw
    by_cases c : w ≤ 3 * v
    · rw [dsc_zero c]; exact gN_mono hv h
    · rw [dsc_succ c]
      have h1 := ih (3 * w / 4) (by omega) (by omega) (by omega)
      have h2 := gN_step (m := 3 * w / 4) (w := w) (by omega) (by omega) hw
      omega
theorem dsc_le {w v : Nat} (hv : 1 ≤ v) (hw : w ≤ 1000000) : dsc w v ≤ gN w := by
  by_cases c : v ≤ w
  · have := dsc_g hv (w + 1) w (by omega) c hw; omega
  · rw [dsc_zero (by omega)]; exact Nat.zero_le _
theorem dsc_one {w v : Nat} (h : w ≤ 3 * v + 3) (hv : 2 ≤ v) : dsc w v ≤ 1 := by
  by_cases c : w ≤ 3 * v
  · rw [dsc_zero c]; omega
  · rw [dsc_succ c, dsc_zero (by omega)]; omega
theorem dsc_two {w : Nat} (h : w ≤ 6) : dsc w 1 ≤ 2 := by
  by_cases c : w ≤ 3
  · rw [dsc_zero (by omega)]; omega
  · rw [dsc_succ (by omega)]
    by_cases d : 3 * w / 4 ≤ 3
    · rw [dsc_zero (by omega)]; omega
    · rw [dsc_succ (by omega), dsc_zero (by omega)]; omega
theorem dsc_tiny {w : Nat} (h : w ≤ 5) : dsc w 1 ≤ 1 := by
  by_cases c : w ≤ 3
  · rw [dsc_zero (by omega)]; omega
  · rw [dsc_succ (by omega), dsc_zero (by omega)]; omega
/-- What a join of trees of these sizes may need. -/
def jB (a b : Nat) : Nat := 1 + 3 * (dsc (a + 1) (b + 1) + dsc (b + 1) (a + 1))
theorem jB_pos (a b : Nat) : 1 ≤ jB a b := by unfold jB; omega
theorem jB_comm (a b : Nat) : jB a b = jB b a := by unfold jB; omega
theorem jB_bal {a b : Nat} (h : balN a b) : jB a b = 1 := by
  unfold balN at h
  unfold jB
  rw [dsc_zero (by omega), dsc_zero (by omega)]
theorem jB_down {s m r : Nat} (h : balN s m) (hb : ¬ balN ((s + m + 1 : Nat) : Int) r) (hg : r < s + m + 1) : jB m r + 3 ≤ jB (s + m + 1) r := by
  unfold balN at h hb
  unfold jB
  rw [dsc_zero (w := r + 1) (by omega), dsc_zero (w := r + 1) (by omega), dsc_succ (w := s + m + 1 + 1) (by omega)]
  have := dsc_mono (r + 1) (3 * (s + m + 1 + 1) / 4 + 1) (m + 1) (3 * (s + m + 1 + 1) / 4) (by omega) (by omega)
  omega
theorem jB_g {a b : Nat} (h : a + b ≤ 900000) : jB a b ≤ 1 + 3 * gN (a + b + 1) := by
  unfold jB
  rcases Nat.le_total a b with c | c
  · rw [dsc_zero (w := a + 1) (by omega)]
    have h1 := dsc_le (w := b + 1) (v := a + 1) (by omega) (by omega)
    have h2 := gN_mono (v := b + 1) (w := a + b + 1) (by omega) (by omega)
    omega
  · rw [dsc_zero (w := b + 1) (by omega)]
    have h1 := dsc_le (w := a + 1) (v := b + 1) (by omega) (by omega)
    have h2 := gN_mono (v := a + 1) (w := a + b + 1) (by omega) (by omega)
    omega
/-- Joining where one side is heavier pays by the growth of the result's height. -/
theorem jB_grow {a b : Nat} (_ : b + 1 ≤ 3 * (a + 1) ∨ a ≤ b) (h : a + b ≤ 900000) (hba : a + 1 ≤ 3 * (b + 1)) : jB a b + 3 * gN (a + 1) ≤ 1 + 3 * gN (a + b + 2) := by
  unfold jB
  rw [dsc_zero (w := a + 1) (by omega)]
  by_cases c : b + 1 ≤ 3 * (a + 1)
  · rw [dsc_zero c]
    have := gN_mono (v := a + 1) (w := a + b + 2) (by omega) (by omega)
    omega
  · have h1 := dsc_g (v := a + 1) (by omega) (b + 2) (b + 1) (by omega) (by omega) (by omega)
    have h2 := gN_mono (v := b + 1) (w := a + b + 2) (by omega) (by omega)
    omega

/-! ### Rotations -/
def near (a b : Nat) : Prop := 3 * (b + 1) ≤ 13 * (a + 1) ∧ 3 * (a + 1) ≤ 13 * (b + 1)
theorem join_near {s m r : Nat} (h : balN s m) (hb : ¬ balN ((s + m + 1 : Nat) : Int) r) (hg : r < s + m + 1) : near s (m + r + 1) := by
  unfold balN at h hb
  unfold near
  omega
theorem rot_nil {a s : Nat} (hn : near a (0 + s + 1)) (h1 : balN (0 : Nat) s) (_ : ¬ balN a ((0 + s + 1 : Nat) : Int)) (hlt : a < 0 + s + 1) : balN a (0 : Nat) ∧ balN ((a + 0 + 1 : Nat) : Int) s := by
  unfold balN at *
  unfold near at hn
  omega
theorem rot_two {a s x y : Nat} (hn : near a (x + y + 1 + s + 1)) (h1 : balN ((x + y + 1 : Nat) : Int) s) (h2 : balN x y) (hb : ¬ balN a ((x + y + 1 + s + 1 : Nat) : Int)) (hlt : a < x + y + 1 + s + 1)
    (hc : ¬ (balN a ((x + y + 1 : Nat) : Int) ∧ balN ((a + (x + y + 1) + 1 : Nat) : Int) s)) : balN a x ∧ balN y s ∧ balN ((a + x + 1 : Nat) : Int) ((y + s + 1 : Nat) : Int) := by
  unfold balN at *
  unfold near at hn
  omega
theorem near_comm {a b : Nat} (h : near a b) : near b a := ⟨h.2, h.1⟩
theorem balN_comm {a b : Int} (h : balN a b) : balN b a := ⟨h.2, h.1⟩
theorem rot_near {s m r : Nat} (h : balN s m) (hb : ¬ balN ((s + m + 1 : Nat) : Int) r) (hg : r < s + m + 1) : near s (m + r + 1) := join_near h hb hg

/-! ### States between -/
variable {S S' S1 S2 : Arn} {hs h1 h2 hs1 hs2 : List Int}
structure Got (S : Arn) (hs : List Int) (mk rd : Nat) (S' : Arn) (hs' : List Int) : Prop where
  wf : Wf S' hs'
  stay : Stay S S' hs
  len : S'.used.length = S.used.length
  nu : S'.nu ≤ S.nu + mk
  rd0 : S.reads ≤ S'.reads
  rd : S'.reads ≤ S.reads + rd
theorem Got.free {m r : Nat} (h : Got S hs m r S' hs1) (w : Wf S hs2) : S.free ≤ S'.free + m := by
  have a := w.free_nonneg.2.2.2
  have b := h.wf.free_nonneg.2.2.2
  have c : S'.cap = S.cap := by unfold Arn.cap; rw [h.len]
  have := h.nu
  omega
theorem Got.seq {h : List Int} {m1 r1 m2 r2 : Nat} (a : Got S h1 m1 r1 S1 hs1) (b : Got S1 h2 m2 r2 S2 hs2) (e1 : ∀ i ∈ h, i ∈ h1) (e2 : ∀ i ∈ h, i ∈ h2) : Got S h (m1 + m2) (r1 + r2) S2 hs2 where
  wf := b.wf
  stay := (a.stay.mono e1).trans (b.stay.mono e2)
  len := b.len.trans a.len
  nu := by have := a.nu; have := b.nu; omega
  rd0 := Int.le_trans a.rd0 b.rd0
  rd := by have := a.rd; have := b.rd; omega
theorem Got.mono {m r m' r' : Nat} (a : Got S hs m r S' hs1) (h1 : m ≤ m') (h2 : r ≤ r') : Got S hs m' r' S' hs1 where
  wf := a.wf
  stay := a.stay
  len := a.len
  nu := by have := a.nu; omega
  rd0 := a.rd0
  rd := by have := a.rd; omega
theorem Got.perm {m r : Nat} (a : Got S hs m r S' hs1) (p : hs1.Perm hs2) : Got S hs m r S' hs2 := ⟨a.wf.perm p, a.stay, a.len, a.nu, a.rd0, a.rd⟩
theorem Got.rds (w : Wf S hs1) {n : Nat} (hn : S.reads + n ≤ 4000000000000000000) : Got S hs 0 n (rdS S n) hs1 where
  wf := w.rd hn
  stay := stay_rd S n hs
  len := rfl
  nu := Nat.le_refl _
  rd0 := by show S.reads ≤ S.reads + n; omega
  rd := Int.le_refl _
theorem Got.refl (w : Wf S hs1) : Got S hs 0 0 S hs1 := ⟨w, Stay.refl _ _, rfl, Nat.le_refl _, Int.le_refl _, by omega⟩
theorem Got.node {k v : Int} {tl tr : Tr} {i : Int} (n : NodeR S hs k v tl tr S' i) : Got S hs 1 0 S' (i :: hs) := ⟨n.wf, n.stay, n.len, by rw [n.nu]; exact Nat.le_refl _, by rw [n.rds]; exact Int.le_refl _, by rw [n.rds]; omega⟩
/-- A balanced tree with these entries is made, and held. -/
structure TrR (S : Arn) (hs : List Int) (L : List Ent) (mk rd : Nat) (S' : Arn) (i : Int) : Prop where
  got : Got S hs mk rd S' (i :: hs)
  tree : ∃ t, Rep S' t i ∧ t.list = L ∧ t.Bal
theorem TrR.mono {L : List Ent} {m r m' r' : Nat} {i : Int} (a : TrR S hs L m r S' i) (h1 : m ≤ m') (h2 : r ≤ r') : TrR S hs L m' r' S' i := ⟨a.got.mono h1 h2, a.tree⟩
end Go.Proofs.Ytjbkckcjmmmooaa
end
section
/- Taking a node apart, holding and giving back a tree. No program in sight. -/
namespace Go.Proofs.Ytjbkckcjmmmooaa
open Go

variable {S S' S1 S2 : Arn} {hs h1 h2 hs1 hs2 : List Int}

theorem countP_le : ∀ (l m : List Bool), l.length = m.length → (∀ i : Nat, m.getD i false = true → l.getD i false = true) → m.countP id ≤ l.countP id
  | [], [], _, _ => Nat.le_refl _
  | [], _ :: _, h, _ => by simp at h
  | _ :: _, [], h, _ => by simp at h
  | a :: l, b :: m, h, hi => by
    have h0 := hi 0
    have ih := countP_le l m (by simpa using h) (fun i => by simpa using hi (i + 1))
    simp at h0
    rw [List.countP_cons, List.countP_cons]
    cases a <;> cases b <;> simp_all <;> omega
theorem Kept.nu_le (k : Kept S S') : S'.nu ≤ S.nu := by
  unfold Arn.nu
  refine countP_le _ _ k.len.symm fun i hi => ?_
  have := (k.kp (i : Int) (by unfold Arn.us; simpa using hi)).1
  unfold Arn.us at this
  simpa using this
/-- One more reference to a tree that may be empty. -/
def retL (S : Arn) (i : Int) : Arn := if i = 0 then S else retA S i
theorem retL_flds (S : Arn) (i : Int) : (retL S i).reads = S.reads ∧ (retL S i).used = S.used ∧ (∀ j, (retL S i).us j = S.us j) ∧ (∀ j, (retL S i).nd j = S.nd j) ∧ (∀ j, (retL S i).gn j = S.gn j) := by
  unfold retL; split <;> exact ⟨rfl, rfl, fun _ => rfl, fun _ => rfl, fun _ => rfl⟩
theorem retL_wf (w : Wf S hs) {i : Int} (hi : i = 0 ∨ S.us i = true) (hl : hs.length ≤ 999999990) : Wf (retL S i) (i :: hs) := by
  unfold retL
  split
  · rename_i e; subst e; exact w.zero_cons (by omega)
  · rename_i e; exact w.ret (hi.resolve_left e) (by omega)
theorem retL_got (w : Wf S hs1) {i : Int} (hi : i = 0 ∨ S.us i = true) (hl : hs1.length ≤ 999999990) : Got S hs 0 0 (retL S i) (i :: hs1) := by
  obtain ⟨a, b, c, d, e⟩ := retL_flds S i
  exact ⟨retL_wf w hi hl, stay_same c d e hs, by rw [b], by unfold Arn.nu; rw [b]; exact Nat.le_refl _, by rw [a]; exact Int.le_refl _, by rw [a]; omega⟩
theorem Rep.retL {t : Tr} {i j : Int} (h : Rep S t i) : Rep (retL S j) t i := Rep.same (retL_flds S j).2.2.1 (retL_flds S j).2.2.2.1 h
/-- A tree is given back. -/
theorem rel_got {i : Int} (w : Wf S (i :: hs1)) (w' : Wf S' hs1) (k : Kept S S') : Got S hs1 0 0 S' hs1 := ⟨w', k.stay w w', k.len, k.nu_le, by rw [k.rds]; exact Int.le_refl _, by rw [k.rds]; omega⟩
/-- A node is taken apart. -/
structure OpnR (S : Arn) (hs : List Int) (a : Tr) (k v : Int) (b : Tr) (S' : Arn) (l r : Int) : Prop where
  got : Got S hs 0 1 S' (l :: r :: hs)
  repl : Rep S' a l
  repr : Rep S' b r
theorem opn_wf {i : Int} {a b : Tr} {k v : Int} (w : Wf S (i :: hs)) (hr : Rep S (.node a k v b) i) (hl : hs.length ≤ 900000000) (hrd : S.reads + 1 ≤ 4000000000000000000) :
    Wf (rdS S 1) (i :: hs) ∧ Wf (retL (rdS S 1) (S.nd i).left) ((S.nd i).left :: i :: hs) ∧ Wf (retL (retL (rdS S 1) (S.nd i).left) (S.nd i).right) (i :: (S.nd i).left :: (S.nd i).right :: hs) := by
  have w1 : Wf (rdS S 1) (i :: hs) := w.rd (by omega)
  have hk := w.kid i hr.1
  have w2 := retL_wf w1 (i := (S.nd i).left) hk.1 (by simp; omega)
  have w3 := retL_wf w2 (i := (S.nd i).right) (by rw [(retL_flds _ _).2.2.1]; exact hk.2) (by simp; omega)
  refine ⟨w1, w2, w3.perm ?_⟩
  refine (List.Perm.swap _ _ _).trans ?_
  refine ((List.Perm.swap _ _ _).cons _).trans ?_
  exact List.Perm.swap _ _ _
theorem opn_ok {i : Int} {a b : Tr} {k v : Int} (w : Wf S (i :: hs)) (hr : Rep S (.node a k v b) i) (hl : hs.length ≤ 900000000) (hrd : S.reads + 1 ≤ 4000000000000000000)
    (w' : Wf S' ((S.nd i).left :: (S.nd i).right :: hs)) (kp : Kept (retL (retL (rdS S 1) (S.nd i).left) (S.nd i).right) S') : OpnR S hs a k v b S' (S.nd i).left (S.nd i).right := by
  obtain ⟨w1, w2, w3⟩ := opn_wf w hr hl hrd
  have hk := w.kid i hr.1
  have g1 : Got S hs 0 1 (rdS S 1) (i :: hs) := Got.rds w (by omega)
  have g2 : Got (rdS S 1) hs 0 0 _ _ := retL_got (hs := hs) w1 (i := (S.nd i).left) hk.1 (by simp; omega)
  have g3 : Got (retL (rdS S 1) (S.nd i).left) hs 0 0 _ _ := retL_got (hs := hs) w2 (i := (S.nd i).right) (by rw [(retL_flds _ _).2.2.1]; exact hk.2) (by simp; omega)
  have g4 := rel_got w3 w' kp
  refine ⟨(((g1.seq g2 (h := hs) (fun _ h => h) (fun _ h => h)).seq g3 (fun _ h => h) (fun _ h => h)).seq g4 (fun _ h => h) (fun _ h => by simp [h])), ?_, ?_⟩
  · have h1 : Rep (retL (retL (rdS S 1) (S.nd i).left) (S.nd i).right) a (S.nd i).left := (Rep.same (S := S) (S' := rdS S 1) (fun _ => rfl) (fun _ => rfl) hr.2.2.2.1).retL.retL
    exact h1.held w3 (kp.stay w3 w') (.inr (by simp))
  · have h1 : Rep (retL (retL (rdS S 1) (S.nd i).left) (S.nd i).right) b (S.nd i).right := (Rep.same (S := S) (S' := rdS S 1) (fun _ => rfl) (fun _ => rfl) hr.2.2.2.2).retL.retL
    exact h1.held w3 (kp.stay w3 w') (.inr (by simp))
theorem perm_rot {α : Type} (a b c : α) (l : List α) : (a :: b :: c :: l).Perm (c :: a :: b :: l) := ((List.Perm.swap c b l).cons a).trans (List.Perm.swap c a (b :: l))
theorem perm_tor {α : Type} (a b c : α) (l : List α) : (a :: b :: c :: l).Perm (b :: c :: a :: l) := (perm_rot b c a l).symm
theorem Got.rdn {m r n k : Nat} (a : Got S hs m r S1 hs1) (hn : n ≤ k) (hb : S1.reads + n ≤ 4000000000000000000) : Got S hs m (r + k) (rdS S1 n) hs1 :=
  (a.seq (Got.rds (hs := hs) a.wf hb) (fun _ h => h) (fun _ h => h)).mono (by omega) (by omega)
theorem Rep.rdn {t : Tr} {i : Int} {n : Nat} (h : Rep S t i) : Rep (rdS S n) t i := Rep.same (S := S) (S' := rdS S n) (fun _ => rfl) (fun _ => rfl) h
/-! ### Rotations on the arena -/
section
variable {S0 S3 S4 : Arn} {A M B x y : Tr} {k1 v1 k2 v2 k3 v3 u m w i j q ix iy : Int} {r0 : Nat}
theorem single_okL (g : Got S0 hs 0 r0 S (u :: m :: w :: hs)) (n1 : NodeR S (w :: hs) k1 v1 A M S2 i) (n2 : NodeR S2 hs k2 v2 (.node A k1 v1 M) B S3 j)
    (bA : A.Bal) (bM : M.Bal) (bB : B.Bal) (c1 : balN A.size M.size) (c2 : balN ((A.size + M.size + 1 : Nat) : Int) B.size) : TrR S0 hs (A.list ++ (k1, v1) :: (M.list ++ (k2, v2) :: B.list)) 3 (r0 + 1) S3 j where
  got := ((g.seq (Got.node n1) (h := hs) (fun _ h => h) (fun _ h => by simp [h])).seq (Got.node n2) (fun _ h => h) (fun _ h => h)).mono (by omega) (by omega)
  tree := ⟨_, n2.rep, by simp [Tr.list], by
    refine ⟨?_, ⟨c1, bA, bM⟩, bB⟩
    have e : ((Tr.node A k1 v1 M).size : Int) = ((A.size + M.size + 1 : Nat) : Int) := by simp [Tr.size]; omega
    rw [e]; exact c2⟩
theorem single_okR (g : Got S0 hs 0 r0 S (u :: m :: w :: hs)) (n1 : NodeR S (u :: hs) k2 v2 M B S2 i) (n2 : NodeR S2 hs k1 v1 A (.node M k2 v2 B) S3 j)
    (bA : A.Bal) (bM : M.Bal) (bB : B.Bal) (c1 : balN M.size B.size) (c2 : balN A.size ((M.size + B.size + 1 : Nat) : Int)) : TrR S0 hs (A.list ++ (k1, v1) :: (M.list ++ (k2, v2) :: B.list)) 3 (r0 + 1) S3 j where
  got := ((g.seq (Got.node n1) (h := hs) (fun _ h => h) (fun _ h => by simp [h])).seq (Got.node n2) (fun _ h => h) (fun _ h => h)).mono (by omega) (by omega)
  tree := ⟨_, n2.rep, by simp [Tr.list], by
    refine ⟨?_, bA, ⟨c1, bM, bB⟩⟩
    have e : ((Tr.node M k2 v2 B).size : Int) = ((M.size + B.size + 1 : Nat) : Int) := by simp [Tr.size]; omega
    rw [e]; exact c2⟩
theorem double_ok (g : Got S0 hs 0 r0 S (u :: m :: w :: hs)) (o : OpnR S (u :: w :: hs) x k3 v3 y S1 ix iy) (n1 : NodeR S1 (iy :: w :: hs) k1 v1 A x S2 i) (n2 : NodeR S2 (i :: hs) k2 v2 y B S3 j)
    (n3 : NodeR S3 hs k3 v3 (.node A k1 v1 x) (.node y k2 v2 B) S4 q) (bA : A.Bal) (bx : x.Bal) (bY : y.Bal) (bB : B.Bal) (c1 : balN A.size x.size) (c2 : balN y.size B.size) (c3 : balN ((A.size + x.size + 1 : Nat) : Int) ((y.size + B.size + 1 : Nat) : Int)) :
    TrR S0 hs (A.list ++ (k1, v1) :: (x.list ++ (k3, v3) :: (y.list ++ (k2, v2) :: B.list))) 3 (r0 + 1) S4 q where
  got := ((((g.seq o.got (h := hs) (fun _ h => h) (fun _ h => by simp [h])).seq (Got.node n1) (h := hs) (fun _ h => h) (fun _ h => by simp [h])).seq (Got.node n2) (h := hs) (fun _ h => h) (fun _ h => by simp [h])).seq (Got.node n3) (fun _ h => h) (fun _ h => h)).mono (by omega) (by omega)
  tree := ⟨_, n3.rep, by simp [Tr.list], by
    refine ⟨?_, ⟨c1, bA, bx⟩, ⟨c2, bY, bB⟩⟩
    have e : ((Tr.node A k1 v1 x).size : Int) = ((A.size + x.size + 1 : Nat) : Int) := by simp [Tr.size]; omega
    have e2 : ((Tr.node y k2 v2 B).size : Int) = ((y.size + B.size + 1 : Nat) : Int) := by simp [Tr.size]; omega
    rw [e, e2]; exact c3⟩
end
end Go.Proofs.Ytjbkckcjmmmooaa
end
section
/- treework: Node, Open, balance, the rotations, Join. -/
namespace Go.Proofs.Ytjbkckcjmmmooaa.Sx
open Go

/-KEEP Wf exW inU live Arn.cap Arn.free maxSize mkNode makeS relA nxt NodeR Rep Kept rdS retL Tr.size Tr.list Tr.Bal balN balB near jB OpnR TrR Got-/
def tBalS : Tfm C0 := fun args H K => match args, H with
  | [.at (.val (.int .i64 l)), .at (.val (.int .i64 r))], [] => 0 ≤ l ∧ l ≤ 1000000 ∧ 0 ≤ r ∧ r ≤ 1000000 ∧ ∀ b, b = balB l r → K (.one (.at (vB b))) [] []
  | _, _ => False
def tNodeX : Tfm C0 := fun args H K => match args with
  | [.at (.ptr 0 0), .at (.val (.int .u32 l)), .agg [.val (.int .i64 k), .val (.int .i64 v)], .at (.val (.int .u32 r))] => arM H fun S => ∃ hs tl tr, Wf S (l :: r :: hs) ∧ Rep S tl l ∧ Rep S tr r ∧ tl.size + tr.size ≤ 1000000 ∧ 0 < S.free ∧ hs.length ≤ 900000000 ∧
    ∀ S' i, NodeR S hs k v tl tr S' i → (S'.nd i).left = l → (S'.nd i).right = r → K (.one (.at (vU i))) (chS S') W7
  | _ => False
noncomputable def aNodeX : Ann C0 := { Γ := [(101, frameT [] tMakeOk), (29, frameT [] tGive)] }
def tRetL : Tfm C0 := fun args H K => match args with
  | [.at (.ptr 0 0), .at (.val (.int .u32 i))] => arM H fun S => live S i ∧ exW S ∧ ∀ S', S' = retL S i → K (.one (.at (vI 0))) (chS S') [3]
  | _ => False
def tRel : Tfm C0 := fun args H K => match args with
  | [.at (.ptr 0 0), .at (.val (.int .u32 i))] => arM H fun S => ∃ hs, Wf S (i :: hs) ∧ ∀ S' (fr : Int), Wf S' hs → Kept S S' → K (.tup [.at (vI fr), .at (vI 0)]) (chS S') W7
  | _ => False
noncomputable def aOpn : Ann C0 := { Γ := [(49, frameT [] tNode), (105, frameT [] tRetL), (29, frameT [] tRel)] }
def tOpn : Tfm C0 := fun args H K => match args with
  | [.at (.ptr 0 0), .at (.val (.int .u32 i))] => arM H fun S => ∃ hs a k v b, Wf S (i :: hs) ∧ Rep S (.node a k v b) i ∧ hs.length ≤ 900000000 ∧ S.reads ≤ 3000000000000000000 ∧
    ∀ S' l r, OpnR S hs a k v b S' l r → K (.tup [.at (vU l), .agg [vI k, vI v], .at (vU r)]) (chS S') W7
  | _ => False
structure XLl (P : Arn → Int → Int → Bool → Prop) where
  S : Arn
  m : Int
  s : Int
  c : Bool
  h : P S m s c
noncomputable def aLl (P : Arn → Int → Int → Bool → Prop) (k v k2 v2 : Int) : Ann C0 := { Γ := [(104, frameT [] tOpn), (61, frameT [] tSize), (117, frameT [] tBalS), (106, frameT [] tNodeX)], inv := fun n => match n with
  | 1004 => some { X := XLl P, sl := [8, 11, 12, 13, 45], tf := fun x => [.one (.at (.ptr 7 0)), vi .u32 x.m, .one (.at (.ptr 8 0)), vi .u32 x.s, vb x.c], hf := fun x => chS x.S ++ [.box [vI k, vI v], .box [vI k2, vI v2]], wr := W7 }
  | _ => none }
noncomputable def aLr (P : Arn → Int → Int → Bool → Prop) (k v k2 v2 : Int) : Ann C0 := { Γ := [(104, frameT [] tOpn), (61, frameT [] tSize), (117, frameT [] tBalS), (106, frameT [] tNodeX)], inv := fun n => match n with
  | 1004 => some { X := XLl P, sl := [8, 13, 12, 11, 45], tf := fun x => [.one (.at (.ptr 7 0)), vi .u32 x.m, .one (.at (.ptr 8 0)), vi .u32 x.s, vb x.c], hf := fun x => chS x.S ++ [.box [vI k, vI v], .box [vI k2, vI v2]], wr := W7 }
  | _ => none }
def tLl : Tfm C0 := fun args H K => match args with
  | [.at (.ptr 0 0), .at (.val (.int .i64 sl)), .at (.val (.int .u32 l)), .agg [.val (.int .i64 k), .val (.int .i64 v)], .at (.val (.int .u32 r))] => arM H fun S => ∃ hs ta tb, Wf S (l :: r :: hs) ∧ Rep S ta l ∧ Rep S tb r ∧ ta.Bal ∧ tb.Bal ∧ near ta.size tb.size ∧ ¬ balN ta.size tb.size ∧ ta.size < tb.size ∧ sl = ta.size ∧
    ta.size + tb.size ≤ 900000 ∧ 3 ≤ S.free ∧ hs.length ≤ 800000000 ∧ S.reads ≤ 2000000000000000000 ∧ ∀ S' i, TrR S hs (ta.list ++ (k, v) :: tb.list) 3 4 S' i → K (.one (.at (vU i))) (chS S') W7
  | _ => False
def tLr : Tfm C0 := fun args H K => match args with
  | [.at (.ptr 0 0), .at (.val (.int .i64 sr)), .at (.val (.int .u32 l)), .agg [.val (.int .i64 k), .val (.int .i64 v)], .at (.val (.int .u32 r))] => arM H fun S => ∃ hs ta tb, Wf S (l :: r :: hs) ∧ Rep S ta l ∧ Rep S tb r ∧ ta.Bal ∧ tb.Bal ∧ near ta.size tb.size ∧ ¬ balN ta.size tb.size ∧ tb.size < ta.size ∧ sr = tb.size ∧
    ta.size + tb.size ≤ 900000 ∧ 3 ≤ S.free ∧ hs.length ≤ 800000000 ∧ S.reads ≤ 2000000000000000000 ∧ ∀ S' i, TrR S hs (ta.list ++ (k, v) :: tb.list) 3 4 S' i → K (.one (.at (vU i))) (chS S') W7
  | _ => False
noncomputable def aBlc : Ann C0 := { Γ := [(61, frameT [] tSize), (117, frameT [] tBalS), (106, frameT [] tNodeX), (133, frameT [] tLl), (134, frameT [] tLr)] }
def tBlc : Tfm C0 := fun args H K => match args with
  | [.at (.ptr 0 0), .at (.val (.int .u32 l)), .agg [.val (.int .i64 k), .val (.int .i64 v)], .at (.val (.int .u32 r))] => arM H fun S => ∃ hs ta tb, Wf S (l :: r :: hs) ∧ Rep S ta l ∧ Rep S tb r ∧ ta.Bal ∧ tb.Bal ∧ near ta.size tb.size ∧
    ta.size + tb.size ≤ 900000 ∧ 3 ≤ S.free ∧ hs.length ≤ 800000000 ∧ S.reads ≤ 1900000000000000000 ∧ ∀ S' i, TrR S hs (ta.list ++ (k, v) :: tb.list) 3 6 S' i → K (.one (.at (vU i))) (chS S') W7
  | _ => False
def tJn (n : Nat) : Tfm C0 := fun args H K => match args with
  | [.at (.ptr 0 0), .at (.val (.int .u32 l)), .agg [.val (.int .i64 k), .val (.int .i64 v)], .at (.val (.int .u32 r))] => arM H fun S => ∃ hs ta tb, Wf S (l :: r :: hs) ∧ Rep S ta l ∧ Rep S tb r ∧ ta.Bal ∧ tb.Bal ∧ ta.size + tb.size < n ∧
    ta.size + tb.size ≤ 900000 ∧ (jB ta.size tb.size : Int) ≤ S.free ∧ hs.length + (ta.size + tb.size) ≤ 800000000 ∧ S.reads + 5 * (jB ta.size tb.size) ≤ 1800000000000000000 ∧
    ∀ S' i, TrR S hs (ta.list ++ (k, v) :: tb.list) (jB ta.size tb.size) (4 * jB ta.size tb.size) S' i → (balN ta.size tb.size → (S'.nd i).left = l ∧ (S'.nd i).right = r ∧ S'.nu = S.nu + 1) → K (.one (.at (vU i))) (chS S') W7
  | _ => False
noncomputable def aJn (n : Nat) : Ann C0 := { Γ := [(61, frameT [] tSize), (117, frameT [] tBalS), (106, frameT [] tNodeX), (104, frameT [] tOpn), (91, frameT [] (tJn n)), (118, frameT [] tBlc)] }
theorem vc_balS (l r : Int) (K : KT) (h1 : 0 ≤ l) (h2 : l ≤ 1000000) (h3 : 0 ≤ r) (h4 : r ≤ 1000000) (h : ∀ b, b = balB l r → K (.one (.at (vB b))) [] []) : vc C0 A0 Try.f117 [.at (vI l), .at (vI r)] [] (normK 0 K) := by
  refine Eq.mp (show (brS (decide (l < 0)) ((K (SV.one (TV.at (At.val (Value.bool false)))) [] [])) ((brS (decide (r < 0)) ((K (SV.one (TV.at (At.val (Value.bool false)))) [] [])) ((brS (decide (l > 2147483647)) ((K (SV.one (TV.at (At.val (Value.bool false)))) [] [])) ((brS (decide (r > 2147483647)) ((K (SV.one (TV.at (At.val (Value.bool false)))) [] [])) ((brS (decide (IntKind.i64.wrap (l + 1) ≤ IntKind.i64.wrap (3 * IntKind.i64.wrap (r + 1)))) ((K (SV.one (TV.at (At.val (Value.bool (decide (IntKind.i64.wrap (r + 1) ≤ IntKind.i64.wrap (3 * IntKind.i64.wrap (l + 1)))))))) [] [])) ((K (SV.one (TV.at (At.val (Value.bool false)))) [] []))))))))))) = _ by kernel_rfl) ?_
  rw [wrap_id (x := l + 1) (by omega) (by omega), wrap_id (x := r + 1) (by omega) (by omega), wrap_id (x := 3 * (l + 1)) (by omega) (by omega), wrap_id (x := 3 * (r + 1)) (by omega) (by omega)]
  refine brS_of (fun c => ?_) fun _ => brS_of (fun c => ?_) fun _ => brS_of (fun c => ?_) fun _ => brS_of (fun c => ?_) fun _ => brS_of (fun c => ?_) fun c => ?_
  · have := of_decide_eq_true c; omega
  · have := of_decide_eq_true c; omega
  · have : l > 2147483647 := of_decide_eq_true c; omega
  · have : r > 2147483647 := of_decide_eq_true c; omega
  · have c : l + 1 ≤ 3 * (r + 1) := of_decide_eq_true c
    exact h _ (by unfold balB balN; simp [c])
  · have c : ¬ l + 1 ≤ 3 * (r + 1) := of_decide_eq_false c
    exact h _ (by unfold balB balN; simp [c])
theorem s_balS : SoundT C0 117 tBalS := by
  refine .of Try.func117 (by decide) rfl fun args H K h hB => ?_
  unfold tBalS at h
  split at h <;> try exact h.elim
  rename_i l r
  exact ⟨A0, trivial, vc_balS l r K h.1 h.2.1 h.2.2.1 h.2.2.2.1 h.2.2.2.2⟩
theorem nodeS_kids {S : Arn} {hs : List Int} {k v l r : Int} (h : Wf S hs) (hf : 0 < S.free) : ((nodeS S k v l r).nd (nxt S)).left = l ∧ ((nodeS S k v l r).nd (nxt S)).right = r := by
  obtain ⟨_, _, m1, m2⟩ := mkNode_flds S k v l r
  unfold nodeS
  rw [(relA_same _ _ _).2.1, (relA_same _ _ _).2.1, make_nd h hf, if_pos rfl]
  exact ⟨m1, m2⟩
theorem vc_nodeX (S : Arn) (l k v r : Int) (K : KT) (hs : List Int) (tl tr : Tr) (hw : Wf S (l :: r :: hs)) (h1 : Rep S tl l) (h2 : Rep S tr r) (h3 : tl.size + tr.size ≤ 1000000) (h4 : 0 < S.free) (h5 : hs.length ≤ 900000000)
    (h : ∀ S' i, NodeR S hs k v tl tr S' i → (S'.nd i).left = l → (S'.nd i).right = r → K (.one (.at (vU i))) (chS S') W7) :
    vc C0 aNodeX Try.f106 [.at (.ptr 0 0), .at (vU l), .agg [vI k, vI v], .at (vU r)] (chS S) (normK 7 (wideK W7 K)) := by
  refine Eq.mp (show ((exW S) ∧
(live S l) ∧
(live S r) ∧
((mkNode S k v l r).size ≤ maxSize) ∧
(0 < S.free) ∧
(∀ S' : Arn, (∀ i : Int, (((S') = (makeS S k v l r)) → (((i) = (nxt S)) → (∃ hs : List Int, ((Wf S' (l :: hs)) ∧ (((S'.us l) = true) → (1 ≤ S'.indeg l)) ∧ (∀ S'1 : Arn, (((S'1) = (relA S' l)) → (∃ hs1 : List Int, ((Wf S'1 (r :: hs1)) ∧ (((S'1.us r) = true) → (1 ≤ S'1.indeg r)) ∧ (∀ S'2 : Arn, (((S'2) = (relA S'1 r)) → (K (SV.one (TV.at (At.val (Value.int IntKind.u32 (i))))) [(Chunk.box [(At.ptr 1 0), (At.slc 2), (At.slc 3), (At.val (Value.int IntKind.u64 (S'2.reads)))]), (Chunk.box [(At.slc 4), (At.slc 5), (At.slc 6), (At.val (Value.int IntKind.u32 (S'2.fresh)))]), (Chunk.row true (EC.node) (S'2.nodes)), (Chunk.row true (EC.int) (S'2.counts)), (Chunk.row true (EC.bool) (S'2.used)), (Chunk.row true (EC.u32) (S'2.gen)), (Chunk.row true (EC.u32) (S'2.rel))] [0, 1, 2, 3, 4, 5, 6])))))))))))))) = _ by kernel_rfl) ?_
  have hz : (mkNode S k v l r).size ≤ maxSize := by rw [mk_size hw h1 h2]; unfold maxSize; omega
  obtain ⟨t1, t2, t3, t4⟩ := node_two (k := k) (v := v) hw h4 hz (by omega)
  refine ⟨⟨_, hw⟩, hw.held l (by simp), hw.held r (by simp), hz, h4, fun S1 i e1 e2 => ?_⟩
  subst e1
  refine ⟨_, t1, t2, fun S2 e3 => ?_⟩
  subst e3
  refine ⟨_, t3, t4, fun S3 e4 => ?_⟩
  have e4 : S3 = nodeS S k v l r := e4
  subst e4 e2
  obtain ⟨q1, q2⟩ := nodeS_kids (k := k) (v := v) (l := l) (r := r) hw h4
  exact h _ _ (node_ok hw h4 hz (by omega) h1 h2) q1 q2
theorem s_nodeX : SoundT C0 106 tNodeX := by
  refine .ofW W7 Try.func106 (by decide) rfl fun args H K h hB => ?_
  unfold tNodeX at h
  split at h <;> try exact h.elim
  unfold arM at h
  split at h <;> try exact h.elim
  rename_i l k v r _ rd fr nd ct us gn rl
  obtain ⟨hs, tl, tr, h1, h2, h3, h4, h5, h6, h7⟩ := h
  exact ⟨aNodeX, ⟨frame C0.ok s_makeOk _, frame C0.ok s_give _, trivial⟩, vc_nodeX ⟨us, gn, rl, fr, nd, ct, rd⟩ l k v r K hs tl tr h1 h2 h3 h4 h5 h6 h7⟩
theorem s_retL : SoundT C0 105 tRetL := s_retain.weak fun args H K h => by
  unfold tRetL at h
  unfold tRetain
  split at h <;> try exact h.elim
  unfold arM at h ⊢
  split at h <;> try exact h.elim
  rename_i i _ rd fr nd ct us gn rl
  obtain ⟨h1, ⟨hs, h2⟩, h3⟩ := h
  refine ⟨inU_of h2 h1, ⟨hs, h2⟩, fun e => ?_, fun e1 e2 => ?_, fun e S' e2 => ?_⟩
  · exact h3 _ (if_pos e).symm
  · exact absurd (h1.resolve_left e1) (by rw [e2]; decide)
  · refine h3 S' (e2.trans (if_neg fun e3 => ?_).symm)
    rw [e3, h2.us0 (Int.le_refl 0)] at e
    cases e
theorem s_rel : SoundT C0 29 tRel := s_release.weak fun args H K h => by
  unfold tRel at h
  unfold tRelease
  split at h <;> try exact h.elim
  unfold arM at h ⊢
  split at h <;> try exact h.elim
  obtain ⟨hs, h1, h2⟩ := h
  exact ⟨hs, h1, fun S' fr a1 a2 _ _ _ => h2 S' fr a1 a2⟩
theorem vc_opn (S : Arn) (i : Int) (K : KT) (hs : List Int) (a : Tr) (k v : Int) (b : Tr) (h1 : Wf S (i :: hs)) (h2 : Rep S (.node a k v b) i) (h3 : hs.length ≤ 900000000) (h4 : S.reads ≤ 3000000000000000000)
    (h : ∀ S' l r, OpnR S hs a k v b S' l r → K (.tup [.at (vU l), .agg [vI k, vI v], .at (vU r)]) (chS S') W7) :
    vc C0 aOpn Try.f104 [.at (.ptr 0 0), .at (vU i)] (chS S) (normK 7 (wideK W7 K)) := by
  refine Eq.mp (show ((inU i) ∧
(exW S) ∧
(S.reads < 4000000000000000000) ∧
(∀ S' : Arn, (((S') = (rdS S (S.us i).toNat)) → (brS (!S.us i) ((K (SV.tup [(TV.at (At.val (Value.int IntKind.u32 0))), (TV.agg [(At.val (Value.int IntKind.i64 0)), (At.val (Value.int IntKind.i64 0))]), (TV.at (At.val (Value.int IntKind.u32 0)))]) [(Chunk.box [(At.ptr 1 0), (At.slc 2), (At.slc 3), (At.val (Value.int IntKind.u64 (S'.reads)))]), (Chunk.box [(At.slc 4), (At.slc 5), (At.slc 6), (At.val (Value.int IntKind.u32 (S'.fresh)))]), (Chunk.row true (EC.node) (S'.nodes)), (Chunk.row true (EC.int) (S'.counts)), (Chunk.row true (EC.bool) (S'.used)), (Chunk.row true (EC.u32) (S'.gen)), (Chunk.row true (EC.u32) (S'.rel))] [0, 1, 2, 3, 4, 5, 6])) (((live S' (S.nd i).left) ∧ (exW S') ∧ (∀ S'1 : Arn, (((S'1) = (retL S' (S.nd i).left)) → ((live S'1 (S.nd i).right) ∧ (exW S'1) ∧ (∀ S'2 : Arn, (((S'2) = (retL S'1 (S.nd i).right)) → (∃ hs : List Int, ((Wf S'2 (i :: hs)) ∧ (∀ S'3 : Arn, (∀ fr : Int, ((Wf S'3 hs) → ((Kept S'2 S'3) →
    (K (SV.tup [(TV.at (At.val (Value.int IntKind.u32 ((S.nd i).left)))), (TV.agg [(At.val (Value.int IntKind.i64 ((S.nd i).key))), (At.val (Value.int IntKind.i64 ((S.nd i).value)))]), (TV.at (At.val (Value.int IntKind.u32 ((S.nd i).right))))]) [(Chunk.box [(At.ptr 1 0), (At.slc 2), (At.slc 3), (At.val (Value.int IntKind.u64 (S'3.reads)))]), (Chunk.box [(At.slc 4), (At.slc 5), (At.slc 6), (At.val (Value.int IntKind.u32 (S'3.fresh)))]), (Chunk.row true (EC.node) (S'3.nodes)), (Chunk.row true (EC.int) (S'3.counts)), (Chunk.row true (EC.bool) (S'3.used)), (Chunk.row true (EC.u32) (S'3.gen)), (Chunk.row true (EC.u32) (S'3.rel))] [0, 1, 2, 3, 4, 5, 6])))))))))))))))))) = _ by kernel_rfl) ?_
  obtain ⟨w1, w2, w3⟩ := opn_wf h1 h2 h3 (by omega)
  have hu := h2.1
  have hk := h1.kid i hu
  refine ⟨inU_of h1 (.inr hu), ⟨_, h1⟩, by omega, fun S1 e1 => ?_⟩
  have e1 : S1 = rdS S 1 := by rw [e1, hu]; rfl
  subst e1
  refine brS_of (fun d => ?_) fun _ => ?_
  · have d : (!S.us i) = true := d
    rw [hu] at d; cases d
  refine ⟨hk.1, ⟨_, w1⟩, fun S2 e2 => ?_⟩
  subst e2
  refine ⟨(by rcases hk.2 with c | c; exact .inl c; exact .inr (((retL_flds _ _).2.2.1 _).trans c)), ⟨_, w2⟩, fun S3 e3 => ?_⟩
  subst e3
  refine ⟨_, w3, fun S4 fr w4 kp => ?_⟩
  have o := opn_ok h1 h2 h3 (by omega) w4 kp
  have ek := h2.2.1
  have ev := h2.2.2.1
  subst ek ev
  exact h S4 _ _ o
theorem s_opn : SoundT C0 104 tOpn := by
  refine .ofW W7 Try.func104 (by decide) rfl fun args H K h hB => ?_
  unfold tOpn at h
  split at h <;> try exact h.elim
  unfold arM at h
  split at h <;> try exact h.elim
  rename_i i _ rd fr nd ct us gn rl
  obtain ⟨hs, a, k, v, b, h1, h2, h3, h4, h5⟩ := h
  exact ⟨aOpn, ⟨frame C0.ok s_node _, frame C0.ok s_retL _, frame C0.ok s_rel _, trivial⟩, vc_opn ⟨us, gn, rl, fr, nd, ct, rd⟩ i K hs a k v b h1 h2 h3 h4 h5⟩
/-- Where a rotation parts: the heavier side taken apart, its sizes read. -/
def PLl (S0 : Arn) (hs : List Int) (u w : Int → Int → Int) (A M B : Tr) (cnd : Prop) : Arn → Int → Int → Bool → Prop := fun S m s c =>
  Got S0 hs 0 3 S (u m s :: m :: w m s :: hs) ∧ Rep S A (u m s) ∧ Rep S M m ∧ Rep S B (w m s) ∧ (c = true → M = .nil ∨ cnd) ∧ (c = false → M ≠ .nil ∧ ¬ cnd)
theorem vc_ll (S : Arn) (l k v r : Int) (K : KT) (hs : List Int) (ta tm : Tr) (k2 v2 : Int) (ts : Tr) (hw : Wf S (l :: r :: hs)) (h1 : Rep S ta l) (h2 : Rep S (.node tm k2 v2 ts) r) (b1 : ta.Bal) (b2 : (Tr.node tm k2 v2 ts).Bal)
    (hn : near ta.size (tm.size + ts.size + 1)) (hb : ¬ balN ta.size ((tm.size + ts.size + 1 : Nat) : Int)) (hlt : ta.size < tm.size + ts.size + 1) (hz : ta.size + (tm.size + ts.size + 1) ≤ 900000) (hf : 3 ≤ S.free) (hl : hs.length ≤ 800000000) (hr : S.reads ≤ 2000000000000000000)
    (h : ∀ S' i, TrR S hs (ta.list ++ (k, v) :: (tm.list ++ (k2, v2) :: ts.list)) 3 4 S' i → K (.one (.at (vU i))) (chS S') W7) :
    vc C0 (aLl (PLl S hs (fun _ _ => l) (fun _ s => s) ta tm ts (balN ta.size tm.size ∧ balN ((ta.size + tm.size + 1 : Nat) : Int) ts.size)) k v k2 v2) Try.f133 [.at (.ptr 0 0), .at (vI ta.size), .at (vU l), .agg [vI k, vI v], .at (vU r)] (chS S) (normK 7 (wideK W7 K)) := by
  generalize hP : PLl S hs (fun _ _ => l) (fun _ s => s) ta tm ts (balN ta.size tm.size ∧ balN ((ta.size + tm.size + 1 : Nat) : Int) ts.size) = P
  generalize hsl : (ta.size : Int) = sl
  refine Eq.mp (show (∃ hs : List Int, (∃ a : Tr, (∃ k1 : Int, (∃ v1 : Int, (∃ b : Tr, ((Wf S (r :: hs)) ∧ (Rep S (a.node k1 v1 b) r) ∧ (hs.length ≤ 900000000) ∧ (S.reads ≤ 3000000000000000000) ∧ (∀ S' : Arn, (∀ l1 : Int, (∀ r1 : Int, ((OpnR S hs a k1 v1 b S' l1 r1) → ((inU l1) ∧ (exW S') ∧ (S'.reads < 4000000000000000000) ∧ (∀ S'1 : Arn, (((S'1) = (rdS S' (S'.us l1).toNat)) → ((brS (l1 == 0) ((∃ x : XLl P, (True ∧ (True ∧ ((Value.int IntKind.u32 (l)) = (Value.int IntKind.u32 (l))) ∧ True ∧ ((Value.int IntKind.u32 (l1)) = (Value.int IntKind.u32 (x.m))) ∧ True ∧ ((Value.int IntKind.u32 (r1)) = (Value.int IntKind.u32 (x.s))) ∧ ((Value.bool true) = (Value.bool (x.c))) ∧ True) ∧ (True ∧ True ∧ True ∧ ((Value.int IntKind.u64 (S'1.reads)) = (Value.int IntKind.u64 (x.S.reads))) ∧ True) ∧ (True ∧ True ∧ True ∧ ((Value.int IntKind.u32 (S'1.fresh)) = (Value.int IntKind.u32 (x.S.fresh))) ∧ True) ∧ ((S'1.nodes) = (x.S.nodes)) ∧ ((S'1.counts) = (x.S.counts)) ∧ ((S'1.used) = (x.S.used)) ∧ ((S'1.gen) = (x.S.gen)) ∧ ((S'1.rel) = (x.S.rel)) ∧ (((Value.int IntKind.i64 (k)) = (Value.int IntKind.i64 (k))) ∧ ((Value.int IntKind.i64 (v)) = (Value.int IntKind.i64 (v))) ∧ True) ∧ (((Value.int IntKind.i64 (k1)) = (Value.int IntKind.i64 (k2))) ∧ ((Value.int IntKind.i64 (v1)) = (Value.int IntKind.i64 (v2))) ∧ True) ∧ True))) (((0 ≤ sl) ∧ (sl ≤ 1000000) ∧ (0 ≤ (S'.nd l1).size) ∧ ((S'.nd l1).size ≤ 1000000) ∧ (∀ b1 : Bool, (((b1) = (balB sl (S'.nd l1).size)) → (brS (b1) (((inU r1) ∧ (exW S'1) ∧
    (S'1.reads < 4000000000000000000) ∧ (∀ S'2 : Arn, (((S'2) = (rdS S'1 (S'1.us r1).toNat)) → ((0 ≤ IntKind.i64.wrap (IntKind.i64.wrap (sl + (S'.nd l1).size) + 1)) ∧ (IntKind.i64.wrap (IntKind.i64.wrap (sl + (S'.nd l1).size) + 1) ≤ 1000000) ∧ (0 ≤ (S'1.nd r1).size) ∧ ((S'1.nd r1).size ≤ 1000000) ∧ (∀ b2 : Bool, (((b2) = (balB (IntKind.i64.wrap (IntKind.i64.wrap (sl + (S'.nd l1).size) + 1)) (S'1.nd r1).size)) → (∃ x : XLl P, (True ∧ (True ∧ ((Value.int IntKind.u32 (l)) = (Value.int IntKind.u32 (l))) ∧ True ∧ ((Value.int IntKind.u32 (l1)) = (Value.int IntKind.u32 (x.m))) ∧ True ∧ ((Value.int IntKind.u32 (r1)) = (Value.int IntKind.u32 (x.s))) ∧ ((Value.bool (b2)) = (Value.bool (x.c))) ∧ True) ∧ (True ∧ True ∧ True ∧ ((Value.int IntKind.u64 (S'2.reads)) = (Value.int IntKind.u64 (x.S.reads))) ∧ True) ∧ (True ∧ True ∧ True ∧ ((Value.int IntKind.u32 (S'2.fresh)) = (Value.int IntKind.u32 (x.S.fresh))) ∧ True) ∧ ((S'2.nodes) = (x.S.nodes)) ∧ ((S'2.counts) = (x.S.counts)) ∧ ((S'2.used) = (x.S.used)) ∧ ((S'2.gen) = (x.S.gen)) ∧ ((S'2.rel) = (x.S.rel)) ∧ (((Value.int IntKind.i64 (k)) = (Value.int IntKind.i64 (k))) ∧ ((Value.int IntKind.i64 (v)) = (Value.int IntKind.i64 (v))) ∧ True) ∧ (((Value.int IntKind.i64 (k1)) = (Value.int IntKind.i64 (k2))) ∧ ((Value.int IntKind.i64 (v1)) = (Value.int IntKind.i64 (v2))) ∧ True) ∧ True))))))))) ((∃ x : XLl P, (True ∧ (True ∧ ((Value.int IntKind.u32 (l)) = (Value.int IntKind.u32 (l))) ∧ True ∧
    ((Value.int IntKind.u32 (l1)) = (Value.int IntKind.u32 (x.m))) ∧ True ∧ ((Value.int IntKind.u32 (r1)) = (Value.int IntKind.u32 (x.s))) ∧ ((Value.bool false) = (Value.bool (x.c))) ∧ True) ∧ (True ∧ True ∧ True ∧ ((Value.int IntKind.u64 (S'1.reads)) = (Value.int IntKind.u64 (x.S.reads))) ∧ True) ∧ (True ∧ True ∧ True ∧ ((Value.int IntKind.u32 (S'1.fresh)) = (Value.int IntKind.u32 (x.S.fresh))) ∧ True) ∧ ((S'1.nodes) = (x.S.nodes)) ∧ ((S'1.counts) = (x.S.counts)) ∧ ((S'1.used) = (x.S.used)) ∧ ((S'1.gen) = (x.S.gen)) ∧ ((S'1.rel) = (x.S.rel)) ∧ (((Value.int IntKind.i64 (k)) = (Value.int IntKind.i64 (k))) ∧ ((Value.int IntKind.i64 (v)) = (Value.int IntKind.i64 (v))) ∧ True) ∧ (((Value.int IntKind.i64 (k1)) = (Value.int IntKind.i64 (k2))) ∧ ((Value.int IntKind.i64 (v1)) = (Value.int IntKind.i64 (v2))) ∧ True) ∧ True))))))))) ∧ (∀ x : XLl P, (True → (brS (x.c) ((((∃ hs1 : List Int, (∃ tl : Tr, (∃ tr : Tr, ((Wf x.S (l :: x.m :: hs1)) ∧ (Rep x.S tl l) ∧ (Rep x.S tr x.m) ∧ (tl.size + tr.size ≤ 1000000) ∧ (0 < x.S.free) ∧ (hs1.length ≤ 900000000) ∧ (∀ S'2 : Arn, (∀ i : Int, ((NodeR x.S hs1 k v tl tr S'2 i) → ((((S'2.nd i).left) = (l)) → ((((S'2.nd i).right) = (x.m)) → (∃ hs2 : List Int, (∃ tl1 : Tr, (∃ tr1 : Tr, ((Wf S'2 (i :: x.s :: hs2)) ∧ (Rep S'2 tl1 i) ∧ (Rep S'2 tr1 x.s) ∧ (tl1.size + tr1.size ≤ 1000000) ∧ (0 < S'2.free) ∧ (hs2.length ≤ 900000000) ∧ (∀ S'3 : Arn, (∀ i1 : Int, ((NodeR S'2 hs2 k2 v2 tl1 tr1 S'3 i1) → ((((S'3.nd i1).left) = (i)) → ((((S'3.nd i1).right) = (x.s)) →
    (K (SV.one (TV.at (At.val (Value.int IntKind.u32 (i1))))) [(Chunk.box [(At.ptr 1 0), (At.slc 2), (At.slc 3), (At.val (Value.int IntKind.u64 (S'3.reads)))]), (Chunk.box [(At.slc 4), (At.slc 5), (At.slc 6), (At.val (Value.int IntKind.u32 (S'3.fresh)))]), (Chunk.row true (EC.node) (S'3.nodes)), (Chunk.row true (EC.int) (S'3.counts)), (Chunk.row true (EC.bool) (S'3.used)), (Chunk.row true (EC.u32) (S'3.gen)), (Chunk.row true (EC.u32) (S'3.rel))] [0, 1, 2, 3, 4, 5, 6]))))))))))))))))))) ∧ (∃ hs1 : List Int, (∃ tl : Tr, (∃ tr : Tr, ((Wf x.S (l :: x.m :: hs1)) ∧ (Rep x.S tl l) ∧ (Rep x.S tr x.m) ∧ (tl.size + tr.size ≤ 1000000) ∧ (0 < x.S.free) ∧ (hs1.length ≤ 900000000) ∧ (∀ S'2 : Arn, (∀ i : Int, ((NodeR x.S hs1 k v tl tr S'2 i) → ((((S'2.nd i).left) = (l)) → ((((S'2.nd i).right) = (x.m)) → (∃ hs2 : List Int, (∃ tl1 : Tr, (∃ tr1 : Tr, ((Wf S'2 (i :: x.s :: hs2)) ∧ (Rep S'2 tl1 i) ∧ (Rep S'2 tr1 x.s) ∧ (tl1.size + tr1.size ≤ 1000000) ∧ (0 < S'2.free) ∧ (hs2.length ≤ 900000000) ∧ (∀ S'3 : Arn, (∀ i1 : Int, ((NodeR S'2 hs2 k2 v2 tl1 tr1 S'3 i1) → ((((S'3.nd i1).left) = (i)) → ((((S'3.nd i1).right) = (x.s)) →
    (K (SV.one (TV.at (At.val (Value.int IntKind.u32 (i1))))) [(Chunk.box [(At.ptr 1 0), (At.slc 2), (At.slc 3), (At.val (Value.int IntKind.u64 (S'3.reads)))]), (Chunk.box [(At.slc 4), (At.slc 5), (At.slc 6), (At.val (Value.int IntKind.u32 (S'3.fresh)))]), (Chunk.row true (EC.node) (S'3.nodes)), (Chunk.row true (EC.int) (S'3.counts)), (Chunk.row true (EC.bool) (S'3.used)), (Chunk.row true (EC.u32) (S'3.gen)), (Chunk.row true (EC.u32) (S'3.rel))] [0, 1, 2, 3, 4, 5, 6])))))))))))))))))))) ∧ (∃ hs1 : List Int, (∃ tl : Tr, (∃ tr : Tr, ((Wf x.S (l :: x.m :: hs1)) ∧ (Rep x.S tl l) ∧ (Rep x.S tr x.m) ∧ (tl.size + tr.size ≤ 1000000) ∧ (0 < x.S.free) ∧ (hs1.length ≤ 900000000) ∧ (∀ S'2 : Arn, (∀ i : Int, ((NodeR x.S hs1 k v tl tr S'2 i) → ((((S'2.nd i).left) = (l)) → ((((S'2.nd i).right) = (x.m)) → (∃ hs2 : List Int, (∃ tl1 : Tr, (∃ tr1 : Tr, ((Wf S'2 (i :: x.s :: hs2)) ∧ (Rep S'2 tl1 i) ∧ (Rep S'2 tr1 x.s) ∧ (tl1.size + tr1.size ≤ 1000000) ∧ (0 < S'2.free) ∧ (hs2.length ≤ 900000000) ∧ (∀ S'3 : Arn, (∀ i1 : Int, ((NodeR S'2 hs2 k2 v2 tl1 tr1 S'3 i1) → ((((S'3.nd i1).left) = (i)) → ((((S'3.nd i1).right) = (x.s)) →
    (K (SV.one (TV.at (At.val (Value.int IntKind.u32 (i1))))) [(Chunk.box [(At.ptr 1 0), (At.slc 2), (At.slc 3), (At.val (Value.int IntKind.u64 (S'3.reads)))]), (Chunk.box [(At.slc 4), (At.slc 5), (At.slc 6), (At.val (Value.int IntKind.u32 (S'3.fresh)))]), (Chunk.row true (EC.node) (S'3.nodes)), (Chunk.row true (EC.int) (S'3.counts)), (Chunk.row true (EC.bool) (S'3.used)), (Chunk.row true (EC.u32) (S'3.gen)), (Chunk.row true (EC.u32) (S'3.rel))] [0, 1, 2, 3, 4, 5, 6]))))))))))))))))))))) ((∃ hs1 : List Int, (∃ a1 : Tr, (∃ k3 : Int, (∃ v3 : Int, (∃ b1 : Tr, ((Wf x.S (x.m :: hs1)) ∧ (Rep x.S (a1.node k3 v3 b1) x.m) ∧ (hs1.length ≤ 900000000) ∧ (x.S.reads ≤ 3000000000000000000) ∧ (∀ S'2 : Arn, (∀ l2 : Int, (∀ r2 : Int, ((OpnR x.S hs1 a1 k3 v3 b1 S'2 l2 r2) → (∃ hs2 : List Int, (∃ tl : Tr, (∃ tr : Tr, ((Wf S'2 (l :: l2 :: hs2)) ∧ (Rep S'2 tl l) ∧ (Rep S'2 tr l2) ∧ (tl.size + tr.size ≤ 1000000) ∧ (0 < S'2.free) ∧ (hs2.length ≤ 900000000) ∧ (∀ S'3 : Arn, (∀ i : Int, ((NodeR S'2 hs2 k v tl tr S'3 i) → ((((S'3.nd i).left) = (l)) → ((((S'3.nd i).right) = (l2)) → ((∃ hs3 : List Int, (∃ tl1 : Tr, (∃ tr1 : Tr, ((Wf S'3 (r2 :: x.s :: hs3)) ∧ (Rep S'3 tl1 r2) ∧ (Rep S'3 tr1 x.s) ∧ (tl1.size + tr1.size ≤ 1000000) ∧ (0 < S'3.free) ∧ (hs3.length ≤ 900000000) ∧ (∀ S'4 : Arn, (∀ i1 : Int, ((NodeR S'3 hs3 k2 v2 tl1 tr1 S'4 i1) → ((((S'4.nd i1).left) = (r2)) → ((((S'4.nd i1).right) = (x.s)) → (∃ hs4 : List Int, (∃ tl2 : Tr, (∃ tr2 : Tr, ((Wf S'4 (i :: i1 :: hs4)) ∧ (Rep S'4 tl2 i) ∧ (Rep S'4 tr2 i1) ∧
    (tl2.size + tr2.size ≤ 1000000) ∧ (0 < S'4.free) ∧ (hs4.length ≤ 900000000) ∧ (∀ S'5 : Arn, (∀ i2 : Int, ((NodeR S'4 hs4 k3 v3 tl2 tr2 S'5 i2) → ((((S'5.nd i2).left) = (i)) → ((((S'5.nd i2).right) = (i1)) → (K (SV.one (TV.at (At.val (Value.int IntKind.u32 (i2))))) [(Chunk.box [(At.ptr 1 0), (At.slc 2), (At.slc 3), (At.val (Value.int IntKind.u64 (S'5.reads)))]), (Chunk.box [(At.slc 4), (At.slc 5), (At.slc 6), (At.val (Value.int IntKind.u32 (S'5.fresh)))]), (Chunk.row true (EC.node) (S'5.nodes)), (Chunk.row true (EC.int) (S'5.counts)), (Chunk.row true (EC.bool) (S'5.used)), (Chunk.row true (EC.u32) (S'5.gen)), (Chunk.row true (EC.u32) (S'5.rel))] [0, 1, 2, 3, 4, 5, 6]))))))))))))))))))) ∧ (∃ hs3 : List Int, (∃ tl1 : Tr, (∃ tr1 : Tr, ((Wf S'3 (r2 :: x.s :: hs3)) ∧ (Rep S'3 tl1 r2) ∧ (Rep S'3 tr1 x.s) ∧ (tl1.size + tr1.size ≤ 1000000) ∧ (0 < S'3.free) ∧ (hs3.length ≤ 900000000) ∧ (∀ S'4 : Arn, (∀ i1 : Int, ((NodeR S'3 hs3 k2 v2 tl1 tr1 S'4 i1) → ((((S'4.nd i1).left) = (r2)) → ((((S'4.nd i1).right) = (x.s)) → (∃ hs4 : List Int, (∃ tl2 : Tr, (∃ tr2 : Tr, ((Wf S'4 (i :: i1 :: hs4)) ∧ (Rep S'4 tl2 i) ∧ (Rep S'4 tr2 i1) ∧ (tl2.size + tr2.size ≤ 1000000) ∧ (0 < S'4.free) ∧ (hs4.length ≤ 900000000) ∧ (∀ S'5 : Arn, (∀ i2 : Int, ((NodeR S'4 hs4 k3 v3 tl2 tr2 S'5 i2) → ((((S'5.nd i2).left) = (i)) → ((((S'5.nd i2).right) = (i1)) →
    (K (SV.one (TV.at (At.val (Value.int IntKind.u32 (i2))))) [(Chunk.box [(At.ptr 1 0), (At.slc 2), (At.slc 3), (At.val (Value.int IntKind.u64 (S'5.reads)))]), (Chunk.box [(At.slc 4), (At.slc 5), (At.slc 6), (At.val (Value.int IntKind.u32 (S'5.fresh)))]), (Chunk.row true (EC.node) (S'5.nodes)), (Chunk.row true (EC.int) (S'5.counts)), (Chunk.row true (EC.bool) (S'5.used)), (Chunk.row true (EC.u32) (S'5.gen)), (Chunk.row true (EC.u32) (S'5.rel))] [0, 1, 2, 3, 4, 5, 6]))))))))))))))))))) ∧ (∃ hs3 : List Int, (∃ tl1 : Tr, (∃ tr1 : Tr, ((Wf S'3 (r2 :: x.s :: hs3)) ∧ (Rep S'3 tl1 r2) ∧ (Rep S'3 tr1 x.s) ∧ (tl1.size + tr1.size ≤ 1000000) ∧ (0 < S'3.free) ∧ (hs3.length ≤ 900000000) ∧ (∀ S'4 : Arn, (∀ i1 : Int, ((NodeR S'3 hs3 k2 v2 tl1 tr1 S'4 i1) → ((((S'4.nd i1).left) = (r2)) → ((((S'4.nd i1).right) = (x.s)) → (∃ hs4 : List Int, (∃ tl2 : Tr, (∃ tr2 : Tr, ((Wf S'4 (i :: i1 :: hs4)) ∧ (Rep S'4 tl2 i) ∧ (Rep S'4 tr2 i1) ∧ (tl2.size + tr2.size ≤ 1000000) ∧ (0 < S'4.free) ∧ (hs4.length ≤ 900000000) ∧ (∀ S'5 : Arn, (∀ i2 : Int, ((NodeR S'4 hs4 k3 v3 tl2 tr2 S'5 i2) → ((((S'5.nd i2).left) = (i)) → ((((S'5.nd i2).right) = (i1)) →
    (K (SV.one (TV.at (At.val (Value.int IntKind.u32 (i2))))) [(Chunk.box [(At.ptr 1 0), (At.slc 2), (At.slc 3), (At.val (Value.int IntKind.u64 (S'5.reads)))]), (Chunk.box [(At.slc 4), (At.slc 5), (At.slc 6), (At.val (Value.int IntKind.u32 (S'5.fresh)))]), (Chunk.row true (EC.node) (S'5.nodes)), (Chunk.row true (EC.int) (S'5.counts)), (Chunk.row true (EC.bool) (S'5.used)), (Chunk.row true (EC.u32) (S'5.gen)), (Chunk.row true (EC.u32) (S'5.rel))] [0, 1, 2, 3, 4, 5, 6]))))))))))))))))))))))))))))))))))))))))))))))))))))))))) = _ by kernel_rfl) ?_
  subst hP
  have w0 : Wf S (r :: l :: hs) := hw.perm (List.Perm.swap _ _ _)
  have hrd := hw.rds
  refine ⟨l :: hs, tm, k2, v2, ts, w0, h2, by simp; omega, by omega, fun S1 m s o => ?_⟩
  have g1 : Got S hs 0 1 S1 (l :: m :: s :: hs) := ((o.got.seq (Got.refl (hs := hs) o.got.wf) (fun _ h => by simp [h]) (fun _ h => h)).perm (perm_rot m s l hs)).mono (by omega) (by omega)
  have rA : Rep S1 ta l := h1.held hw o.got.stay (.inr (by simp))
  have rM := o.repl
  have rB := o.repr
  have zM := rM.size g1.wf
  have zB := rB.size g1.wf
  have q1 := g1.rd
  have q0 := g1.rd0
  refine ⟨inU_of g1.wf rM.us, ⟨_, g1.wf⟩, by omega, fun S2 e2 => ⟨brS_of (fun d => ⟨⟨S2, m, s, true, ?_⟩, ?_⟩) fun d => ?_, fun x _ => ?_⟩⟩
  · have d : m = 0 := by simpa using d
    subst d
    have := rM.zero g1.wf
    subst e2
    exact ⟨(g1.rdn (k := 2) (by cases S1.us 0 <;> decide) (by cases S1.us 0 <;> simp <;> omega)), rA.rdn, rM.rdn, rB.rdn, fun _ => .inl this, fun e => by cases e⟩
  · (repeat' first | exact trivial | exact rfl | refine And.intro ?_ ?_)
  · have d : m ≠ 0 := by simpa using d
    have um : S1.us m = true := rM.us.resolve_left d
    have e2 : S2 = rdS S1 1 := by rw [e2, um]; rfl
    subst e2
    have nM : tm ≠ .nil := fun e => by subst e; exact d rM
    have g2 : Got S hs 0 2 (rdS S1 1) (l :: m :: s :: hs) := g1.rdn (k := 1) (by omega) (by omega)
    rw [zM]
    refine ⟨by omega, by omega, by omega, by omega, fun c1 ec1 => brS_of (fun d1 => ?_) fun d1 => ⟨⟨rdS S1 1, m, s, false, ?_⟩, ?_⟩⟩
    · subst d1
      have q2 := g2.rd
      have wr : IntKind.i64.wrap (IntKind.i64.wrap (sl + (tm.size : Int)) + 1) = ((ta.size + tm.size + 1 : Nat) : Int) := by
        rw [wrap_id (x := sl + (tm.size : Int)) (by omega) (by omega), wrap_id (by omega) (by omega)]; omega
      rw [wr, show ((rdS S1 1).nd s).size = _ from zB]
      refine ⟨inU_of g2.wf (rB.rdn (n := 1)).us, ⟨_, g2.wf⟩, by omega, fun S3 e3 => ⟨by omega, by omega, by omega, by omega, fun c2 ec2 => ⟨⟨S3, m, s, c2, ?_⟩, ?_⟩⟩⟩
      · subst e3
        have c1b : balN ta.size tm.size := by rw [← hsl] at ec1; exact of_decide_eq_true ec1.symm
        refine ⟨g2.rdn (k := 1) (by cases (rdS S1 1).us s <;> decide) (by cases (rdS S1 1).us s <;> simp <;> omega), rA.rdn.rdn, rM.rdn.rdn, rB.rdn.rdn, fun e => .inr ⟨c1b, ?_⟩, fun e => ⟨nM, fun q => ?_⟩⟩
        · rw [e] at ec2; exact of_decide_eq_true ec2.symm
        · rw [e] at ec2; exact absurd q.2 (of_decide_eq_false ec2.symm)
      · (repeat' first | exact trivial | exact rfl | refine And.intro ?_ ?_)
    · refine ⟨g2.mono (by omega) (by omega), rA.rdn, rM.rdn, rB.rdn, (fun e => by cases e), fun _ => ⟨nM, fun q => ?_⟩⟩
      rw [d1, ← hsl] at ec1
      exact absurd q.1 (of_decide_eq_false ec1.symm)
    · (repeat' first | exact trivial | exact rfl | refine And.intro ?_ ?_)
  obtain ⟨S2, m, s, c, g, rA, rM, rB, hc1, hc2⟩ := x
  dsimp only at g rA rM rB ⊢
  have fr := g.free hw
  have grd := g.rd
  obtain ⟨bb, bM, bB⟩ := b2
  refine brS_of (fun d => ?_) fun d => ?_
  · have cnd : balN ta.size tm.size ∧ balN ((ta.size + tm.size + 1 : Nat) : Int) ts.size := by
      rcases hc1 d with e | e
      · subst e
        exact rot_nil hn bb hb hlt
      · exact e
    (repeat' apply And.intro)
    all_goals
      refine ⟨s :: hs, ta, tm, g.wf, rA, rM, by omega, by omega, by simp; omega, fun S3 i n1 _ _ => ?_⟩
      have f3 := (Got.node n1).free g.wf
      refine ⟨hs, _, ts, n1.wf, n1.rep, rB.held g.wf n1.stay (.inr (by simp)), by simp [Tr.size]; omega, by omega, by omega, fun S4 j n2 _ _ => h S4 j (single_okL g n1 n2 b1 bM bB cnd.1 cnd.2)⟩
  · obtain ⟨nM, ncnd⟩ := hc2 d
    cases tm with
    | nil => exact absurd rfl nM
    | node x k3 v3 y =>
      have zz : (Tr.node x k3 v3 y).size = x.size + y.size + 1 := by simp [Tr.size]; omega
      rw [zz] at hn hb hlt ncnd bb hz
      obtain ⟨bxy, bx, bY⟩ := bM
      obtain ⟨c1, c2, c3⟩ := rot_two hn bb bxy hb hlt ncnd
      refine ⟨l :: s :: hs, x, k3, v3, y, g.wf.perm (List.Perm.swap _ _ _), rM, by simp; omega, by omega, fun S3 ix iy o2 => ?_⟩
      have f3 := o2.got.free g.wf
      have rA3 : Rep S3 ta l := rA.held g.wf o2.got.stay (.inr (by simp))
      have rB3 : Rep S3 ts s := rB.held g.wf o2.got.stay (.inr (by simp))
      refine ⟨iy :: s :: hs, ta, x, o2.got.wf.perm (perm_rot ix iy l (s :: hs)), rA3, o2.repl, by omega, by omega, by simp; omega, fun S4 i n1 _ _ => ?_⟩
      have f4 := (Got.node n1).free (o2.got.wf)
      have ry : Rep S4 y iy := o2.repr.held o2.got.wf n1.stay (.inr (by simp))
      have rB4 : Rep S4 ts s := rB3.held o2.got.wf n1.stay (.inr (by simp))
      (repeat' apply And.intro)
      all_goals
        refine ⟨i :: hs, y, ts, n1.wf.perm (perm_tor i iy s hs), ry, rB4, by omega, by omega, by simp; omega, fun S5 j n2 _ _ => ?_⟩
        have f5 := (Got.node n2).free n1.wf
        refine ⟨hs, _, _, n2.wf.perm (List.Perm.swap _ _ _), n1.rep.held n1.wf n2.stay (.inr (by simp)), n2.rep, by simp [Tr.size]; omega, by omega, by omega, fun S6 q n3 _ _ => h S6 q ?_⟩
        have := double_ok g o2 n1 n2 n3 b1 bx bY bB c1 c2 c3
        simpa [Tr.list] using this
theorem s_ll : SoundT C0 133 tLl := by
  refine .ofW W7 Try.func133 (by decide) rfl fun args H K h hB => ?_
  unfold tLl at h
  split at h <;> try exact h.elim
  unfold arM at h
  split at h <;> try exact h.elim
  rename_i sl l k v r _ rd fr nd ct us gn rl
  obtain ⟨hs, ta, tb, h1, h2, h3, h4, h5, h6, h7, h8, h9, h10, h11, h12, h13, h14⟩ := h
  subst h9
  cases tb with
  | nil => exact absurd h8 (Nat.not_lt_zero _)
  | node tm k2 v2 ts =>
    have zz : (Tr.node tm k2 v2 ts).size = tm.size + ts.size + 1 := by simp [Tr.size]; omega
    rw [zz] at h6 h7 h8 h10
    refine ⟨_, ?_, vc_ll ⟨us, gn, rl, fr, nd, ct, rd⟩ l k v r K hs ta tm k2 v2 ts h1 h2 h3 h4 h5 h6 h7 h8 h10 h11 h12 h13 h14⟩
    exact ⟨frame C0.ok s_opn _, frame C0.ok s_size _, frame C0.ok s_balS _, frame C0.ok s_nodeX _, trivial⟩
theorem vc_lr (S : Arn) (l k v r : Int) (K : KT) (hs : List Int) (tb tm : Tr) (k2 v2 : Int) (ts : Tr) (hw : Wf S (l :: r :: hs)) (h1 : Rep S (.node ts k2 v2 tm) l) (h2 : Rep S tb r) (b1 : (Tr.node ts k2 v2 tm).Bal) (b2 : tb.Bal)
    (hn : near tb.size (tm.size + ts.size + 1)) (hb : ¬ balN tb.size ((tm.size + ts.size + 1 : Nat) : Int)) (hlt : tb.size < tm.size + ts.size + 1) (hz : tb.size + (tm.size + ts.size + 1) ≤ 900000) (hf : 3 ≤ S.free) (hl : hs.length ≤ 800000000) (hr : S.reads ≤ 2000000000000000000)
    (h : ∀ S' i, TrR S hs (ts.list ++ (k2, v2) :: (tm.list ++ (k, v) :: tb.list)) 3 4 S' i → K (.one (.at (vU i))) (chS S') W7) :
    vc C0 (aLr (PLl S hs (fun _ s => s) (fun _ _ => r) ts tm tb (balN tm.size tb.size ∧ balN ts.size ((tm.size + tb.size + 1 : Nat) : Int))) k v k2 v2) Try.f134 [.at (.ptr 0 0), .at (vI tb.size), .at (vU l), .agg [vI k, vI v], .at (vU r)] (chS S) (normK 7 (wideK W7 K)) := by
  generalize hP : PLl S hs (fun _ s => s) (fun _ _ => r) ts tm tb (balN tm.size tb.size ∧ balN ts.size ((tm.size + tb.size + 1 : Nat) : Int)) = P
  generalize hsl : (tb.size : Int) = sr
  refine Eq.mp (show (∃ hs : List Int, (∃ a : Tr, (∃ k1 : Int, (∃ v1 : Int, (∃ b : Tr, ((Wf S (l :: hs)) ∧ (Rep S (a.node k1 v1 b) l) ∧ (hs.length ≤ 900000000) ∧ (S.reads ≤ 3000000000000000000) ∧ (∀ S' : Arn, (∀ l1 : Int, (∀ r1 : Int, ((OpnR S hs a k1 v1 b S' l1 r1) → ((inU r1) ∧ (exW S') ∧ (S'.reads < 4000000000000000000) ∧ (∀ S'1 : Arn, (((S'1) = (rdS S' (S'.us r1).toNat)) → ((brS (r1 == 0) ((∃ x : XLl P, (True ∧ (True ∧ ((Value.int IntKind.u32 (r)) = (Value.int IntKind.u32 (r))) ∧ True ∧ ((Value.int IntKind.u32 (l1)) = (Value.int IntKind.u32 (x.s))) ∧ True ∧ ((Value.int IntKind.u32 (r1)) = (Value.int IntKind.u32 (x.m))) ∧ ((Value.bool true) = (Value.bool (x.c))) ∧ True) ∧ (True ∧ True ∧ True ∧ ((Value.int IntKind.u64 (S'1.reads)) = (Value.int IntKind.u64 (x.S.reads))) ∧ True) ∧ (True ∧ True ∧ True ∧ ((Value.int IntKind.u32 (S'1.fresh)) = (Value.int IntKind.u32 (x.S.fresh))) ∧ True) ∧ ((S'1.nodes) = (x.S.nodes)) ∧ ((S'1.counts) = (x.S.counts)) ∧ ((S'1.used) = (x.S.used)) ∧ ((S'1.gen) = (x.S.gen)) ∧ ((S'1.rel) = (x.S.rel)) ∧ (((Value.int IntKind.i64 (k)) = (Value.int IntKind.i64 (k))) ∧ ((Value.int IntKind.i64 (v)) = (Value.int IntKind.i64 (v))) ∧ True) ∧ (((Value.int IntKind.i64 (k1)) = (Value.int IntKind.i64 (k2))) ∧ ((Value.int IntKind.i64 (v1)) = (Value.int IntKind.i64 (v2))) ∧ True) ∧ True))) (((0 ≤ (S'.nd r1).size) ∧ ((S'.nd r1).size ≤ 1000000) ∧ (0 ≤ sr) ∧ (sr ≤ 1000000) ∧ (∀ b1 : Bool, (((b1) = (balB (S'.nd r1).size sr)) → (brS (b1) (((inU l1) ∧ (exW S'1) ∧
    (S'1.reads < 4000000000000000000) ∧ (∀ S'2 : Arn, (((S'2) = (rdS S'1 (S'1.us l1).toNat)) → ((0 ≤ (S'1.nd l1).size) ∧ ((S'1.nd l1).size ≤ 1000000) ∧ (0 ≤ IntKind.i64.wrap (IntKind.i64.wrap ((S'.nd r1).size + sr) + 1)) ∧ (IntKind.i64.wrap (IntKind.i64.wrap ((S'.nd r1).size + sr) + 1) ≤ 1000000) ∧ (∀ b2 : Bool, (((b2) = (balB (S'1.nd l1).size (IntKind.i64.wrap (IntKind.i64.wrap ((S'.nd r1).size + sr) + 1)))) → (∃ x : XLl P, (True ∧ (True ∧ ((Value.int IntKind.u32 (r)) = (Value.int IntKind.u32 (r))) ∧ True ∧ ((Value.int IntKind.u32 (l1)) = (Value.int IntKind.u32 (x.s))) ∧ True ∧ ((Value.int IntKind.u32 (r1)) = (Value.int IntKind.u32 (x.m))) ∧ ((Value.bool (b2)) = (Value.bool (x.c))) ∧ True) ∧ (True ∧ True ∧ True ∧ ((Value.int IntKind.u64 (S'2.reads)) = (Value.int IntKind.u64 (x.S.reads))) ∧ True) ∧ (True ∧ True ∧ True ∧ ((Value.int IntKind.u32 (S'2.fresh)) = (Value.int IntKind.u32 (x.S.fresh))) ∧ True) ∧ ((S'2.nodes) = (x.S.nodes)) ∧ ((S'2.counts) = (x.S.counts)) ∧ ((S'2.used) = (x.S.used)) ∧ ((S'2.gen) = (x.S.gen)) ∧ ((S'2.rel) = (x.S.rel)) ∧ (((Value.int IntKind.i64 (k)) = (Value.int IntKind.i64 (k))) ∧ ((Value.int IntKind.i64 (v)) = (Value.int IntKind.i64 (v))) ∧ True) ∧ (((Value.int IntKind.i64 (k1)) = (Value.int IntKind.i64 (k2))) ∧ ((Value.int IntKind.i64 (v1)) = (Value.int IntKind.i64 (v2))) ∧ True) ∧ True))))))))) ((∃ x : XLl P, (True ∧ (True ∧ ((Value.int IntKind.u32 (r)) = (Value.int IntKind.u32 (r))) ∧ True ∧
    ((Value.int IntKind.u32 (l1)) = (Value.int IntKind.u32 (x.s))) ∧ True ∧ ((Value.int IntKind.u32 (r1)) = (Value.int IntKind.u32 (x.m))) ∧ ((Value.bool false) = (Value.bool (x.c))) ∧ True) ∧ (True ∧ True ∧ True ∧ ((Value.int IntKind.u64 (S'1.reads)) = (Value.int IntKind.u64 (x.S.reads))) ∧ True) ∧ (True ∧ True ∧ True ∧ ((Value.int IntKind.u32 (S'1.fresh)) = (Value.int IntKind.u32 (x.S.fresh))) ∧ True) ∧ ((S'1.nodes) = (x.S.nodes)) ∧ ((S'1.counts) = (x.S.counts)) ∧ ((S'1.used) = (x.S.used)) ∧ ((S'1.gen) = (x.S.gen)) ∧ ((S'1.rel) = (x.S.rel)) ∧ (((Value.int IntKind.i64 (k)) = (Value.int IntKind.i64 (k))) ∧ ((Value.int IntKind.i64 (v)) = (Value.int IntKind.i64 (v))) ∧ True) ∧ (((Value.int IntKind.i64 (k1)) = (Value.int IntKind.i64 (k2))) ∧ ((Value.int IntKind.i64 (v1)) = (Value.int IntKind.i64 (v2))) ∧ True) ∧ True))))))))) ∧ (∀ x : XLl P, (True → (brS (x.c) (((∃ hs1 : List Int, (∃ tl : Tr, (∃ tr : Tr, ((Wf x.S (x.m :: r :: hs1)) ∧ (Rep x.S tl x.m) ∧ (Rep x.S tr r) ∧ (tl.size + tr.size ≤ 1000000) ∧ (0 < x.S.free) ∧ (hs1.length ≤ 900000000) ∧ (∀ S'2 : Arn, (∀ i : Int, ((NodeR x.S hs1 k v tl tr S'2 i) → ((((S'2.nd i).left) = (x.m)) → ((((S'2.nd i).right) = (r)) → (∃ hs2 : List Int, (∃ tl1 : Tr, (∃ tr1 : Tr, ((Wf S'2 (x.s :: i :: hs2)) ∧ (Rep S'2 tl1 x.s) ∧ (Rep S'2 tr1 i) ∧ (tl1.size + tr1.size ≤ 1000000) ∧ (0 < S'2.free) ∧ (hs2.length ≤ 900000000) ∧ (∀ S'3 : Arn, (∀ i1 : Int, ((NodeR S'2 hs2 k2 v2 tl1 tr1 S'3 i1) → ((((S'3.nd i1).left) = (x.s)) → ((((S'3.nd i1).right) = (i)) →
    (K (SV.one (TV.at (At.val (Value.int IntKind.u32 (i1))))) [(Chunk.box [(At.ptr 1 0), (At.slc 2), (At.slc 3), (At.val (Value.int IntKind.u64 (S'3.reads)))]), (Chunk.box [(At.slc 4), (At.slc 5), (At.slc 6), (At.val (Value.int IntKind.u32 (S'3.fresh)))]), (Chunk.row true (EC.node) (S'3.nodes)), (Chunk.row true (EC.int) (S'3.counts)), (Chunk.row true (EC.bool) (S'3.used)), (Chunk.row true (EC.u32) (S'3.gen)), (Chunk.row true (EC.u32) (S'3.rel))] [0, 1, 2, 3, 4, 5, 6]))))))))))))))))))) ∧ (∃ hs1 : List Int, (∃ tl : Tr, (∃ tr : Tr, ((Wf x.S (x.m :: r :: hs1)) ∧ (Rep x.S tl x.m) ∧ (Rep x.S tr r) ∧ (tl.size + tr.size ≤ 1000000) ∧ (0 < x.S.free) ∧ (hs1.length ≤ 900000000) ∧ (∀ S'2 : Arn, (∀ i : Int, ((NodeR x.S hs1 k v tl tr S'2 i) → ((((S'2.nd i).left) = (x.m)) → ((((S'2.nd i).right) = (r)) → (∃ hs2 : List Int, (∃ tl1 : Tr, (∃ tr1 : Tr, ((Wf S'2 (x.s :: i :: hs2)) ∧ (Rep S'2 tl1 x.s) ∧ (Rep S'2 tr1 i) ∧ (tl1.size + tr1.size ≤ 1000000) ∧ (0 < S'2.free) ∧ (hs2.length ≤ 900000000) ∧ (∀ S'3 : Arn, (∀ i1 : Int, ((NodeR S'2 hs2 k2 v2 tl1 tr1 S'3 i1) → ((((S'3.nd i1).left) = (x.s)) → ((((S'3.nd i1).right) = (i)) →
    (K (SV.one (TV.at (At.val (Value.int IntKind.u32 (i1))))) [(Chunk.box [(At.ptr 1 0), (At.slc 2), (At.slc 3), (At.val (Value.int IntKind.u64 (S'3.reads)))]), (Chunk.box [(At.slc 4), (At.slc 5), (At.slc 6), (At.val (Value.int IntKind.u32 (S'3.fresh)))]), (Chunk.row true (EC.node) (S'3.nodes)), (Chunk.row true (EC.int) (S'3.counts)), (Chunk.row true (EC.bool) (S'3.used)), (Chunk.row true (EC.u32) (S'3.gen)), (Chunk.row true (EC.u32) (S'3.rel))] [0, 1, 2, 3, 4, 5, 6]))))))))))))))))))) ∧ (∃ hs1 : List Int, (∃ tl : Tr, (∃ tr : Tr, ((Wf x.S (x.m :: r :: hs1)) ∧ (Rep x.S tl x.m) ∧ (Rep x.S tr r) ∧ (tl.size + tr.size ≤ 1000000) ∧ (0 < x.S.free) ∧ (hs1.length ≤ 900000000) ∧ (∀ S'2 : Arn, (∀ i : Int, ((NodeR x.S hs1 k v tl tr S'2 i) → ((((S'2.nd i).left) = (x.m)) → ((((S'2.nd i).right) = (r)) → (∃ hs2 : List Int, (∃ tl1 : Tr, (∃ tr1 : Tr, ((Wf S'2 (x.s :: i :: hs2)) ∧ (Rep S'2 tl1 x.s) ∧ (Rep S'2 tr1 i) ∧ (tl1.size + tr1.size ≤ 1000000) ∧ (0 < S'2.free) ∧ (hs2.length ≤ 900000000) ∧ (∀ S'3 : Arn, (∀ i1 : Int, ((NodeR S'2 hs2 k2 v2 tl1 tr1 S'3 i1) → ((((S'3.nd i1).left) = (x.s)) → ((((S'3.nd i1).right) = (i)) →
    (K (SV.one (TV.at (At.val (Value.int IntKind.u32 (i1))))) [(Chunk.box [(At.ptr 1 0), (At.slc 2), (At.slc 3), (At.val (Value.int IntKind.u64 (S'3.reads)))]), (Chunk.box [(At.slc 4), (At.slc 5), (At.slc 6), (At.val (Value.int IntKind.u32 (S'3.fresh)))]), (Chunk.row true (EC.node) (S'3.nodes)), (Chunk.row true (EC.int) (S'3.counts)), (Chunk.row true (EC.bool) (S'3.used)), (Chunk.row true (EC.u32) (S'3.gen)), (Chunk.row true (EC.u32) (S'3.rel))] [0, 1, 2, 3, 4, 5, 6]))))))))))))))))))))) ((∃ hs1 : List Int, (∃ a1 : Tr, (∃ k3 : Int, (∃ v3 : Int, (∃ b1 : Tr, ((Wf x.S (x.m :: hs1)) ∧ (Rep x.S (a1.node k3 v3 b1) x.m) ∧ (hs1.length ≤ 900000000) ∧ (x.S.reads ≤ 3000000000000000000) ∧ (∀ S'2 : Arn, (∀ l2 : Int, (∀ r2 : Int, ((OpnR x.S hs1 a1 k3 v3 b1 S'2 l2 r2) → (∃ hs2 : List Int, (∃ tl : Tr, (∃ tr : Tr, ((Wf S'2 (x.s :: l2 :: hs2)) ∧ (Rep S'2 tl x.s) ∧ (Rep S'2 tr l2) ∧ (tl.size + tr.size ≤ 1000000) ∧ (0 < S'2.free) ∧ (hs2.length ≤ 900000000) ∧ (∀ S'3 : Arn, (∀ i : Int, ((NodeR S'2 hs2 k2 v2 tl tr S'3 i) → ((((S'3.nd i).left) = (x.s)) → ((((S'3.nd i).right) = (l2)) → ((∃ hs3 : List Int, (∃ tl1 : Tr, (∃ tr1 : Tr, ((Wf S'3 (r2 :: r :: hs3)) ∧ (Rep S'3 tl1 r2) ∧ (Rep S'3 tr1 r) ∧ (tl1.size + tr1.size ≤ 1000000) ∧ (0 < S'3.free) ∧ (hs3.length ≤ 900000000) ∧ (∀ S'4 : Arn, (∀ i1 : Int, ((NodeR S'3 hs3 k v tl1 tr1 S'4 i1) → ((((S'4.nd i1).left) = (r2)) → ((((S'4.nd i1).right) = (r)) → (∃ hs4 : List Int, (∃ tl2 : Tr, (∃ tr2 : Tr, ((Wf S'4 (i :: i1 :: hs4)) ∧ (Rep S'4 tl2 i) ∧ (Rep S'4 tr2 i1) ∧
    (tl2.size + tr2.size ≤ 1000000) ∧ (0 < S'4.free) ∧ (hs4.length ≤ 900000000) ∧ (∀ S'5 : Arn, (∀ i2 : Int, ((NodeR S'4 hs4 k3 v3 tl2 tr2 S'5 i2) → ((((S'5.nd i2).left) = (i)) → ((((S'5.nd i2).right) = (i1)) → (K (SV.one (TV.at (At.val (Value.int IntKind.u32 (i2))))) [(Chunk.box [(At.ptr 1 0), (At.slc 2), (At.slc 3), (At.val (Value.int IntKind.u64 (S'5.reads)))]), (Chunk.box [(At.slc 4), (At.slc 5), (At.slc 6), (At.val (Value.int IntKind.u32 (S'5.fresh)))]), (Chunk.row true (EC.node) (S'5.nodes)), (Chunk.row true (EC.int) (S'5.counts)), (Chunk.row true (EC.bool) (S'5.used)), (Chunk.row true (EC.u32) (S'5.gen)), (Chunk.row true (EC.u32) (S'5.rel))] [0, 1, 2, 3, 4, 5, 6]))))))))))))))))))) ∧ (∃ hs3 : List Int, (∃ tl1 : Tr, (∃ tr1 : Tr, ((Wf S'3 (r2 :: r :: hs3)) ∧ (Rep S'3 tl1 r2) ∧ (Rep S'3 tr1 r) ∧ (tl1.size + tr1.size ≤ 1000000) ∧ (0 < S'3.free) ∧ (hs3.length ≤ 900000000) ∧ (∀ S'4 : Arn, (∀ i1 : Int, ((NodeR S'3 hs3 k v tl1 tr1 S'4 i1) → ((((S'4.nd i1).left) = (r2)) → ((((S'4.nd i1).right) = (r)) → (∃ hs4 : List Int, (∃ tl2 : Tr, (∃ tr2 : Tr, ((Wf S'4 (i :: i1 :: hs4)) ∧ (Rep S'4 tl2 i) ∧ (Rep S'4 tr2 i1) ∧ (tl2.size + tr2.size ≤ 1000000) ∧ (0 < S'4.free) ∧ (hs4.length ≤ 900000000) ∧ (∀ S'5 : Arn, (∀ i2 : Int, ((NodeR S'4 hs4 k3 v3 tl2 tr2 S'5 i2) → ((((S'5.nd i2).left) = (i)) → ((((S'5.nd i2).right) = (i1)) →
    (K (SV.one (TV.at (At.val (Value.int IntKind.u32 (i2))))) [(Chunk.box [(At.ptr 1 0), (At.slc 2), (At.slc 3), (At.val (Value.int IntKind.u64 (S'5.reads)))]), (Chunk.box [(At.slc 4), (At.slc 5), (At.slc 6), (At.val (Value.int IntKind.u32 (S'5.fresh)))]), (Chunk.row true (EC.node) (S'5.nodes)), (Chunk.row true (EC.int) (S'5.counts)), (Chunk.row true (EC.bool) (S'5.used)), (Chunk.row true (EC.u32) (S'5.gen)), (Chunk.row true (EC.u32) (S'5.rel))] [0, 1, 2, 3, 4, 5, 6]))))))))))))))))))) ∧ (∃ hs3 : List Int, (∃ tl1 : Tr, (∃ tr1 : Tr, ((Wf S'3 (r2 :: r :: hs3)) ∧ (Rep S'3 tl1 r2) ∧ (Rep S'3 tr1 r) ∧ (tl1.size + tr1.size ≤ 1000000) ∧ (0 < S'3.free) ∧ (hs3.length ≤ 900000000) ∧ (∀ S'4 : Arn, (∀ i1 : Int, ((NodeR S'3 hs3 k v tl1 tr1 S'4 i1) → ((((S'4.nd i1).left) = (r2)) → ((((S'4.nd i1).right) = (r)) → (∃ hs4 : List Int, (∃ tl2 : Tr, (∃ tr2 : Tr, ((Wf S'4 (i :: i1 :: hs4)) ∧ (Rep S'4 tl2 i) ∧ (Rep S'4 tr2 i1) ∧ (tl2.size + tr2.size ≤ 1000000) ∧ (0 < S'4.free) ∧ (hs4.length ≤ 900000000) ∧ (∀ S'5 : Arn, (∀ i2 : Int, ((NodeR S'4 hs4 k3 v3 tl2 tr2 S'5 i2) → ((((S'5.nd i2).left) = (i)) → ((((S'5.nd i2).right) = (i1)) →
    (K (SV.one (TV.at (At.val (Value.int IntKind.u32 (i2))))) [(Chunk.box [(At.ptr 1 0), (At.slc 2), (At.slc 3), (At.val (Value.int IntKind.u64 (S'5.reads)))]), (Chunk.box [(At.slc 4), (At.slc 5), (At.slc 6), (At.val (Value.int IntKind.u32 (S'5.fresh)))]), (Chunk.row true (EC.node) (S'5.nodes)), (Chunk.row true (EC.int) (S'5.counts)), (Chunk.row true (EC.bool) (S'5.used)), (Chunk.row true (EC.u32) (S'5.gen)), (Chunk.row true (EC.u32) (S'5.rel))] [0, 1, 2, 3, 4, 5, 6]))))))))))))))))))))))))))))))))))))))))))))))))))))))))) = _ by kernel_rfl) ?_
  subst hP
  have hrd := hw.rds
  refine ⟨r :: hs, ts, k2, v2, tm, hw, h1, by simp; omega, by omega, fun S1 s m o => ?_⟩
  have g1 : Got S hs 0 1 S1 (s :: m :: r :: hs) := (o.got.seq (Got.refl (hs := hs) o.got.wf) (fun _ h => by simp [h]) (fun _ h => h)).mono (by omega) (by omega)
  have rB : Rep S1 tb r := h2.held hw o.got.stay (.inr (by simp))
  have rM := o.repr
  have rA := o.repl
  have zM := rM.size g1.wf
  have zA := rA.size g1.wf
  have q1 := g1.rd
  have q0 := g1.rd0
  refine ⟨inU_of g1.wf rM.us, ⟨_, g1.wf⟩, by omega, fun S2 e2 => ⟨brS_of (fun d => ⟨⟨S2, m, s, true, ?_⟩, ?_⟩) fun d => ?_, fun x _ => ?_⟩⟩
  · have d : m = 0 := by simpa using d
    subst d
    have := rM.zero g1.wf
    subst e2
    exact ⟨(g1.rdn (k := 2) (by cases S1.us 0 <;> decide) (by cases S1.us 0 <;> simp <;> omega)), rA.rdn, rM.rdn, rB.rdn, fun _ => .inl this, fun e => by cases e⟩
  · (repeat' first | exact trivial | exact rfl | refine And.intro ?_ ?_)
  · have d : m ≠ 0 := by simpa using d
    have um : S1.us m = true := rM.us.resolve_left d
    have e2 : S2 = rdS S1 1 := by rw [e2, um]; rfl
    subst e2
    have nM : tm ≠ .nil := fun e => by subst e; exact d rM
    have g2 : Got S hs 0 2 (rdS S1 1) (s :: m :: r :: hs) := g1.rdn (k := 1) (by omega) (by omega)
    rw [zM]
    refine ⟨by omega, by omega, by omega, by omega, fun c1 ec1 => brS_of (fun d1 => ?_) fun d1 => ⟨⟨rdS S1 1, m, s, false, ?_⟩, ?_⟩⟩
    · subst d1
      have q2 := g2.rd
      have wr : IntKind.i64.wrap (IntKind.i64.wrap ((tm.size : Int) + sr) + 1) = ((tm.size + tb.size + 1 : Nat) : Int) := by
        rw [wrap_id (x := (tm.size : Int) + sr) (by omega) (by omega), wrap_id (by omega) (by omega)]; omega
      rw [wr, show ((rdS S1 1).nd s).size = _ from zA]
      refine ⟨inU_of g2.wf (rA.rdn (n := 1)).us, ⟨_, g2.wf⟩, by omega, fun S3 e3 => ⟨by omega, by omega, by omega, by omega, fun c2 ec2 => ⟨⟨S3, m, s, c2, ?_⟩, ?_⟩⟩⟩
      · subst e3
        have c1b : balN tm.size tb.size := by rw [← hsl] at ec1; exact of_decide_eq_true ec1.symm
        refine ⟨g2.rdn (k := 1) (by cases (rdS S1 1).us s <;> decide) (by cases (rdS S1 1).us s <;> simp <;> omega), rA.rdn.rdn, rM.rdn.rdn, rB.rdn.rdn, fun e => .inr ⟨c1b, ?_⟩, fun e => ⟨nM, fun q => ?_⟩⟩
        · rw [e] at ec2; exact of_decide_eq_true ec2.symm
        · rw [e] at ec2; exact absurd q.2 (of_decide_eq_false ec2.symm)
      · (repeat' first | exact trivial | exact rfl | refine And.intro ?_ ?_)
    · refine ⟨g2.mono (by omega) (by omega), rA.rdn, rM.rdn, rB.rdn, (fun e => by cases e), fun _ => ⟨nM, fun q => ?_⟩⟩
      rw [d1, ← hsl] at ec1
      exact absurd q.1 (of_decide_eq_false ec1.symm)
    · (repeat' first | exact trivial | exact rfl | refine And.intro ?_ ?_)
  obtain ⟨S2, m, s, c, g, rA, rM, rB, hc1, hc2⟩ := x
  dsimp only at g rA rM rB ⊢
  have fr := g.free hw
  have grd := g.rd
  obtain ⟨bb, bA, bM⟩ := b1
  have bb' := balN_comm bb
  refine brS_of (fun d => ?_) fun d => ?_
  · have cnd : balN tm.size tb.size ∧ balN ts.size ((tm.size + tb.size + 1 : Nat) : Int) := by
      rcases hc1 d with e | e
      · subst e
        have := rot_nil hn bb' hb hlt
        refine ⟨balN_comm this.1, balN_comm ?_⟩
        have e2 : ((tb.size + 0 + 1 : Nat) : Int) = (((Tr.nil).size + tb.size + 1 : Nat) : Int) := by simp [Tr.size]
        rw [← e2]; exact this.2
      · exact e
    (repeat' apply And.intro)
    all_goals
      refine ⟨s :: hs, tm, tb, g.wf.perm (perm_tor s m r hs), rM, rB, by omega, by omega, by simp; omega, fun S3 i n1 _ _ => ?_⟩
      have f3 := (Got.node n1).free g.wf
      refine ⟨hs, ts, _, n1.wf.perm (List.Perm.swap _ _ _), rA.held g.wf n1.stay (.inr (by simp)), n1.rep, by simp [Tr.size]; omega, by omega, by omega, fun S4 j n2 _ _ => h S4 j (single_okR g n1 n2 bA bM b2 cnd.1 cnd.2)⟩
  · obtain ⟨nM, ncnd⟩ := hc2 d
    cases tm with
    | nil => exact absurd rfl nM
    | node x k3 v3 y =>
      have zz : (Tr.node x k3 v3 y).size = y.size + x.size + 1 := by simp [Tr.size]; omega
      rw [zz] at hn hb hlt ncnd bb' hz
      obtain ⟨bxy, bx, bY⟩ := bM
      have ncnd' : ¬ (balN tb.size ((y.size + x.size + 1 : Nat) : Int) ∧ balN ((tb.size + (y.size + x.size + 1) + 1 : Nat) : Int) ts.size) := fun q => ncnd ⟨balN_comm q.1, by
        have e : ((y.size + x.size + 1 + tb.size + 1 : Nat) : Int) = ((tb.size + (y.size + x.size + 1) + 1 : Nat) : Int) := by omega
        rw [e]; exact balN_comm q.2⟩
      obtain ⟨c1, c2, c3⟩ := rot_two hn bb' (balN_comm bxy) hb hlt ncnd'
      refine ⟨s :: r :: hs, x, k3, v3, y, g.wf.perm (List.Perm.swap _ _ _), rM, by simp; omega, by omega, fun S3 ix iy o2 => ?_⟩
      have f3 := o2.got.free g.wf
      have rA3 : Rep S3 ts s := rA.held g.wf o2.got.stay (.inr (by simp))
      have rB3 : Rep S3 tb r := rB.held g.wf o2.got.stay (.inr (by simp))
      refine ⟨iy :: r :: hs, ts, x, o2.got.wf.perm (perm_rot ix iy s (r :: hs)), rA3, o2.repl, by omega, by omega, by simp; omega, fun S4 i n1 _ _ => ?_⟩
      have f4 := (Got.node n1).free (o2.got.wf)
      have ry : Rep S4 y iy := o2.repr.held o2.got.wf n1.stay (.inr (by simp))
      have rB4 : Rep S4 tb r := rB3.held o2.got.wf n1.stay (.inr (by simp))
      (repeat' apply And.intro)
      all_goals
        refine ⟨i :: hs, y, tb, n1.wf.perm (perm_tor i iy r hs), ry, rB4, by omega, by omega, by simp; omega, fun S5 j n2 _ _ => ?_⟩
        have f5 := (Got.node n2).free n1.wf
        refine ⟨hs, _, _, n2.wf.perm (List.Perm.swap _ _ _), n1.rep.held n1.wf n2.stay (.inr (by simp)), n2.rep, by simp [Tr.size]; omega, by omega, by omega, fun S6 q n3 _ _ => h S6 q ?_⟩
        have := double_ok g o2 n1 n2 n3 bA bx bY b2 (balN_comm c2) (balN_comm c1) (by
          have e1 : ((ts.size + x.size + 1 : Nat) : Int) = ((x.size + ts.size + 1 : Nat) : Int) := by omega
          have e2 : ((y.size + tb.size + 1 : Nat) : Int) = ((tb.size + y.size + 1 : Nat) : Int) := by omega
          rw [e1, e2]; exact balN_comm c3)
        simpa [Tr.list] using this
theorem s_lr : SoundT C0 134 tLr := by
  refine .ofW W7 Try.func134 (by decide) rfl fun args H K h hB => ?_
  unfold tLr at h
  split at h <;> try exact h.elim
  unfold arM at h
  split at h <;> try exact h.elim
  rename_i sl l k v r _ rd fr nd ct us gn rl
  obtain ⟨hs, ta, tb, h1, h2, h3, h4, h5, h6, h7, h8, h9, h10, h11, h12, h13, h14⟩ := h
  subst h9
  cases ta with
  | nil => exact absurd h8 (Nat.not_lt_zero _)
  | node ts k2 v2 tm =>
    have zz : (Tr.node ts k2 v2 tm).size = tm.size + ts.size + 1 := by simp [Tr.size]; omega
    rw [zz] at h6 h7 h8 h10
    refine ⟨_, ?_, vc_lr ⟨us, gn, rl, fr, nd, ct, rd⟩ l k v r K hs tb tm k2 v2 ts h1 h2 h3 h4 h5 (near_comm h6) (fun q => h7 (balN_comm q)) h8 (by omega) h11 h12 h13 (fun S' i q => h14 S' i (by simpa [Tr.list] using q))⟩
    exact ⟨frame C0.ok s_opn _, frame C0.ok s_size _, frame C0.ok s_balS _, frame C0.ok s_nodeX _, trivial⟩
theorem us_le (S : Arn) (i : Int) : (S.us i).toNat ≤ 1 := by cases S.us i <;> decide
theorem vc_blc (S : Arn) (l k v r : Int) (K : KT) (hs : List Int) (ta tb : Tr) (hw : Wf S (l :: r :: hs)) (h1 : Rep S ta l) (h2 : Rep S tb r) (b1 : ta.Bal) (b2 : tb.Bal) (hn : near ta.size tb.size) (hz : ta.size + tb.size ≤ 900000) (hf : 3 ≤ S.free) (hl : hs.length ≤ 800000000) (hr : S.reads ≤ 1900000000000000000)
    (h : ∀ S' i, TrR S hs (ta.list ++ (k, v) :: tb.list) 3 6 S' i → K (.one (.at (vU i))) (chS S') W7) :
    vc C0 aBlc Try.f118 [.at (.ptr 0 0), .at (vU l), .agg [vI k, vI v], .at (vU r)] (chS S) (normK 7 (wideK W7 K)) := by
  refine Eq.mp (show ((inU l) ∧
(exW S) ∧
(S.reads < 4000000000000000000) ∧
(∀ S' : Arn, (((S') = (rdS S (S.us l).toNat)) → ((inU r) ∧ (exW S') ∧ (S'.reads < 4000000000000000000) ∧ (∀ S'1 : Arn, (((S'1) = (rdS S' (S'.us r).toNat)) → ((0 ≤ (S.nd l).size) ∧ ((S.nd l).size ≤ 1000000) ∧ (0 ≤ (S'.nd r).size) ∧ ((S'.nd r).size ≤ 1000000) ∧ (∀ b : Bool, (((b) = (balB (S.nd l).size (S'.nd r).size)) → (brS (b) ((∃ hs : List Int, (∃ tl : Tr, (∃ tr : Tr, ((Wf S'1 (l :: r :: hs)) ∧ (Rep S'1 tl l) ∧ (Rep S'1 tr r) ∧ (tl.size + tr.size ≤ 1000000) ∧ (0 < S'1.free) ∧ (hs.length ≤ 900000000) ∧ (∀ S'2 : Arn, (∀ i : Int, ((NodeR S'1 hs k v tl tr S'2 i) → ((((S'2.nd i).left) = (l)) → ((((S'2.nd i).right) = (r)) → (K (SV.one (TV.at (At.val (Value.int IntKind.u32 (i))))) [(Chunk.box [(At.ptr 1 0), (At.slc 2), (At.slc 3), (At.val (Value.int IntKind.u64 (S'2.reads)))]), (Chunk.box [(At.slc 4), (At.slc 5), (At.slc 6), (At.val (Value.int IntKind.u32 (S'2.fresh)))]), (Chunk.row true (EC.node) (S'2.nodes)), (Chunk.row true (EC.int) (S'2.counts)), (Chunk.row true (EC.bool) (S'2.used)), (Chunk.row true (EC.u32) (S'2.gen)), (Chunk.row true (EC.u32) (S'2.rel))] [0, 1, 2, 3, 4, 5, 6]))))))))))) ((brS (decide ((S.nd l).size < (S'.nd r).size)) ((∃ hs : List Int, (∃ ta : Tr, (∃ tb : Tr, ((Wf S'1 (l :: r :: hs)) ∧ (Rep S'1 ta l) ∧ (Rep S'1 tb r) ∧ (ta.Bal) ∧ (tb.Bal) ∧ (near ta.size tb.size) ∧ (¬balN (↑ta.size : Int) (↑tb.size : Int)) ∧ (ta.size < tb.size) ∧ (((S.nd l).size) = ((↑ta.size : Int))) ∧ (ta.size + tb.size ≤ 900000) ∧
    (3 ≤ S'1.free) ∧ (hs.length ≤ 800000000) ∧ (S'1.reads ≤ 2000000000000000000) ∧ (∀ S'2 : Arn, (∀ i : Int, ((TrR S'1 hs (ta.list ++ (k, v) :: tb.list) 3 4 S'2 i) → (K (SV.one (TV.at (At.val (Value.int IntKind.u32 (i))))) [(Chunk.box [(At.ptr 1 0), (At.slc 2), (At.slc 3), (At.val (Value.int IntKind.u64 (S'2.reads)))]), (Chunk.box [(At.slc 4), (At.slc 5), (At.slc 6), (At.val (Value.int IntKind.u32 (S'2.fresh)))]), (Chunk.row true (EC.node) (S'2.nodes)), (Chunk.row true (EC.int) (S'2.counts)), (Chunk.row true (EC.bool) (S'2.used)), (Chunk.row true (EC.u32) (S'2.gen)), (Chunk.row true (EC.u32) (S'2.rel))] [0, 1, 2, 3, 4, 5, 6]))))))))) ((∃ hs : List Int, (∃ ta : Tr, (∃ tb : Tr, ((Wf S'1 (l :: r :: hs)) ∧ (Rep S'1 ta l) ∧ (Rep S'1 tb r) ∧ (ta.Bal) ∧ (tb.Bal) ∧ (near ta.size tb.size) ∧ (¬balN (↑ta.size : Int) (↑tb.size : Int)) ∧ (tb.size < ta.size) ∧ (((S'.nd r).size) = ((↑tb.size : Int))) ∧ (ta.size + tb.size ≤ 900000) ∧ (3 ≤ S'1.free) ∧ (hs.length ≤ 800000000) ∧ (S'1.reads ≤ 2000000000000000000) ∧ (∀ S'2 : Arn, (∀ i : Int, ((TrR S'1 hs (ta.list ++ (k, v) :: tb.list) 3 4 S'2 i) →
    (K (SV.one (TV.at (At.val (Value.int IntKind.u32 (i))))) [(Chunk.box [(At.ptr 1 0), (At.slc 2), (At.slc 3), (At.val (Value.int IntKind.u64 (S'2.reads)))]), (Chunk.box [(At.slc 4), (At.slc 5), (At.slc 6), (At.val (Value.int IntKind.u32 (S'2.fresh)))]), (Chunk.row true (EC.node) (S'2.nodes)), (Chunk.row true (EC.int) (S'2.counts)), (Chunk.row true (EC.bool) (S'2.used)), (Chunk.row true (EC.u32) (S'2.gen)), (Chunk.row true (EC.u32) (S'2.rel))] [0, 1, 2, 3, 4, 5, 6]))))))))))))))))))))) = _ by kernel_rfl) ?_
  have z1 := h1.size hw
  have z2 := h2.size hw
  have u1 := us_le S l
  have hrd := hw.rds
  refine ⟨inU_of hw h1.us, ⟨_, hw⟩, by omega, fun S1 e1 => ?_⟩
  have g1 : Got S hs 0 1 S1 (l :: r :: hs) := by subst e1; exact ((Got.refl (hs := hs) hw).rdn (k := 1) u1 (by omega)).mono (by omega) (by omega)
  have r1 : Rep S1 ta l := by subst e1; exact h1.rdn
  have r2 : Rep S1 tb r := by subst e1; exact h2.rdn
  have z3 := r2.size g1.wf
  have q1 := g1.rd
  have u2 := us_le S1 r
  refine ⟨inU_of g1.wf r2.us, ⟨_, g1.wf⟩, by omega, fun S2 e2 => ?_⟩
  have g2 : Got S hs 0 2 S2 (l :: r :: hs) := by subst e2; exact (g1.rdn (k := 1) u2 (by omega)).mono (by omega) (by omega)
  have r3 : Rep S2 ta l := by subst e2; exact r1.rdn
  have r4 : Rep S2 tb r := by subst e2; exact r2.rdn
  have q2 := g2.rd
  have f2 := g2.free hw
  rw [z1, z3]
  refine ⟨by omega, by omega, by omega, by omega, fun b eb => brS_of (fun d => ?_) fun d => brS_of (fun e => ?_) fun e => ?_⟩
  · have c : balN ta.size tb.size := by rw [d] at eb; exact of_decide_eq_true eb.symm
    refine ⟨hs, ta, tb, g2.wf, r3, r4, by omega, by omega, by omega, fun S3 i n _ _ => h S3 i ⟨(g2.seq (Got.node n) (h := hs) (fun _ h => h) (fun _ h => h)).mono (by omega) (by omega), _, n.rep, rfl, c, b1, b2⟩⟩
  · have c : ¬ balN ta.size tb.size := by rw [d] at eb; exact of_decide_eq_false eb.symm
    have e : ta.size < tb.size := by have : (ta.size : Int) < tb.size := of_decide_eq_true e
                                     omega
    exact ⟨hs, ta, tb, g2.wf, r3, r4, b1, b2, hn, c, e, rfl, hz, by omega, hl, by omega, fun S3 i n => h S3 i ⟨(g2.seq n.got (h := hs) (fun _ h => h) (fun _ h => h)).mono (by omega) (by omega), n.tree⟩⟩
  · have c : ¬ balN ta.size tb.size := by rw [d] at eb; exact of_decide_eq_false eb.symm
    have e : tb.size < ta.size := by
      have : ¬ (ta.size : Int) < tb.size := of_decide_eq_false e
      unfold balN at c
      omega
    exact ⟨hs, ta, tb, g2.wf, r3, r4, b1, b2, hn, c, e, rfl, hz, by omega, hl, by omega, fun S3 i n => h S3 i ⟨(g2.seq n.got (h := hs) (fun _ h => h) (fun _ h => h)).mono (by omega) (by omega), n.tree⟩⟩
theorem s_blc : SoundT C0 118 tBlc := by
  refine .ofW W7 Try.func118 (by decide) rfl fun args H K h hB => ?_
  unfold tBlc at h
  split at h <;> try exact h.elim
  unfold arM at h
  split at h <;> try exact h.elim
  rename_i l k v r _ rd fr nd ct us gn rl
  obtain ⟨hs, ta, tb, h1, h2, h3, h4, h5, h6, h7, h8, h9, h10, h11⟩ := h
  exact ⟨aBlc, ⟨frame C0.ok s_size _, frame C0.ok s_balS _, frame C0.ok s_nodeX _, frame C0.ok s_ll _, frame C0.ok s_lr _, trivial⟩, vc_blc ⟨us, gn, rl, fr, nd, ct, rd⟩ l k v r K hs ta tb h1 h2 h3 h4 h5 h6 h7 h8 h9 h10 h11⟩
theorem vc_jn (n : Nat) (S : Arn) (l k v r : Int) (K : KT) (hs : List Int) (ta tb : Tr) (hw : Wf S (l :: r :: hs)) (h1 : Rep S ta l) (h2 : Rep S tb r) (b1 : ta.Bal) (b2 : tb.Bal) (hfu : ta.size + tb.size < n + 1) (hz : ta.size + tb.size ≤ 900000) (hf : (jB ta.size tb.size : Int) ≤ S.free)
    (hl : hs.length + (ta.size + tb.size) ≤ 800000000) (hr : S.reads + 5 * (jB ta.size tb.size) ≤ 1800000000000000000)
    (h : ∀ S' i, TrR S hs (ta.list ++ (k, v) :: tb.list) (jB ta.size tb.size) (4 * jB ta.size tb.size) S' i → (balN ta.size tb.size → (S'.nd i).left = l ∧ (S'.nd i).right = r ∧ S'.nu = S.nu + 1) → K (.one (.at (vU i))) (chS S') W7) :
    vc C0 (aJn n) Try.f91 [.at (.ptr 0 0), .at (vU l), .agg [vI k, vI v], .at (vU r)] (chS S) (normK 7 (wideK W7 K)) := by
  refine Eq.mp (show ((inU l) ∧
(exW S) ∧
(S.reads < 4000000000000000000) ∧
(∀ S' : Arn, (((S') = (rdS S (S.us l).toNat)) → ((inU r) ∧ (exW S') ∧ (S'.reads < 4000000000000000000) ∧ (∀ S'1 : Arn, (((S'1) = (rdS S' (S'.us r).toNat)) → ((0 ≤ (S.nd l).size) ∧ ((S.nd l).size ≤ 1000000) ∧ (0 ≤ (S'.nd r).size) ∧ ((S'.nd r).size ≤ 1000000) ∧ (∀ b : Bool, (((b) = (balB (S.nd l).size (S'.nd r).size)) → (brS (b) ((∃ hs : List Int, (∃ tl : Tr, (∃ tr : Tr, ((Wf S'1 (l :: r :: hs)) ∧ (Rep S'1 tl l) ∧ (Rep S'1 tr r) ∧ (tl.size + tr.size ≤ 1000000) ∧ (0 < S'1.free) ∧ (hs.length ≤ 900000000) ∧ (∀ S'2 : Arn, (∀ i : Int, ((NodeR S'1 hs k v tl tr S'2 i) → ((((S'2.nd i).left) = (l)) → ((((S'2.nd i).right) = (r)) → (K (SV.one (TV.at (At.val (Value.int IntKind.u32 (i))))) [(Chunk.box [(At.ptr 1 0), (At.slc 2), (At.slc 3), (At.val (Value.int IntKind.u64 (S'2.reads)))]), (Chunk.box [(At.slc 4), (At.slc 5), (At.slc 6), (At.val (Value.int IntKind.u32 (S'2.fresh)))]), (Chunk.row true (EC.node) (S'2.nodes)), (Chunk.row true (EC.int) (S'2.counts)), (Chunk.row true (EC.bool) (S'2.used)), (Chunk.row true (EC.u32) (S'2.gen)), (Chunk.row true (EC.u32) (S'2.rel))] [0, 1, 2, 3, 4, 5, 6]))))))))))) ((brS (decide ((S.nd l).size > (S'.nd r).size)) ((∃ hs : List Int, (∃ a : Tr, (∃ k1 : Int, (∃ v1 : Int, (∃ b1 : Tr, ((Wf S'1 (l :: hs)) ∧ (Rep S'1 (a.node k1 v1 b1) l) ∧ (hs.length ≤ 900000000) ∧ (S'1.reads ≤ 3000000000000000000) ∧ (∀ S'2 : Arn, (∀ l1 : Int, (∀ r1 : Int, ((OpnR S'1 hs a k1 v1 b1 S'2 l1 r1) → ((∃ hs1 : List Int, (∃ ta : Tr,
    (∃ tb : Tr, ((Wf S'2 (r1 :: r :: hs1)) ∧ (Rep S'2 ta r1) ∧ (Rep S'2 tb r) ∧ (ta.Bal) ∧ (tb.Bal) ∧ (ta.size + tb.size < n) ∧ (ta.size + tb.size ≤ 900000) ∧ ((↑(jB ta.size tb.size) : Int) ≤ S'2.free) ∧ (hs1.length + (ta.size + tb.size) ≤ 800000000) ∧ (S'2.reads + 5 * (↑(jB ta.size tb.size) : Int) ≤ 1800000000000000000) ∧ (∀ S'3 : Arn, (∀ i : Int, ((TrR S'2 hs1 (ta.list ++ (k, v) :: tb.list) (jB ta.size tb.size) (4 * jB ta.size tb.size) S'3 i) → (((balN (↑ta.size : Int) (↑tb.size : Int)) → ((((S'3.nd i).left) = (r1)) ∧ (((S'3.nd i).right) = (r)) ∧ ((S'3.nu) = (S'2.nu + 1)))) → (∃ hs2 : List Int, (∃ ta1 : Tr, (∃ tb1 : Tr, ((Wf S'3 (l1 :: i :: hs2)) ∧ (Rep S'3 ta1 l1) ∧ (Rep S'3 tb1 i) ∧ (ta1.Bal) ∧ (tb1.Bal) ∧ (near ta1.size tb1.size) ∧ (ta1.size + tb1.size ≤ 900000) ∧ (3 ≤ S'3.free) ∧ (hs2.length ≤ 800000000) ∧ (S'3.reads ≤ 1900000000000000000) ∧ (∀ S'4 : Arn, (∀ i1 : Int, ((TrR S'3 hs2 (ta1.list ++ (k1, v1) :: tb1.list) 3 6 S'4 i1) → (K (SV.one (TV.at (At.val (Value.int IntKind.u32 (i1))))) [(Chunk.box [(At.ptr 1 0), (At.slc 2), (At.slc 3), (At.val (Value.int IntKind.u64 (S'4.reads)))]), (Chunk.box [(At.slc 4), (At.slc 5), (At.slc 6), (At.val (Value.int IntKind.u32 (S'4.fresh)))]), (Chunk.row true (EC.node) (S'4.nodes)), (Chunk.row true (EC.int) (S'4.counts)), (Chunk.row true (EC.bool) (S'4.used)), (Chunk.row true (EC.u32) (S'4.gen)), (Chunk.row true (EC.u32) (S'4.rel))] [0, 1, 2, 3, 4, 5, 6])))))))))))))))) ∧ (∃ hs1 : List Int, (∃ ta : Tr, (∃ tb : Tr,
    ((Wf S'2 (r1 :: r :: hs1)) ∧ (Rep S'2 ta r1) ∧ (Rep S'2 tb r) ∧ (ta.Bal) ∧ (tb.Bal) ∧ (ta.size + tb.size < n) ∧ (ta.size + tb.size ≤ 900000) ∧ ((↑(jB ta.size tb.size) : Int) ≤ S'2.free) ∧ (hs1.length + (ta.size + tb.size) ≤ 800000000) ∧ (S'2.reads + 5 * (↑(jB ta.size tb.size) : Int) ≤ 1800000000000000000) ∧ (∀ S'3 : Arn, (∀ i : Int, ((TrR S'2 hs1 (ta.list ++ (k, v) :: tb.list) (jB ta.size tb.size) (4 * jB ta.size tb.size) S'3 i) → (((balN (↑ta.size : Int) (↑tb.size : Int)) → ((((S'3.nd i).left) = (r1)) ∧ (((S'3.nd i).right) = (r)) ∧ ((S'3.nu) = (S'2.nu + 1)))) → (∃ hs2 : List Int, (∃ ta1 : Tr, (∃ tb1 : Tr, ((Wf S'3 (l1 :: i :: hs2)) ∧ (Rep S'3 ta1 l1) ∧ (Rep S'3 tb1 i) ∧ (ta1.Bal) ∧ (tb1.Bal) ∧ (near ta1.size tb1.size) ∧ (ta1.size + tb1.size ≤ 900000) ∧ (3 ≤ S'3.free) ∧ (hs2.length ≤ 800000000) ∧ (S'3.reads ≤ 1900000000000000000) ∧ (∀ S'4 : Arn, (∀ i1 : Int, ((TrR S'3 hs2 (ta1.list ++ (k1, v1) :: tb1.list) 3 6 S'4 i1) → (K (SV.one (TV.at (At.val (Value.int IntKind.u32 (i1))))) [(Chunk.box [(At.ptr 1 0), (At.slc 2), (At.slc 3), (At.val (Value.int IntKind.u64 (S'4.reads)))]), (Chunk.box [(At.slc 4), (At.slc 5), (At.slc 6), (At.val (Value.int IntKind.u32 (S'4.fresh)))]), (Chunk.row true (EC.node) (S'4.nodes)), (Chunk.row true (EC.int) (S'4.counts)), (Chunk.row true (EC.bool) (S'4.used)), (Chunk.row true (EC.u32) (S'4.gen)), (Chunk.row true (EC.u32) (S'4.rel))] [0, 1, 2, 3, 4, 5, 6])))))))))))))))) ∧ (∃ hs1 : List Int, (∃ ta : Tr, (∃ tb : Tr, ((Wf S'2 (r1 :: r :: hs1)) ∧
    (Rep S'2 ta r1) ∧ (Rep S'2 tb r) ∧ (ta.Bal) ∧ (tb.Bal) ∧ (ta.size + tb.size < n) ∧ (ta.size + tb.size ≤ 900000) ∧ ((↑(jB ta.size tb.size) : Int) ≤ S'2.free) ∧ (hs1.length + (ta.size + tb.size) ≤ 800000000) ∧ (S'2.reads + 5 * (↑(jB ta.size tb.size) : Int) ≤ 1800000000000000000) ∧ (∀ S'3 : Arn, (∀ i : Int, ((TrR S'2 hs1 (ta.list ++ (k, v) :: tb.list) (jB ta.size tb.size) (4 * jB ta.size tb.size) S'3 i) → (((balN (↑ta.size : Int) (↑tb.size : Int)) → ((((S'3.nd i).left) = (r1)) ∧ (((S'3.nd i).right) = (r)) ∧ ((S'3.nu) = (S'2.nu + 1)))) → (∃ hs2 : List Int, (∃ ta1 : Tr, (∃ tb1 : Tr, ((Wf S'3 (l1 :: i :: hs2)) ∧ (Rep S'3 ta1 l1) ∧ (Rep S'3 tb1 i) ∧ (ta1.Bal) ∧ (tb1.Bal) ∧ (near ta1.size tb1.size) ∧ (ta1.size + tb1.size ≤ 900000) ∧ (3 ≤ S'3.free) ∧ (hs2.length ≤ 800000000) ∧ (S'3.reads ≤ 1900000000000000000) ∧ (∀ S'4 : Arn, (∀ i1 : Int, ((TrR S'3 hs2 (ta1.list ++ (k1, v1) :: tb1.list) 3 6 S'4 i1) → (K (SV.one (TV.at (At.val (Value.int IntKind.u32 (i1))))) [(Chunk.box [(At.ptr 1 0), (At.slc 2), (At.slc 3), (At.val (Value.int IntKind.u64 (S'4.reads)))]), (Chunk.box [(At.slc 4), (At.slc 5), (At.slc 6), (At.val (Value.int IntKind.u32 (S'4.fresh)))]), (Chunk.row true (EC.node) (S'4.nodes)), (Chunk.row true (EC.int) (S'4.counts)), (Chunk.row true (EC.bool) (S'4.used)), (Chunk.row true (EC.u32) (S'4.gen)), (Chunk.row true (EC.u32) (S'4.rel))] [0, 1, 2, 3, 4, 5, 6])))))))))))))))))))))))))))) ((∃ hs : List Int, (∃ a : Tr, (∃ k1 : Int, (∃ v1 : Int, (∃ b1 : Tr, ((Wf S'1 (r :: hs)) ∧
    (Rep S'1 (a.node k1 v1 b1) r) ∧ (hs.length ≤ 900000000) ∧ (S'1.reads ≤ 3000000000000000000) ∧ (∀ S'2 : Arn, (∀ l1 : Int, (∀ r1 : Int, ((OpnR S'1 hs a k1 v1 b1 S'2 l1 r1) → (((∃ hs1 : List Int, (∃ ta : Tr, (∃ tb : Tr, ((Wf S'2 (l :: l1 :: hs1)) ∧ (Rep S'2 ta l) ∧ (Rep S'2 tb l1) ∧ (ta.Bal) ∧ (tb.Bal) ∧ (ta.size + tb.size < n) ∧ (ta.size + tb.size ≤ 900000) ∧ ((↑(jB ta.size tb.size) : Int) ≤ S'2.free) ∧ (hs1.length + (ta.size + tb.size) ≤ 800000000) ∧ (S'2.reads + 5 * (↑(jB ta.size tb.size) : Int) ≤ 1800000000000000000) ∧ (∀ S'3 : Arn, (∀ i : Int, ((TrR S'2 hs1 (ta.list ++ (k, v) :: tb.list) (jB ta.size tb.size) (4 * jB ta.size tb.size) S'3 i) → (((balN (↑ta.size : Int) (↑tb.size : Int)) → ((((S'3.nd i).left) = (l)) ∧ (((S'3.nd i).right) = (l1)) ∧ ((S'3.nu) = (S'2.nu + 1)))) → (∃ hs2 : List Int, (∃ ta1 : Tr, (∃ tb1 : Tr, ((Wf S'3 (i :: r1 :: hs2)) ∧ (Rep S'3 ta1 i) ∧ (Rep S'3 tb1 r1) ∧ (ta1.Bal) ∧ (tb1.Bal) ∧ (near ta1.size tb1.size) ∧ (ta1.size + tb1.size ≤ 900000) ∧ (3 ≤ S'3.free) ∧ (hs2.length ≤ 800000000) ∧ (S'3.reads ≤ 1900000000000000000) ∧ (∀ S'4 : Arn, (∀ i1 : Int, ((TrR S'3 hs2 (ta1.list ++ (k1, v1) :: tb1.list) 3 6 S'4 i1) →
    (K (SV.one (TV.at (At.val (Value.int IntKind.u32 (i1))))) [(Chunk.box [(At.ptr 1 0), (At.slc 2), (At.slc 3), (At.val (Value.int IntKind.u64 (S'4.reads)))]), (Chunk.box [(At.slc 4), (At.slc 5), (At.slc 6), (At.val (Value.int IntKind.u32 (S'4.fresh)))]), (Chunk.row true (EC.node) (S'4.nodes)), (Chunk.row true (EC.int) (S'4.counts)), (Chunk.row true (EC.bool) (S'4.used)), (Chunk.row true (EC.u32) (S'4.gen)), (Chunk.row true (EC.u32) (S'4.rel))] [0, 1, 2, 3, 4, 5, 6])))))))))))))))) ∧ (∃ hs1 : List Int, (∃ ta : Tr, (∃ tb : Tr, ((Wf S'2 (l :: l1 :: hs1)) ∧ (Rep S'2 ta l) ∧ (Rep S'2 tb l1) ∧ (ta.Bal) ∧ (tb.Bal) ∧ (ta.size + tb.size < n) ∧ (ta.size + tb.size ≤ 900000) ∧ ((↑(jB ta.size tb.size) : Int) ≤ S'2.free) ∧ (hs1.length + (ta.size + tb.size) ≤ 800000000) ∧ (S'2.reads + 5 * (↑(jB ta.size tb.size) : Int) ≤ 1800000000000000000) ∧ (∀ S'3 : Arn, (∀ i : Int, ((TrR S'2 hs1 (ta.list ++ (k, v) :: tb.list) (jB ta.size tb.size) (4 * jB ta.size tb.size) S'3 i) → (((balN (↑ta.size : Int) (↑tb.size : Int)) → ((((S'3.nd i).left) = (l)) ∧ (((S'3.nd i).right) = (l1)) ∧ ((S'3.nu) = (S'2.nu + 1)))) → (∃ hs2 : List Int, (∃ ta1 : Tr, (∃ tb1 : Tr, ((Wf S'3 (i :: r1 :: hs2)) ∧ (Rep S'3 ta1 i) ∧ (Rep S'3 tb1 r1) ∧ (ta1.Bal) ∧ (tb1.Bal) ∧ (near ta1.size tb1.size) ∧ (ta1.size + tb1.size ≤ 900000) ∧ (3 ≤ S'3.free) ∧ (hs2.length ≤ 800000000) ∧ (S'3.reads ≤ 1900000000000000000) ∧ (∀ S'4 : Arn, (∀ i1 : Int, ((TrR S'3 hs2 (ta1.list ++ (k1, v1) :: tb1.list) 3 6 S'4 i1) →
    (K (SV.one (TV.at (At.val (Value.int IntKind.u32 (i1))))) [(Chunk.box [(At.ptr 1 0), (At.slc 2), (At.slc 3), (At.val (Value.int IntKind.u64 (S'4.reads)))]), (Chunk.box [(At.slc 4), (At.slc 5), (At.slc 6), (At.val (Value.int IntKind.u32 (S'4.fresh)))]), (Chunk.row true (EC.node) (S'4.nodes)), (Chunk.row true (EC.int) (S'4.counts)), (Chunk.row true (EC.bool) (S'4.used)), (Chunk.row true (EC.u32) (S'4.gen)), (Chunk.row true (EC.u32) (S'4.rel))] [0, 1, 2, 3, 4, 5, 6]))))))))))))))))) ∧ (∃ hs1 : List Int, (∃ ta : Tr, (∃ tb : Tr, ((Wf S'2 (l :: l1 :: hs1)) ∧ (Rep S'2 ta l) ∧ (Rep S'2 tb l1) ∧ (ta.Bal) ∧ (tb.Bal) ∧ (ta.size + tb.size < n) ∧ (ta.size + tb.size ≤ 900000) ∧ ((↑(jB ta.size tb.size) : Int) ≤ S'2.free) ∧ (hs1.length + (ta.size + tb.size) ≤ 800000000) ∧ (S'2.reads + 5 * (↑(jB ta.size tb.size) : Int) ≤ 1800000000000000000) ∧ (∀ S'3 : Arn, (∀ i : Int, ((TrR S'2 hs1 (ta.list ++ (k, v) :: tb.list) (jB ta.size tb.size) (4 * jB ta.size tb.size) S'3 i) → (((balN (↑ta.size : Int) (↑tb.size : Int)) → ((((S'3.nd i).left) = (l)) ∧ (((S'3.nd i).right) = (l1)) ∧ ((S'3.nu) = (S'2.nu + 1)))) → (∃ hs2 : List Int, (∃ ta1 : Tr, (∃ tb1 : Tr, ((Wf S'3 (i :: r1 :: hs2)) ∧ (Rep S'3 ta1 i) ∧ (Rep S'3 tb1 r1) ∧ (ta1.Bal) ∧ (tb1.Bal) ∧ (near ta1.size tb1.size) ∧ (ta1.size + tb1.size ≤ 900000) ∧ (3 ≤ S'3.free) ∧ (hs2.length ≤ 800000000) ∧ (S'3.reads ≤ 1900000000000000000) ∧ (∀ S'4 : Arn, (∀ i1 : Int, ((TrR S'3 hs2 (ta1.list ++ (k1, v1) :: tb1.list) 3 6 S'4 i1) →
    (K (SV.one (TV.at (At.val (Value.int IntKind.u32 (i1))))) [(Chunk.box [(At.ptr 1 0), (At.slc 2), (At.slc 3), (At.val (Value.int IntKind.u64 (S'4.reads)))]), (Chunk.box [(At.slc 4), (At.slc 5), (At.slc 6), (At.val (Value.int IntKind.u32 (S'4.fresh)))]), (Chunk.row true (EC.node) (S'4.nodes)), (Chunk.row true (EC.int) (S'4.counts)), (Chunk.row true (EC.bool) (S'4.used)), (Chunk.row true (EC.u32) (S'4.gen)), (Chunk.row true (EC.u32) (S'4.rel))] [0, 1, 2, 3, 4, 5, 6])))))))))))))))))))))))))))))))))))))))) = _ by kernel_rfl) ?_
  have z1 := h1.size hw
  have z2 := h2.size hw
  have u1 := us_le S l
  have hrd := hw.rds
  have jp := jB_pos ta.size tb.size
  refine ⟨inU_of hw h1.us, ⟨_, hw⟩, by omega, fun S1 e1 => ?_⟩
  have g1 : Got S hs 0 1 S1 (l :: r :: hs) := by subst e1; exact ((Got.refl (hs := hs) hw).rdn (k := 1) u1 (by omega)).mono (by omega) (by omega)
  have r1 : Rep S1 ta l := by subst e1; exact h1.rdn
  have r2 : Rep S1 tb r := by subst e1; exact h2.rdn
  have nu1 : S1.nu = S.nu := by subst e1; rfl
  have z3 := r2.size g1.wf
  have q1 := g1.rd
  have u2 := us_le S1 r
  refine ⟨inU_of g1.wf r2.us, ⟨_, g1.wf⟩, by omega, fun S2 e2 => ?_⟩
  have g2 : Got S hs 0 2 S2 (l :: r :: hs) := by subst e2; exact (g1.rdn (k := 1) u2 (by omega)).mono (by omega) (by omega)
  have r3 : Rep S2 ta l := by subst e2; exact r1.rdn
  have r4 : Rep S2 tb r := by subst e2; exact r2.rdn
  have nu2 : S2.nu = S.nu := by subst e2; exact nu1
  have q2 := g2.rd
  have f2 := g2.free hw
  rw [z1, z3]
  refine ⟨by omega, by omega, by omega, by omega, fun b eb => brS_of (fun d => ?_) fun d => brS_of (fun e => ?_) fun e => ?_⟩
  · have c : balN ta.size tb.size := by rw [d] at eb; exact of_decide_eq_true eb.symm
    refine ⟨hs, ta, tb, g2.wf, r3, r4, by omega, by omega, by omega, fun S3 i nn lft rgt => h S3 i ⟨(g2.seq (Got.node nn) (h := hs) (fun _ h => h) (fun _ h => h)).mono (by omega) (by omega), _, nn.rep, rfl, c, b1, b2⟩ fun _ => ⟨lft, rgt, by rw [nn.nu, nu2]⟩⟩
  · have c : ¬ balN ta.size tb.size := by rw [d] at eb; exact of_decide_eq_false eb.symm
    have e : tb.size < ta.size := by have : (ta.size : Int) > tb.size := of_decide_eq_true e
                                     omega
    cases ta with
    | nil => exact absurd e (Nat.not_lt_zero _)
    | node s k1 v1 m =>
      have zz : (Tr.node s k1 v1 m).size = s.size + m.size + 1 := by simp [Tr.size]; omega
      rw [zz] at hz hl hfu hf hr e c jp
      obtain ⟨bb, bs, bm⟩ := b1
      have jd := jB_down bb c e
      have jn := join_near bb c e
      refine ⟨r :: hs, s, k1, v1, m, g2.wf, r3, by simp; omega, by omega, fun S3 l1 m1 o => ?_⟩
      have f3 := o.got.free g2.wf
      have q3 := o.got.rd
      have rB : Rep S3 tb r := r4.held g2.wf o.got.stay (.inr (by simp))
      (repeat' apply And.intro)
      all_goals
        refine ⟨l1 :: hs, m, tb, o.got.wf.perm (perm_tor l1 m1 r hs), o.repr, rB, bm, b2, by omega, by omega, by omega, by simp; omega, by omega, fun S4 i tr _ => ?_⟩
        obtain ⟨t, rt, lt, bt⟩ := tr.tree
        have zt : t.size = m.size + tb.size + 1 := by rw [← t.list_len, lt]; simp [Tr.list_len]; omega
        have f4 := tr.got.free o.got.wf
        have q4 := tr.got.rd
        refine ⟨hs, s, t, tr.got.wf.perm (List.Perm.swap _ _ _), o.repl.held o.got.wf tr.got.stay (.inr (by simp)), rt, bs, bt, by rw [zt]; exact jn, by omega, by omega, by omega, by omega, fun S5 j tj => h S5 j ⟨?_, ?_⟩ fun c' => ?_⟩
        · rw [zz]
          exact (((g2.seq o.got (h := hs) (fun _ h => h) (fun _ h => by simp [h])).seq tr.got (h := hs) (fun _ h => h) (fun _ h => by simp [h])).seq tj.got (fun _ h => h) (fun _ h => h)).mono (by omega) (by omega)
        · obtain ⟨t', rt', lt', bt'⟩ := tj.tree
          exact ⟨t', rt', by rw [lt', lt]; simp [Tr.list], bt'⟩
        · rw [zz] at c'; exact absurd c' c
  · have c : ¬ balN ta.size tb.size := by rw [d] at eb; exact of_decide_eq_false eb.symm
    have e : ta.size < tb.size := by
      have : ¬ (ta.size : Int) > tb.size := of_decide_eq_false e
      unfold balN at c
      omega
    cases tb with
    | nil => exact absurd e (Nat.not_lt_zero _)
    | node m k1 v1 s =>
      have zz : (Tr.node m k1 v1 s).size = s.size + m.size + 1 := by simp [Tr.size]; omega
      rw [zz] at hz hl hfu hf hr e c jp
      obtain ⟨bb, bm, bs⟩ := b2
      have bb := balN_comm bb
      have c2 : ¬ balN ((s.size + m.size + 1 : Nat) : Int) ta.size := fun q => c (balN_comm q)
      have jd := jB_down bb c2 e
      have jn := near_comm (join_near bb c2 e)
      rw [jB_comm m.size, jB_comm (s.size + m.size + 1)] at jd
      refine ⟨l :: hs, m, k1, v1, s, g2.wf.perm (List.Perm.swap _ _ _), r4, by simp; omega, by omega, fun S3 m1 s1 o => ?_⟩
      have f3 := o.got.free g2.wf
      have q3 := o.got.rd
      have rA : Rep S3 ta l := r3.held g2.wf o.got.stay (.inr (by simp))
      (repeat' apply And.intro)
      all_goals
        refine ⟨s1 :: hs, ta, m, o.got.wf.perm (perm_rot m1 s1 l hs), rA, o.repl, b1, bm, by omega, by omega, by omega, by simp; omega, by omega, fun S4 i tr _ => ?_⟩
        obtain ⟨t, rt, lt, bt⟩ := tr.tree
        have zt : t.size = m.size + ta.size + 1 := by rw [← t.list_len, lt]; simp [Tr.list_len]; omega
        have f4 := tr.got.free o.got.wf
        have q4 := tr.got.rd
        refine ⟨hs, t, s, tr.got.wf, rt, o.repr.held o.got.wf tr.got.stay (.inr (by simp)), bt, bs, by rw [zt]; exact jn, by omega, by omega, by omega, by omega, fun S5 j tj => h S5 j ⟨?_, ?_⟩ fun c' => ?_⟩
        · rw [zz]
          exact (((g2.seq o.got (h := hs) (fun _ h => h) (fun _ h => by simp [h])).seq tr.got (h := hs) (fun _ h => h) (fun _ h => by simp [h])).seq tj.got (fun _ h => h) (fun _ h => h)).mono (by omega) (by omega)
        · obtain ⟨t', rt', lt', bt'⟩ := tj.tree
          exact ⟨t', rt', by rw [lt', lt]; simp [Tr.list], bt'⟩
        · rw [zz] at c'; exact absurd c' c
theorem s_jn : ∀ n, SoundT C0 91 (tJn n) := by
  intro n
  induction n with
  | zero =>
    refine .of Try.func91 (by decide) rfl fun args H K h hB => ?_
    exfalso
    unfold tJn at h
    split at h <;> try exact h.elim
    unfold arM at h
    split at h <;> try exact h.elim
    obtain ⟨_, _, _, _, _, _, _, _, h1, _⟩ := h
    omega
  | succ n ih =>
    refine .ofW W7 Try.func91 (by decide) rfl fun args H K h hB => ?_
    unfold tJn at h
    split at h <;> try exact h.elim
    unfold arM at h
    split at h <;> try exact h.elim
    rename_i l k v r _ rd fr nd ct us gn rl
    obtain ⟨hs, ta, tb, h1, h2, h3, h4, h5, h6, h7, h8, h9, h10, h11⟩ := h
    exact ⟨aJn n, ⟨frame C0.ok s_size _, frame C0.ok s_balS _, frame C0.ok s_nodeX _, frame C0.ok s_opn _, frame C0.ok ih _, frame C0.ok s_blc _, trivial⟩, vc_jn n ⟨us, gn, rl, fr, nd, ct, rd⟩ l k v r K hs ta tb h1 h2 h3 h4 h5 h6 h7 h8 h9 h10 h11⟩
/-- Join, as it is used. -/
def tJoin : Tfm C0 := fun args H K => match args with
  | [.at (.ptr 0 0), .at (.val (.int .u32 l)), .agg [.val (.int .i64 k), .val (.int .i64 v)], .at (.val (.int .u32 r))] => arM H fun S => ∃ hs ta tb, Wf S (l :: r :: hs) ∧ Rep S ta l ∧ Rep S tb r ∧ ta.Bal ∧ tb.Bal ∧
    ta.size + tb.size ≤ 900000 ∧ (jB ta.size tb.size : Int) ≤ S.free ∧ hs.length ≤ 700000000 ∧ S.reads + 5 * (jB ta.size tb.size) ≤ 1800000000000000000 ∧
    ∀ S' i, TrR S hs (ta.list ++ (k, v) :: tb.list) (jB ta.size tb.size) (4 * jB ta.size tb.size) S' i → (balN ta.size tb.size → (S'.nd i).left = l ∧ (S'.nd i).right = r ∧ S'.nu = S.nu + 1) → K (.one (.at (vU i))) (chS S') W7
  | _ => False
theorem s_join : SoundT C0 91 tJoin := (s_jn 1000000).weak fun args H K h => by
  unfold tJoin at h
  unfold tJn
  split at h <;> try exact h.elim
  unfold arM at h ⊢
  split at h <;> try exact h.elim
  obtain ⟨hs, ta, tb, h1, h2, h3, h4, h5, h7, h8, h9, h10, h11⟩ := h
  exact ⟨hs, ta, tb, h1, h2, h3, h4, h5, by omega, h7, h8, by omega, h10, h11⟩
end Go.Proofs.Ytjbkckcjmmmooaa.Sx
end
