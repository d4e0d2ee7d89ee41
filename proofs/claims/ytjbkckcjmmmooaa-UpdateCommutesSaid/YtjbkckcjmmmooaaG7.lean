/- A part of the proof. -/
import Derived.Test.YtjbkckcjmmmooaaG6
import Derived.Test.YtjbkckcjmmmooaaG5
section
/- How high a balanced tree is at most, and how many nodes a listing reads. No program in sight. -/
namespace Go.Proofs.Ytjbkckcjmmmooaa
open Go

/-- The least weights of trees of the heights 0 to 80. -/
def wtsL : List Int := [1, 2, 3, 4, 6, 8, 11, 15, 20, 27, 36, 48, 64, 86, 115, 154, 206, 275, 367, 490, 654, 872, 1163, 1551, 2068, 2758, 3678, 4904, 6539, 8719, 11626, 15502, 20670, 27560, 36747, 48996, 65328, 87104, 116139, 154852, 206470, 275294, 367059, 489412, 652550, 870067, 1160090, 1546787, 2062383, 2749844, 3666459, 4888612, 6518150, 8690867, 11587823, 15450431, 20600575, 27467434, 36623246, 48830995, 65107994, 86810659, 115747546, 154330062, 205773416, 274364555, 365819407, 487759210, 650345614, 867127486, 1156169982, 1541559976, 2055413302, 2740551070, 3654068094, 4872090792, 6496121056, 8661494742, 11548659656, 15398212875, 20530950500]
def wt (h : Nat) : Int := wtsL.getD h 0
def hnC : List Int → Int → Int → Int
  | [], h, _ => h
  | w :: l, h, k => if w - 1 ≤ k then hnC l (h + 1) k else h
/-- The greatest height of a tree with k keys. -/
def Hn (k : Int) : Int := hnC (wtsL.drop 1) 0 k
theorem wt_step : ∀ h < 80, wt (h + 1) = wt h + (wt h + 2) / 3 := by decide
theorem hnC_le : ∀ (l : List Int) (h k : Int), h ≤ hnC l h k
  | [], _, _ => Int.le_refl _
  | w :: l, h, k => by
    unfold hnC
    split
    · have := hnC_le l (h + 1) k; omega
    · exact Int.le_refl _
theorem hnC_ge : ∀ (l : List Int) (h k : Int) (m : Nat), m ≤ l.length → (∀ i < m, l.getD i 0 - 1 ≤ k) → h + m ≤ hnC l h k
  | [], h, k, m, hm, _ => by have : m = 0 := by simpa using hm
                             subst this; show h + 0 ≤ h; omega
  | w :: l, h, k, 0, _, _ => by have := hnC_le (w :: l) h k; show h + 0 ≤ _; omega
  | w :: l, h, k, m + 1, hm, hk => by
    have h0 := hk 0 (by omega)
    unfold hnC
    rw [if_pos (by simpa using h0)]
    have := hnC_ge l (h + 1) k m (by simpa using hm) (fun i hi => by have := hk (i + 1) (by omega); simpa using this)
    omega
theorem hnC_up : ∀ (l : List Int) (h k : Int), hnC l h k ≤ h + l.length
  | [], h, k => by show h ≤ h + 0; omega
  | w :: l, h, k => by
    unfold hnC
    have := hnC_up l (h + 1) k
    rw [List.length_cons]
    split <;> omega
theorem Hn_rng (k : Int) : 0 ≤ Hn k ∧ Hn k ≤ 80 := by
  have h1 := hnC_le (wtsL.drop 1) 0 k
  have h2 := hnC_up (wtsL.drop 1) 0 k
  have h3 : (wtsL.drop 1).length = 80 := rfl
  unfold Hn
  omega
def ht : Tr → Nat
  | .nil => 0
  | .node l _ _ r => 1 + (if ht l ≤ ht r then ht r else ht l)
theorem bal_wt : ∀ (t : Tr) (h : Nat), t.Bal → h ≤ 80 → h ≤ ht t → wt h ≤ t.size + 1
  | t, 0, _, _, _ => by have : wt 0 = 1 := rfl
                        rw [this]; omega
  | .nil, h + 1, _, _, hh => by simp [ht] at hh
  | .node l k v r, h + 1, hb, h8, hh => by
    obtain ⟨b0, bl, br⟩ := hb
    unfold balN at b0
    have hs : ((Tr.node l k v r).size : Int) = 1 + l.size + r.size := by simp [Tr.size]
    have st := wt_step h (by omega)
    have hh : h + 1 ≤ 1 + (if ht l ≤ ht r then ht r else ht l) := hh
    by_cases c : ht l ≤ ht r
    · rw [if_pos c] at hh
      have := bal_wt r h br (by omega) (by omega)
      omega
    · rw [if_neg c] at hh
      have := bal_wt l h bl (by omega) (by omega)
      omega
/-- A balanced tree is no higher than its number of keys allows. -/
theorem Bal.height {t : Tr} (hb : t.Bal) (hs : t.size ≤ 1000000) : (ht t : Int) ≤ Hn t.size := by
  have h80 : ht t ≤ 80 := by
    by_cases c : ht t ≤ 80
    · exact c
    · have := bal_wt t 80 hb (Nat.le_refl _) (by omega)
      have e : wt 80 = 20530950500 := rfl
      omega
  have hl : (wtsL.drop 1).length = 80 := rfl
  have := hnC_ge (wtsL.drop 1) 0 t.size (ht t) (by omega) (fun i hi => by
    have e : (wtsL.drop 1).getD i 0 = wt (i + 1) := by simp [wt, List.getD_eq_getElem?_getD]
    have := bal_wt t (i + 1) hb (by omega) (by omega)
    rw [e]; omega)
  unfold Hn
  omega

/-! ### Reads of a listing by keys -/
theorem lk_node {l r : Tr} {k v lo hi : Int} {rm : Nat} (h : rm ≠ 0) : ∃ a b c, a = (if lo < k then lk l lo hi rm else ([], 0)) ∧ b = (if lo ≤ k ∧ k ≤ hi ∧ a.1.length < rm then [(k, v)] else ([] : List Ent)) ∧ c = (if k < hi then lk r lo hi (rm - (a.1.length + b.length)) else ([], 0)) ∧
    (lk (.node l k v r) lo hi rm).1.length = a.1.length + b.length + c.1.length ∧ (lk (.node l k v r) lo hi rm).2 = 1 + a.2 + c.2 := by
  refine ⟨_, _, _, rfl, rfl, rfl, ?_, ?_⟩
  · rw [lk, if_neg h]; simp only [List.length_append]; omega
  · rw [lk, if_neg h]
theorem lk_zero : ∀ (t : Tr) (lo hi : Int), lk t lo hi 0 = ([], 0)
  | .nil, _, _ => rfl
  | .node _ _ _ _, _, _ => by rw [lk, if_pos rfl]
theorem lk_N : ∀ (t : Tr) (lo hi : Int) (rm : Nat), Asc t.list → (∀ x ∈ t.list, lo < x.1 ∧ x.1 ≤ hi) → (lk t lo hi rm).1.length < rm → (lk t lo hi rm).2 ≤ (lk t lo hi rm).1.length
  | .nil, _, _, _, _, _, _ => Nat.le_refl _
  | .node l k v r, lo, hi, rm, h, hx, hlt => by
    obtain ⟨hl, hr, hlk, hkr⟩ := node_asc h
    have hk := hx (k, v) (by simp [Tr.list])
    obtain ⟨a, b, c, ea, eb, ec, e1, e2⟩ := lk_node (l := l) (r := r) (k := k) (v := v) (lo := lo) (hi := hi) (rm := rm) (by omega)
    rw [e1] at hlt ⊢
    rw [e2]
    rw [if_pos hk.1] at ea
    rw [if_pos ⟨by omega, hk.2, by omega⟩] at eb
    have hb : b.length = 1 := by rw [eb]; rfl
    have ha := lk_N l lo hi rm hl (fun x hm => hx x (by simp [Tr.list, hm])) (by rw [← ea]; omega)
    rw [← ea] at ha
    have hc : c.2 ≤ c.1.length := by
      by_cases d : k < hi
      · rw [if_pos d] at ec
        have := lk_N r lo hi (rm - (a.1.length + b.length)) hr (fun x hm => hx x (by simp [Tr.list, hm])) (by rw [← ec]; omega)
        rw [← ec] at this; exact this
      · rw [if_neg d] at ec; rw [ec]; exact Nat.le_refl _
    omega
theorem ht_l (l r : Tr) (k v : Int) : 1 + ht l ≤ ht (.node l k v r) := by rw [ht]; split <;> omega
theorem ht_r (l r : Tr) (k v : Int) : 1 + ht r ≤ ht (.node l k v r) := by rw [ht]; split <;> omega
theorem lk_L : ∀ (t : Tr) (lo hi : Int) (rm : Nat), Asc t.list → (∀ x ∈ t.list, x.1 ≤ hi) → (lk t lo hi rm).1.length < rm → (lk t lo hi rm).2 ≤ ht t + (lk t lo hi rm).1.length
  | .nil, _, _, _, _, _, _ => by simp [lk]
  | .node l k v r, lo, hi, rm, h, hx, hlt => by
    obtain ⟨hl, hr, hlk, hkr⟩ := node_asc h
    have hk : k ≤ hi := hx (k, v) (by simp [Tr.list])
    have q1 := ht_l l r k v
    have q2 := ht_r l r k v
    obtain ⟨a, b, c, ea, eb, ec, e1, e2⟩ := lk_node (l := l) (r := r) (k := k) (v := v) (lo := lo) (hi := hi) (rm := rm) (by omega)
    rw [e1] at hlt ⊢
    rw [e2]
    by_cases d0 : lo < k
    · rw [if_pos d0] at ea
      rw [if_pos ⟨by omega, hk, by omega⟩] at eb
      have hb : b.length = 1 := by rw [eb]; rfl
      have ha := lk_L l lo hi rm hl (fun x hm => hx x (by simp [Tr.list, hm])) (by rw [← ea]; omega)
      rw [← ea] at ha
      have hc : c.2 ≤ c.1.length := by
        by_cases d : k < hi
        · rw [if_pos d] at ec
          have := lk_N r lo hi (rm - (a.1.length + b.length)) hr (fun x hm => ⟨by have := hkr x hm; omega, hx x (by simp [Tr.list, hm])⟩) (by rw [← ec]; omega)
          rw [← ec] at this; exact this
        · rw [if_neg d] at ec; rw [ec]; exact Nat.le_refl _
      omega
    · rw [if_neg d0] at ea
      have a1 : a.1.length = 0 := by rw [ea]; rfl
      have a2 : a.2 = 0 := by rw [ea]
      have hc : c.2 ≤ ht r + c.1.length := by
        by_cases d : k < hi
        · rw [if_pos d] at ec
          have := lk_L r lo hi (rm - (a.1.length + b.length)) hr (fun x hm => hx x (by simp [Tr.list, hm])) (by rw [← ec]; omega)
          rw [← ec] at this; exact this
        · rw [if_neg d] at ec; rw [ec]; simp
      omega
theorem lk_M : ∀ (t : Tr) (lo hi : Int) (rm : Nat), Asc t.list → (∀ x ∈ t.list, lo < x.1) → (lk t lo hi rm).2 ≤ ht t + (lk t lo hi rm).1.length
  | .nil, _, _, _, _, _ => by simp [lk]
  | .node l k v r, lo, hi, rm, h, hx => by
    by_cases h0 : rm = 0
    · rw [h0, lk_zero]; simp
    obtain ⟨hl, hr, hlk, hkr⟩ := node_asc h
    have hk : lo < k := hx (k, v) (by simp [Tr.list])
    have q1 := ht_l l r k v
    have q2 := ht_r l r k v
    obtain ⟨a, b, c, ea, eb, ec, e1, e2⟩ := lk_node (l := l) (r := r) (k := k) (v := v) (lo := lo) (hi := hi) (rm := rm) h0
    rw [e1, e2]
    rw [if_pos hk] at ea
    have ha := lk_M l lo hi rm hl (fun x hm => hx x (by simp [Tr.list, hm]))
    rw [← ea] at ha
    by_cases d1 : a.1.length < rm
    · by_cases d2 : k ≤ hi
      · rw [if_pos ⟨by omega, d2, d1⟩] at eb
        have hb : b.length = 1 := by rw [eb]; rfl
        have ha := lk_N l lo hi rm hl (fun x hm => ⟨hx x (by simp [Tr.list, hm]), by have := hlk x hm; omega⟩) (by rw [← ea]; omega)
        rw [← ea] at ha
        have hc : c.2 ≤ ht r + c.1.length := by
          by_cases d : k < hi
          · rw [if_pos d] at ec
            have := lk_M r lo hi (rm - (a.1.length + b.length)) hr (fun x hm => hx x (by simp [Tr.list, hm]))
            rw [← ec] at this; exact this
          · rw [if_neg d] at ec; rw [ec]; simp
        omega
      · rw [if_neg (by omega)] at ec
        have : c.2 = 0 := by rw [ec]
        omega
    · have hm : rm - (a.1.length + b.length) = 0 := by omega
      have : c.2 = 0 := by
        rw [ec, hm]
        split
        · rw [lk_zero]
        · rfl
      omega
/-- A listing by keys reads what it gives, and two paths. -/
theorem lk_reads : ∀ (t : Tr) (lo hi : Int) (rm : Nat), Asc t.list → (lk t lo hi rm).2 ≤ 2 * ht t + (lk t lo hi rm).1.length
  | .nil, _, _, _, _ => by simp [lk]
  | .node l k v r, lo, hi, rm, h => by
    by_cases h0 : rm = 0
    · rw [h0, lk_zero]; simp
    obtain ⟨hl, hr, hlk, hkr⟩ := node_asc h
    have q1 := ht_l l r k v
    have q2 := ht_r l r k v
    obtain ⟨a, b, c, ea, eb, ec, e1, e2⟩ := lk_node (l := l) (r := r) (k := k) (v := v) (lo := lo) (hi := hi) (rm := rm) h0
    rw [e1, e2]
    by_cases d0 : lo < k
    · rw [if_pos d0] at ea
      have ha := lk_reads l lo hi rm hl
      rw [← ea] at ha
      by_cases d1 : a.1.length < rm
      · by_cases d2 : k ≤ hi
        · rw [if_pos ⟨by omega, d2, d1⟩] at eb
          have hb : b.length = 1 := by rw [eb]; rfl
          have ha := lk_L l lo hi rm hl (fun x hm => by have := hlk x hm; omega) (by rw [← ea]; omega)
          rw [← ea] at ha
          have hc : c.2 ≤ ht r + c.1.length := by
            by_cases d : k < hi
            · rw [if_pos d] at ec
              have := lk_M r lo hi (rm - (a.1.length + b.length)) hr (fun x hm => by have := hkr x hm; omega)
              rw [← ec] at this; exact this
            · rw [if_neg d] at ec; rw [ec]; simp
          omega
        · rw [if_neg (by omega)] at ec
          have : c.2 = 0 := by rw [ec]
          omega
      · have hm : rm - (a.1.length + b.length) = 0 := by omega
        have : c.2 = 0 := by
          rw [ec, hm]
          split
          · rw [lk_zero]
          · rfl
        omega
    · rw [if_neg d0] at ea
      have a1 : a.1.length = 0 := by rw [ea]; rfl
      have a2 : a.2 = 0 := by rw [ea]
      have hc : c.2 ≤ 2 * ht r + c.1.length := by
        by_cases d : k < hi
        · rw [if_pos d] at ec
          have := lk_reads r lo hi (rm - (a.1.length + b.length)) hr
          rw [← ec] at this; exact this
        · rw [if_neg d] at ec; rw [ec]; simp
      omega

/-! ### Reads of a listing by places -/
theorem pl_node {l r : Tr} {k v x y : Int} (h : ¬ y ≤ x) : ∃ a b c, a = (if x < (l.size : Int) then pl l x (if (l.size : Int) < y then (l.size : Int) else y) else ([], 0)) ∧ b = (if x ≤ (l.size : Int) ∧ (l.size : Int) < y then [(k, v)] else ([] : List Ent)) ∧
    c = (if (l.size : Int) + 1 < y then pl r (if 0 < x - l.size - 1 then x - l.size - 1 else 0) (y - l.size - 1) else ([], 0)) ∧ (pl (.node l k v r) x y).1.length = a.1.length + b.length + c.1.length ∧ (pl (.node l k v r) x y).2 ≤ 2 + a.2 + c.2 := by
  refine ⟨_, _, _, rfl, rfl, rfl, ?_, ?_⟩
  · rw [pl, if_neg h]; simp only [List.length_append]; omega
  · rw [pl, if_neg h]
    have : ne0 l ≤ 1 := by cases l <;> simp [ne0]
    simp only []
    omega
theorem pl_none {t : Tr} {x y : Int} (h : y ≤ x) : pl t x y = ([], 0) := by
  cases t with
  | nil => rfl
  | node l k v r => rw [pl, if_pos h]
theorem pl_N : ∀ (t : Tr) (x y : Int), x ≤ 0 → (t.size : Int) ≤ y → (pl t x y).2 ≤ 2 * (pl t x y).1.length
  | .nil, _, _, _, _ => by simp [pl]
  | .node l k v r, x, y, hx, hy => by
    have hs : ((Tr.node l k v r).size : Int) = 1 + l.size + r.size := by simp [Tr.size]
    obtain ⟨a, b, c, ea, eb, ec, e1, e2⟩ := pl_node (l := l) (r := r) (k := k) (v := v) (x := x) (y := y) (by omega)
    rw [e1]
    rw [if_pos ⟨by omega, by omega⟩] at eb
    have hb : b.length = 1 := by rw [eb]; rfl
    have ha : a.2 ≤ 2 * a.1.length := by
      by_cases d : x < (l.size : Int)
      · rw [if_pos d, if_pos (by omega)] at ea
        rw [ea]; exact pl_N l x l.size hx (Int.le_refl _)
      · rw [if_neg d] at ea; rw [ea]; simp
    have hc : c.2 ≤ 2 * c.1.length := by
      by_cases d : (l.size : Int) + 1 < y
      · rw [if_pos d, if_neg (by omega)] at ec
        rw [ec]; exact pl_N r 0 _ (Int.le_refl _) (by omega)
      · rw [if_neg d] at ec; rw [ec]; simp
    omega
theorem pl_L : ∀ (t : Tr) (x y : Int), (t.size : Int) ≤ y → (pl t x y).2 ≤ 2 * ht t + 2 * (pl t x y).1.length
  | .nil, _, _, _ => by simp [pl]
  | .node l k v r, x, y, hy => by
    by_cases h0 : y ≤ x
    · rw [pl_none h0]; simp
    have hs : ((Tr.node l k v r).size : Int) = 1 + l.size + r.size := by simp [Tr.size]
    have q1 := ht_l l r k v
    have q2 := ht_r l r k v
    obtain ⟨a, b, c, ea, eb, ec, e1, e2⟩ := pl_node (l := l) (r := r) (k := k) (v := v) (x := x) (y := y) h0
    rw [e1]
    by_cases d : x < (l.size : Int)
    · rw [if_pos d, if_pos (by omega)] at ea
      rw [if_pos ⟨by omega, by omega⟩] at eb
      have hb : b.length = 1 := by rw [eb]; rfl
      have ha := pl_L l x l.size (Int.le_refl _)
      rw [← ea] at ha
      have hc : c.2 ≤ 2 * c.1.length := by
        by_cases e : (l.size : Int) + 1 < y
        · rw [if_pos e, if_neg (by omega)] at ec
          rw [ec]; exact pl_N r 0 _ (Int.le_refl _) (by omega)
        · rw [if_neg e] at ec; rw [ec]; simp
      omega
    · rw [if_neg d] at ea
      have a2 : a.2 = 0 := by rw [ea]
      have hc : c.2 ≤ 2 * ht r + 2 * c.1.length := by
        by_cases e : (l.size : Int) + 1 < y
        · rw [if_pos e] at ec
          rw [ec]; exact pl_L r _ _ (by omega)
        · rw [if_neg e] at ec; rw [ec]; simp
      omega
theorem pl_M : ∀ (t : Tr) (x y : Int), x ≤ 0 → (pl t x y).2 ≤ 2 * ht t + 2 * (pl t x y).1.length
  | .nil, _, _, _ => by simp [pl]
  | .node l k v r, x, y, hx => by
    by_cases h0 : y ≤ x
    · rw [pl_none h0]; simp
    have q1 := ht_l l r k v
    have q2 := ht_r l r k v
    obtain ⟨a, b, c, ea, eb, ec, e1, e2⟩ := pl_node (l := l) (r := r) (k := k) (v := v) (x := x) (y := y) h0
    rw [e1]
    by_cases f : (l.size : Int) < y
    · rw [if_pos ⟨by omega, f⟩] at eb
      have hb : b.length = 1 := by rw [eb]; rfl
      have ha : a.2 ≤ 2 * a.1.length := by
        by_cases d : x < (l.size : Int)
        · rw [if_pos d, if_pos f] at ea
          rw [ea]; exact pl_N l x l.size hx (Int.le_refl _)
        · rw [if_neg d] at ea; rw [ea]; simp
      have hc : c.2 ≤ 2 * ht r + 2 * c.1.length := by
        by_cases e : (l.size : Int) + 1 < y
        · rw [if_pos e, if_neg (by omega)] at ec
          rw [ec]; exact pl_M r 0 _ (Int.le_refl _)
        · rw [if_neg e] at ec; rw [ec]; simp
      omega
    · rw [if_neg (by omega)] at ec
      have c2 : c.2 = 0 := by rw [ec]
      have ha : a.2 ≤ 2 * ht l + 2 * a.1.length := by
        by_cases d : x < (l.size : Int)
        · rw [if_pos d] at ea
          rw [ea]; exact pl_M l x _ hx
        · rw [if_neg d] at ea; rw [ea]; simp
      omega
theorem pl_reads : ∀ (t : Tr) (x y : Int), (pl t x y).2 ≤ 4 * ht t + 2 * (pl t x y).1.length
  | .nil, _, _ => by simp [pl]
  | .node l k v r, x, y => by
    by_cases h0 : y ≤ x
    · rw [pl_none h0]; simp
    have q1 := ht_l l r k v
    have q2 := ht_r l r k v
    obtain ⟨a, b, c, ea, eb, ec, e1, e2⟩ := pl_node (l := l) (r := r) (k := k) (v := v) (x := x) (y := y) h0
    rw [e1]
    by_cases d : x < (l.size : Int)
    · rw [if_pos d] at ea
      by_cases f : (l.size : Int) < y
      · rw [if_pos f] at ea
        rw [if_pos ⟨by omega, f⟩] at eb
        have hb : b.length = 1 := by rw [eb]; rfl
        have ha := pl_L l x l.size (Int.le_refl _)
        rw [← ea] at ha
        have hc : c.2 ≤ 2 * ht r + 2 * c.1.length := by
          by_cases e : (l.size : Int) + 1 < y
          · rw [if_pos e, if_neg (by omega)] at ec
            rw [ec]; exact pl_M r 0 _ (Int.le_refl _)
          · rw [if_neg e] at ec; rw [ec]; simp
        omega
      · rw [if_neg (by omega)] at ec
        have c2 : c.2 = 0 := by rw [ec]
        have ha := pl_reads l x (if (l.size : Int) < y then (l.size : Int) else y)
        rw [← ea] at ha
        omega
    · rw [if_neg d] at ea
      have a2 : a.2 = 0 := by rw [ea]
      have hc : c.2 ≤ 4 * ht r + 2 * c.1.length := by
        by_cases e : (l.size : Int) + 1 < y
        · rw [if_pos e] at ec
          rw [ec]; exact pl_reads r _ _
        · rw [if_neg e] at ec; rw [ec]; simp
      omega
end Go.Proofs.Ytjbkckcjmmmooaa
end
section
/- The greatest height of a balanced tree, and few reads. -/
namespace Go.Proofs.Ytjbkckcjmmmooaa.Sx
open Go

/-KEEP Wf exW inU wtsL-/
noncomputable def aWts : Ann C0 := { Γ := [], rounds := fun n => if n = 4 then 82 else 0 }
def tWts : Tfm C0 := fun args H K => match args, H with
  | [], [] => K (.one (.agg (wtsL.map fun n => vI n))) [] []
  | _, _ => False
def wC : Nat → Int → Prop → Prop
  | 0, _, Q => Q
  | n + 1, h, Q => (0 ≤ IntKind.i64.wrap (h - 1)) ∧ (IntKind.i64.wrap (h - 1) < ((81 : Nat) : Int)) ∧ (0 ≤ IntKind.i64.wrap (h - 1)) ∧ (IntKind.i64.wrap (h - 1) < ((81 : Nat) : Int)) ∧ (0 ≤ h) ∧ (h < ((81 : Nat) : Int)) ∧ wC n (IntKind.i64.wrap (h + 1)) Q
theorem wC_of : ∀ (n : Nat) (h : Int) (Q : Prop), 1 ≤ h → h + n ≤ 81 → Q → wC n h Q
  | 0, _, _, _, _, q => q
  | n + 1, h, Q, h1, h2, q => by
    have e1 := wrap_id (x := h - 1) (by omega) (by omega)
    have e2 := wrap_id (x := h + 1) (by omega) (by omega)
    unfold wC
    rw [e1, e2]
    exact ⟨by omega, by omega, by omega, by omega, by omega, by omega, wC_of n (h + 1) Q (by omega) (by omega) q⟩
theorem s_wts : SoundT C0 107 tWts := by
  refine .of Try.func107 (by decide) rfl fun args H K h hB => ?_
  unfold tWts at h
  split at h <;> try exact h.elim
  refine ⟨aWts, trivial, Eq.mp (show ((0 : Int) ≤ 0 ∧ (0 : Int) < ((81 : Nat) : Int) ∧ wC 80 1 (K (.one (.agg (wtsL.map fun n => vI n))) [] [])) = _ by kernel_rfl) ?_⟩
  exact ⟨by decide, by decide, wC_of 80 1 _ (by decide) (by decide) h⟩
noncomputable def aMh : Ann C0 := { Γ := [(107, frameT [] tWts)], rounds := fun n => if n = 5 then 82 else 0 }
def mhC (k : Int) (Q : Int → Prop) : List Int → Int → Prop
  | [], h => Q h
  | w :: l, h => (0 ≤ IntKind.i64.wrap (h + 1)) ∧ (IntKind.i64.wrap (h + 1) < ((81 : Nat) : Int)) ∧ brS (decide (IntKind.i64.wrap (w - 1) ≤ k)) (mhC k Q l (IntKind.i64.wrap (h + 1))) (Q h)
theorem mhC_of {k : Int} {Q : Int → Prop} : ∀ (l : List Int) (h : Int), 0 ≤ h → h + l.length ≤ 80 → (∀ w ∈ l, 0 ≤ w ∧ w ≤ 1000000000000) → Q (hnC l h k) → mhC k Q l h
  | [], _, _, _, _, q => q
  | w :: l, h, h1, h2, h3, q => by
    have hw := h3 w (by simp)
    have hl : (w :: l).length = l.length + 1 := rfl
    unfold mhC
    rw [wrap_id (x := h + 1) (by omega) (by omega), wrap_id (x := w - 1) (by omega) (by omega)]
    unfold hnC at q
    refine ⟨by omega, by omega, brS_of (fun c => ?_) fun c => ?_⟩
    · rw [if_pos (of_decide_eq_true c)] at q
      exact mhC_of l (h + 1) (by omega) (by omega) (fun x hx => h3 x (by simp [hx])) q
    · rw [if_neg (of_decide_eq_false c)] at q; exact q
def tMh : Tfm C0 := fun args H K => match args, H with
  | [.at (.val (.int .i64 k))], [] => 0 ≤ k ∧ k ≤ 2147483647 ∧ ∀ h, h = Hn k → K (.one (.at (vI h))) [] []
  | _, _ => False
theorem s_mh : SoundT C0 73 tMh := by
  refine .of Try.func73 (by decide) rfl fun args H K h hB => ?_
  unfold tMh at h
  split at h <;> try exact h.elim
  rename_i k
  obtain ⟨h1, h2, h⟩ := h
  refine ⟨aMh, ⟨frame C0.ok s_wts _, trivial⟩, Eq.mp (show (brS (decide (k < 0)) (K (.one (.at (vI (-1)))) [] []) (brS (decide (k > 2147483647)) (K (.one (.at (vI (-1)))) [] []) (mhC k (fun h => K (.one (.at (vI h))) [] []) (wtsL.drop 1) 0))) = _ by kernel_rfl) ?_⟩
  refine brS_of (fun c => by have := of_decide_eq_true c; omega) fun _ => brS_of (fun c => by have := of_decide_eq_true c; omega) fun _ => mhC_of _ 0 (by decide) (by decide) (by decide) (h _ rfl)
noncomputable def aHt : Ann C0 := { Γ := [(73, frameT [] tMh)] }
theorem s_ht : SoundT C0 24 tMh := by
  refine .of Try.func24 (by decide) rfl fun args H K h hB => ?_
  unfold tMh at h
  split at h <;> try exact h.elim
  rename_i k
  exact ⟨aHt, ⟨frame C0.ok s_mh _, trivial⟩, Eq.mp (show (0 ≤ k ∧ k ≤ 2147483647 ∧ ∀ h, h = Hn k → K (.one (.at (vI h))) [] []) = _ by kernel_rfl) h⟩
noncomputable def aWi : Ann C0 := { Γ := [(19, frameT [] tReads)] }
def tWi : Tfm C0 := fun args H K => match args with
  | [.at (.ptr 0 0), .at (.val (.int .u64 r)), .at (.val (.int .i64 m))] => arM H fun S => 0 ≤ r ∧ r ≤ S.reads ∧ S.reads ≤ 4000000000000000000 ∧ S.reads - r ≤ m ∧ m ≤ 4000000000000000000 ∧ K (.one (.at (vB true))) (chS S) []
  | _ => False
theorem s_wi : SoundT C0 23 tWi := by
  refine .of Try.func23 (by decide) rfl fun args H K h hB => ?_
  unfold tWi at h
  split at h <;> try exact h.elim
  rename_i r m
  unfold arM at h
  split at h <;> try exact h.elim
  rename_i rd fr nd ct us gn rl
  have key : ∀ S : Arn, 0 ≤ r → r ≤ S.reads → S.reads ≤ 4000000000000000000 → S.reads - r ≤ m → m ≤ 4000000000000000000 → K (.one (.at (vB true))) (chS S) [] → vc C0 aWi Try.f23 [.at (.ptr 0 0), .at (vU64 r), .at (vI m)] (chS S) (normK 7 K) := fun S h1 h2 h3 h4 h5 h => by
    refine Eq.mp (show (brS (decide (S.reads ≥ r))
  ((K (SV.one (TV.at (At.val (Value.bool (decide (IntKind.u64.wrap (S.reads - r) ≤ IntKind.u64.wrap m)))))) [(Chunk.box [(At.ptr 1 0), (At.slc 2), (At.slc 3), (At.val (Value.int IntKind.u64 (S.reads)))]), (Chunk.box [(At.slc 4), (At.slc 5), (At.slc 6), (At.val (Value.int IntKind.u32 (S.fresh)))]), (Chunk.row true (EC.node) (S.nodes)), (Chunk.row true (EC.int) (S.counts)), (Chunk.row true (EC.bool) (S.used)), (Chunk.row true (EC.u32) (S.gen)), (Chunk.row true (EC.u32) (S.rel))] []))
  ((K (SV.one (TV.at (At.val (Value.bool false)))) [(Chunk.box [(At.ptr 1 0), (At.slc 2), (At.slc 3), (At.val (Value.int IntKind.u64 (S.reads)))]), (Chunk.box [(At.slc 4), (At.slc 5), (At.slc 6), (At.val (Value.int IntKind.u32 (S.fresh)))]), (Chunk.row true (EC.node) (S.nodes)), (Chunk.row true (EC.int) (S.counts)), (Chunk.row true (EC.bool) (S.used)), (Chunk.row true (EC.u32) (S.gen)), (Chunk.row true (EC.u32) (S.rel))] []))) = _ by kernel_rfl) ?_
    rw [wrap_u64 (x := S.reads - r) (by omega) (by omega), wrap_u64 (x := m) (by omega) (by omega)]
    refine brS_of (fun _ => ?_) fun c => by have := of_decide_eq_false c; omega
    rw [show decide (S.reads - r ≤ m) = true from decide_eq_true h4]
    exact h
  exact ⟨aWi, ⟨frame C0.ok s_rds _, trivial⟩, key ⟨us, gn, rl, fr, nd, ct, rd⟩ h.1 h.2.1 h.2.2.1 h.2.2.2.1 h.2.2.2.2.1 h.2.2.2.2.2⟩
end Go.Proofs.Ytjbkckcjmmmooaa.Sx
end
section
/- Plain laws of patches: what is carried through the loop of a check. No program in sight. -/
namespace Go.Proofs.Ytjbkckcjmmmooaa.Sx
open Go

def cA (p : List Chg) (n : Nat) : Chg := p.getD n ⟨0, 0, 0, 0⟩
def eA (p : List Ent) (n : Nat) : Ent := p.getD n (0, 0)
theorem cA_get {p : List Chg} {n : Nat} (h : n < p.length) : p[n]? = some (cA p n) := by simp [cA, List.getD_eq_getElem?_getD, List.getElem?_eq_getElem h]
theorem eA_get {p : List Ent} {n : Nat} (h : n < p.length) : p[n]? = some (eA p n) := by simp [eA, List.getD_eq_getElem?_getD, List.getElem?_eq_getElem h]
theorem drop_cons {α : Type} {l : List α} {n : Nat} {x : α} (h : l[n]? = some x) : l.drop n = x :: l.drop (n + 1) := by
  obtain ⟨h1, h2⟩ := List.getElem?_eq_some_iff.1 h
  rw [List.drop_eq_getElem_cons h1, h2]
theorem take_snoc {α : Type} {l : List α} {n : Nat} {x : α} (h : l[n]? = some x) : l.take (n + 1) = l.take n ++ [x] := by
  rw [List.take_add_one, h]; rfl

def prevK (p : List Chg) : Nat → Option Int
  | 0 => none
  | k + 1 => (p[k]?).map Chg.key
/-- The key is not greater than the one before. -/
def lowB (p : List Chg) (k : Nat) (ky : Int) : Bool := match prevK p k with
  | none => false
  | some q => decide (ky ≤ q)
theorem lowB_zero (p : List Chg) (ky : Int) : lowB p 0 ky = false := rfl
theorem lowB_succ {p : List Chg} {k : Nat} {x : Chg} (h : p[k]? = some x) (ky : Int) : lowB p (k + 1) ky = decide (ky ≤ x.key) := by simp [lowB, prevK, h]
theorem valGo_step {p : List Chg} {k : Nat} {c : Chg} (hx : p[k]? = some c) :
    valGo (prevK p k) (p.drop k) = (!lowB p k c.key && decide c.ok && valGo (prevK p (k + 1)) (p.drop (k + 1))) := by
  rw [drop_cons hx, show prevK p (k + 1) = some c.key by simp [prevK, hx]]
  simp only [valGo, lowB]
  congr 2
  cases prevK p k with
  | none => rfl
  | some q => by_cases h : q < c.key
              · simp [h, show ¬ c.key ≤ q by omega]
              · simp [h, show c.key ≤ q by omega]

/-- What 'change' answers of a change's own values. -/
def CmpR (c d : Chg) (ok : Bool) : Prop := ok = (mkChg c.key c.before c.after).isSome ∧ ∀ e, mkChg c.key c.before c.after = some e → d = e
theorem CmpR.ok {c d : Chg} {ok : Bool} (h : CmpR c d ok) : decide c.ok = (ok && decide (d = c)) := by
  obtain ⟨h1, h2⟩ := h
  cases hm : mkChg c.key c.before c.after with
  | none => rw [hm] at h1; subst h1; simp [Chg.ok, hm]
  | some e => rw [hm] at h1; subst h1; simp [Chg.ok, hm, h2 e hm]
theorem chg_eqB (c d : Chg) : (d.kind == c.kind && (d.key == c.key && (d.old == c.old && (d.new == c.new && true)))) = decide (d = c) := by
  cases c; cases d; simp [Bool.decide_and]; rfl
end Go.Proofs.Ytjbkckcjmmmooaa.Sx
end
section
/- The arena's Make and Release. -/
namespace Go.Proofs.Ytjbkckcjmmmooaa.Sx
open Go

structure XMk (S : Arn) (k v l r : Int) where
  i : Nat
  n : NodeT
  h : n = if i = 0 then addC S ⟨k, v, l, r, 1, v, v, v⟩ l else mkNode S k v l r
abbrev bxN (n : NodeT) : Chunk C0 := .box [vI n.key, vI n.value, vU n.left, vU n.right, vI n.size, vI n.sum, vI n.min, vI n.max]
noncomputable def aMake (S : Arn) (k v l r : Int) : Ann C0 := { rounds := fun n => if n = 3 then 3 else 0, Γ := [(75, frameT [] tSlAllocated), (126, frameT [] tSlAlloc)], inv := fun n => match n with
  | 1013 => some { X := XMk S k v l r, sl := [12], tf := fun _ => [.one (.at (.ptr 7 0))], hf := fun x => chS S ++ [bxN x.n], rel := fun T _ x => slotI T 29 x.i }
  | _ => none }
def tMake : Tfm C0 := fun args H K => match args with
  | [.at (.ptr 0 0), .at (.val (.int .i64 k)), .at (.val (.int .i64 v)), .at (.val (.int .u32 l)), .at (.val (.int .u32 r))] => arM H fun S => exW S ∧ live S l ∧ live S r ∧
    (maxSize < (mkNode S k v l r).size → K (.tup [.at (vU 0), .at (vI 1)]) (chS S) W7) ∧
    ((mkNode S k v l r).size ≤ maxSize → S.free = 0 → K (.tup [.at (vU 0), .at (vI 2)]) (chS S) W7) ∧
    ((mkNode S k v l r).size ≤ maxSize → 0 < S.free → ∀ S' i, S' = makeS S k v l r → i = nxt S → K (.tup [.at (vU i), .at (vI 0)]) (chS S') W7)
  | _ => False
structure XRel (S : Arn) (hs : List Int) (i : Int) where
  S' : Arn
  work : List Int
  freed : Int
  h : Wf S' (work ++ hs) ∧ Kept S S' ∧ 0 ≤ freed ∧ freed + S'.nu = S.nu ∧ (∀ w ∈ work, S'.us w = true) ∧ (1 < S.ct i → (work = [i] ∧ S' = S) ∨ (work = [] ∧ S' = decS S i))
structure XRelK (S : Arn) (hs : List Int) (i : Int) where
  S' : Arn
  rest : List Int
  k : Int
  freed : Int
  h : Wf S' ((rest ++ [k]) ++ hs) ∧ Kept S S' ∧ 0 ≤ freed ∧ freed + S'.nu = S.nu ∧ (∀ w ∈ rest ++ [k], S'.us w = true) ∧ (1 < S.ct i → rest = [] ∧ k = i ∧ S' = S)
noncomputable def aRelease (S : Arn) (hs : List Int) (i : Int) : Ann C0 := { trunc := fun n => n == 34, Γ := [(75, frameT [] tSlAllocated), (76, frameT [] tSlRelease)], inv := fun n => match n with
  | 7 => some { X := XRel S hs i, sl := [7, 6], tf := fun x => [.one (.at (.slc 7)), vi .i64 x.freed], hf := fun x => chS x.S' ++ [.row true EC.u32 x.work], μ := fun x => 2 * x.S'.nu + x.work.length, wr := W7 }
  | 1010 => some { X := XRelK S hs i, sl := [7, 8], tf := fun x => [.one (.at (.slc 7)), vi .u32 x.k], hf := fun x => chS x.S' ++ [.row true EC.u32 x.rest], wr := W7, rel := fun T _ x => slotI T 6 x.freed ∧ slotI T 22 (x.rest.length + 1) }
  | _ => none }
def tRelease : Tfm C0 := fun args H K => match args with
  | [.at (.ptr 0 0), .at (.val (.int .u32 i))] => arM H fun S => ∃ hs, Wf S (i :: hs) ∧ ∀ S' (fr : Int), Wf S' hs → Kept S S' → fr + S'.nu = S.nu → (1 < S.ct i → S.us i = true → S' = decS S i) → (S.us i = false → S' = S) → K (.tup [.at (vI fr), .at (vI 0)]) (chS S') W7
  | _ => False
theorem list_last {α : Type} {l : List α} {d : α} (h : 0 < l.length) : l.take (l.length - 1) ++ [l.getD (l.length - 1) d] = l := by
  have h1 : l[l.length - 1]? = some (l.getD (l.length - 1) d) := by
    have : l.length - 1 < l.length := by omega
    simp [List.getD_eq_getElem?_getD, List.getElem?_eq_getElem this]
  rw [← take_snoc h1, show l.length - 1 + 1 = l.length by omega, List.take_length]
theorem XRelK.freed' {S : Arn} {hs : List Int} {i : Int} (x : XRelK S hs i) (hc : x.S'.ct x.k = 1) :
    Wf (freeS x.S' x.k) ((x.rest ++ nz (x.S'.nd x.k).right ++ nz (x.S'.nd x.k).left) ++ hs) ∧ Kept S (freeS x.S' x.k) ∧ 0 ≤ x.freed + 1 ∧ (x.freed + 1) + (freeS x.S' x.k).nu = S.nu ∧
    (∀ w ∈ x.rest ++ nz (x.S'.nd x.k).right ++ nz (x.S'.nd x.k).left, (freeS x.S' x.k).us w = true) ∧ (1 < S.ct i → ((x.rest ++ nz (x.S'.nd x.k).right ++ nz (x.S'.nd x.k).left) = [i] ∧ freeS x.S' x.k = S) ∨ ((x.rest ++ nz (x.S'.nd x.k).right ++ nz (x.S'.nd x.k).left) = [] ∧ freeS x.S' x.k = decS S i)) := by
  obtain ⟨h1, h2, h3, h4, h5, h6⟩ := x.h
  have hk : x.S'.us x.k = true := h5 _ (by simp)
  have hw : Wf x.S' (x.k :: (x.rest ++ hs)) := h1.perm (by
    rw [List.append_assoc]
    exact List.perm_middle)
  obtain ⟨f1, f2, f3, f4⟩ := hw.freed hk hc
  have f1' : Wf (freeS x.S' x.k) ((x.rest ++ nz (x.S'.nd x.k).right ++ nz (x.S'.nd x.k).left) ++ hs) := f1.perm (by
    rw [List.append_assoc, List.append_assoc]
    exact ((List.perm_append_comm_assoc _ _ _).append_left _).trans (List.perm_append_comm_assoc _ _ _))
  refine ⟨f1', h2.trans (kept_free hw hk hc), by omega, by omega, fun w hm => ?_, fun hc1 => ?_⟩
  · refine (f1'.held w (List.mem_append_left _ hm)).resolve_left fun e => ?_
    subst e
    rcases List.mem_append.1 hm with hm | hm
    · rcases List.mem_append.1 hm with hm | hm
      · have := h5 0 (by simp [hm])
        rw [h1.us0 (Int.le_refl 0)] at this; cases this
      · unfold nz at hm; split at hm <;> simp at hm; omega
    · unfold nz at hm; split at hm <;> simp at hm; omega
  · obtain ⟨_, e2, e3⟩ := h6 hc1
    rw [e2, e3] at hc
    omega
theorem vc_release (S : Arn) (hs : List Int) (i : Int) (K : KT) (hw : Wf S (i :: hs)) (h : ∀ S' (fr : Int), Wf S' hs → Kept S S' → fr + S'.nu = S.nu → (1 < S.ct i → S.us i = true → S' = decS S i) → (S.us i = false → S' = S) → K (.tup [.at (vI fr), .at (vI 0)]) (chS S') W7) :
    vc C0 (aRelease S hs i) Try.f29 [.at (.ptr 0 0), .at (vU i)] (chS S) (normK 7 (wideK W7 K)) := by
  refine Eq.mp (show (brS (i == 0)
  ((K (SV.tup [(TV.at (At.val (Value.int IntKind.i64 0))), (TV.at (At.val (Value.int IntKind.i64 0)))]) [(Chunk.box [(At.ptr 1 0), (At.slc 2), (At.slc 3), (At.val (Value.int IntKind.u64 (S.reads)))]), (Chunk.box [(At.slc 4), (At.slc 5), (At.slc 6), (At.val (Value.int IntKind.u32 (S.fresh)))]), (Chunk.row true (EC.node) (S.nodes)), (Chunk.row true (EC.int) (S.counts)), (Chunk.row true (EC.bool) (S.used)), (Chunk.row true (EC.u32) (S.gen)), (Chunk.row true (EC.u32) (S.rel))] [0, 1, 2, 3, 4, 5, 6]))
  (((0 ≤ i) ∧
  (i < 4294967296) ∧
  (S.used.length ≤ 65537) ∧
  (brS (!S.us i)
    ((K (SV.tup [(TV.at (At.val (Value.int IntKind.i64 0))), (TV.at (At.val (Value.int IntKind.i64 3)))]) [(Chunk.box [(At.ptr 1 0), (At.slc 2), (At.slc 3), (At.val (Value.int IntKind.u64 (S.reads)))]), (Chunk.box [(At.slc 4), (At.slc 5), (At.slc 6), (At.val (Value.int IntKind.u32 (S.fresh)))]), (Chunk.row true (EC.node) (S.nodes)), (Chunk.row true (EC.int) (S.counts)), (Chunk.row true (EC.bool) (S.used)), (Chunk.row true (EC.u32) (S.gen)), (Chunk.row true (EC.u32) (S.rel))] [0, 1, 2, 3, 4, 5, 6]))
    (((∃ x : XRel S hs i,
      (True ∧
      (True ∧
      ((Value.int IntKind.i64 0) = (Value.int IntKind.i64 (x.freed))) ∧
      True ∧
      True) ∧
      (True ∧
      True ∧
      True ∧
      ((Value.int IntKind.u64 (S.reads)) = (Value.int IntKind.u64 (x.S'.reads))) ∧
      True) ∧
      (True ∧
      True ∧
      True ∧
      ((Value.int IntKind.u32 (S.fresh)) = (Value.int IntKind.u32 (x.S'.fresh))) ∧
      True) ∧
      ((S.nodes) = (x.S'.nodes)) ∧
      ((S.counts) = (x.S'.counts)) ∧
      ((S.used) = (x.S'.used)) ∧
      ((S.gen) = (x.S'.gen)) ∧
      ((S.rel) = (x.S'.rel)) ∧
      ([(i)] = (x.work)) ∧
      True)) ∧
    (∀ x : XRel S hs i,
      (True →
      (brS (decide ((↑x.work.length : Int) > 0))
        (((0 ≤ IntKind.i64.wrap ((↑x.work.length : Int) - 1)) ∧
        (IntKind.i64.wrap ((↑x.work.length : Int) - 1) < (↑x.work.length : Int)) ∧
        ((0 ≤ IntKind.i64.wrap ((↑x.work.length : Int) - 1)) ∧
        (IntKind.i64.wrap ((↑x.work.length : Int) - 1) ≤ (↑x.work.length : Int)) ∧
        (∃ x1 : XRelK S hs i,
          ((((x.freed) = (x1.freed)) ∧
          (((↑x.work.length : Int)) = ((↑x1.rest.length : Int) + 1))) ∧
          (True ∧
          ((Value.int IntKind.i64 (x.freed)) = (Value.int IntKind.i64 (x.freed))) ∧
          True ∧
          ((Value.int IntKind.u32 (x.work.getD (IntKind.i64.wrap ((↑x.work.length : Int) - 1)).toNat 0)) = (Value.int IntKind.u32 (x1.k))) ∧
          True) ∧
          (True ∧
          True ∧
          True ∧
          ((Value.int IntKind.u64 (x.S'.reads)) = (Value.int IntKind.u64 (x1.S'.reads))) ∧
          True) ∧
          (True ∧
          True ∧
          True ∧
          ((Value.int IntKind.u32 (x.S'.fresh)) = (Value.int IntKind.u32 (x1.S'.fresh))) ∧
          True) ∧
          ((x.S'.nodes) = (x1.S'.nodes)) ∧
          ((x.S'.counts) = (x1.S'.counts)) ∧
          ((x.S'.used) = (x1.S'.used)) ∧
          ((x.S'.gen) = (x1.S'.gen)) ∧
          ((x.S'.rel) = (x1.S'.rel)) ∧
          ((List.take (IntKind.i64.wrap ((↑x.work.length : Int) - 1)).toNat x.work) = (x1.rest)) ∧
          True))) ∧
        (∀ x1 : XRelK S hs i,
          ((((x.freed) = (x1.freed)) ∧
          (((↑x.work.length : Int)) = ((↑x1.rest.length : Int) + 1))) →
          ((0 ≤ x1.k) ∧
          (x1.k < (↑x1.S'.counts.length : Int)) ∧
          (0 ≤ x1.k) ∧
          (x1.k < (↑x1.S'.counts.length : Int)) ∧
          (0 ≤ x1.k) ∧
          (x1.k < (↑(x1.S'.counts.set x1.k.toNat (IntKind.i64.wrap (x1.S'.ct x1.k - 1))).length : Int)) ∧
          (brS (decide ((x1.S'.counts.set x1.k.toNat (IntKind.i64.wrap (x1.S'.ct x1.k - 1))).getD x1.k.toNat 0 > 0))
            ((∃ x' : XRel S hs i,
              (True ∧
              ((True ∧
              ((Value.int IntKind.i64 (x.freed)) = (Value.int IntKind.i64 (x'.freed))) ∧
              True ∧
              True) ∧
              (True ∧
              True ∧
              True ∧
              ((Value.int IntKind.u64 (x1.S'.reads)) = (Value.int IntKind.u64 (x'.S'.reads))) ∧
              True) ∧
              (True ∧
              True ∧
              True ∧
              ((Value.int IntKind.u32 (x1.S'.fresh)) = (Value.int IntKind.u32 (x'.S'.fresh))) ∧
              True) ∧
              ((x1.S'.nodes) = (x'.S'.nodes)) ∧
              ((x1.S'.counts.set x1.k.toNat (IntKind.i64.wrap (x1.S'.ct x1.k - 1))) = (x'.S'.counts)) ∧
              ((x1.S'.used) = (x'.S'.used)) ∧
              ((x1.S'.gen) = (x'.S'.gen)) ∧
              ((x1.S'.rel) = (x'.S'.rel)) ∧
              ((x1.rest) = (x'.work)) ∧
              True) ∧
              (2 * x'.S'.nu + x'.work.length < 2 * x.S'.nu + x.work.length))))
            (((0 ≤ x1.k) ∧
            (x1.k < (↑x1.S'.nodes.length : Int)) ∧
            (0 ≤ x1.k) ∧
            (x1.k < (↑x1.S'.nodes.length : Int)) ∧
            (0 ≤ x1.k) ∧
            (x1.k < 4294967296) ∧
            (x1.S'.used.length ≤ 65537) ∧
            (x1.S'.rel.length ≤ 65537) ∧
            ((x1.S'.us x1.k) = true) ∧
            (brS ((x1.S'.nd x1.k).right != 0)
              ((((x1.rest.length + [(x1.S'.nd x1.k).right].length) * bytesOf C0 EC.u32 ≤ 140737488355328) ∧
              (brS ((x1.S'.nd x1.k).left != 0)
                (((((x1.rest ++ [(x1.S'.nd x1.k).right]).length + [(x1.S'.nd x1.k).left].length) * bytesOf C0 EC.u32 ≤ 140737488355328) ∧
                (∃ x' : XRel S hs i,
                  (True ∧
                  ((True ∧
                  ((Value.int IntKind.i64 (IntKind.i64.wrap (x.freed + 1))) = (Value.int IntKind.i64 (x'.freed))) ∧
                  True ∧
                  True) ∧
                  (True ∧
                  True ∧
                  True ∧
                  ((Value.int IntKind.u64 (x1.S'.reads)) = (Value.int IntKind.u64 (x'.S'.reads))) ∧
                  True) ∧
                  (True ∧
                  True ∧
                  True ∧
                  ((Value.int IntKind.u32 (x1.S'.fresh)) = (Value.int IntKind.u32 (x'.S'.fresh))) ∧
                  True) ∧
                  ((x1.S'.nodes.set x1.k.toNat { key := 0, value := 0, left := 0, right := 0, size := 0, sum := 0, min := 0, max := 0 : NodeT }) = (x'.S'.nodes)) ∧
                  ((x1.S'.counts.set x1.k.toNat (IntKind.i64.wrap (x1.S'.ct x1.k - 1))) = (x'.S'.counts)) ∧
                  ((x1.S'.used.set x1.k.toNat false) = (x'.S'.used)) ∧
                  ((x1.S'.gen) = (x'.S'.gen)) ∧
                  ((x1.S'.rel ++ [x1.k]) = (x'.S'.rel)) ∧
                  ((x1.rest ++ [(x1.S'.nd x1.k).right] ++ [(x1.S'.nd x1.k).left]) = (x'.work)) ∧
                  True) ∧
                  (2 * x'.S'.nu + x'.work.length < 2 * x.S'.nu + x.work.length)))))
                ((∃ x' : XRel S hs i,
                  (True ∧
                  ((True ∧
                  ((Value.int IntKind.i64 (IntKind.i64.wrap (x.freed + 1))) = (Value.int IntKind.i64 (x'.freed))) ∧
                  True ∧
                  True) ∧
                  (True ∧
                  True ∧
                  True ∧
                  ((Value.int IntKind.u64 (x1.S'.reads)) = (Value.int IntKind.u64 (x'.S'.reads))) ∧
                  True) ∧
                  (True ∧
                  True ∧
                  True ∧
                  ((Value.int IntKind.u32 (x1.S'.fresh)) = (Value.int IntKind.u32 (x'.S'.fresh))) ∧
                  True) ∧
                  ((x1.S'.nodes.set x1.k.toNat { key := 0, value := 0, left := 0, right := 0, size := 0, sum := 0, min := 0, max := 0 : NodeT }) = (x'.S'.nodes)) ∧
                  ((x1.S'.counts.set x1.k.toNat (IntKind.i64.wrap (x1.S'.ct x1.k - 1))) = (x'.S'.counts)) ∧
                  ((x1.S'.used.set x1.k.toNat false) = (x'.S'.used)) ∧
                  ((x1.S'.gen) = (x'.S'.gen)) ∧
                  ((x1.S'.rel ++ [x1.k]) = (x'.S'.rel)) ∧
                  ((x1.rest ++ [(x1.S'.nd x1.k).right]) = (x'.work)) ∧
                  True) ∧
                  (2 * x'.S'.nu + x'.work.length < 2 * x.S'.nu + x.work.length)))))))
              ((brS ((x1.S'.nd x1.k).left != 0)
                ((((x1.rest.length + [(x1.S'.nd x1.k).left].length) * bytesOf C0 EC.u32 ≤ 140737488355328) ∧
                (∃ x' : XRel S hs i,
                  (True ∧
                  ((True ∧
                  ((Value.int IntKind.i64 (IntKind.i64.wrap (x.freed + 1))) = (Value.int IntKind.i64 (x'.freed))) ∧
                  True ∧
                  True) ∧
                  (True ∧
                  True ∧
                  True ∧
                  ((Value.int IntKind.u64 (x1.S'.reads)) = (Value.int IntKind.u64 (x'.S'.reads))) ∧
                  True) ∧
                  (True ∧
                  True ∧
                  True ∧
                  ((Value.int IntKind.u32 (x1.S'.fresh)) = (Value.int IntKind.u32 (x'.S'.fresh))) ∧
                  True) ∧
                  ((x1.S'.nodes.set x1.k.toNat { key := 0, value := 0, left := 0, right := 0, size := 0, sum := 0, min := 0, max := 0 : NodeT }) = (x'.S'.nodes)) ∧
                  ((x1.S'.counts.set x1.k.toNat (IntKind.i64.wrap (x1.S'.ct x1.k - 1))) = (x'.S'.counts)) ∧
                  ((x1.S'.used.set x1.k.toNat false) = (x'.S'.used)) ∧
                  ((x1.S'.gen) = (x'.S'.gen)) ∧
                  ((x1.S'.rel ++ [x1.k]) = (x'.S'.rel)) ∧
                  ((x1.rest ++ [(x1.S'.nd x1.k).left]) = (x'.work)) ∧
                  True) ∧
                  (2 * x'.S'.nu + x'.work.length < 2 * x.S'.nu + x.work.length)))))
                ((∃ x' : XRel S hs i,
                  (True ∧
                  ((True ∧
                  ((Value.int IntKind.i64 (IntKind.i64.wrap (x.freed + 1))) = (Value.int IntKind.i64 (x'.freed))) ∧
                  True ∧
                  True) ∧
                  (True ∧
                  True ∧
                  True ∧
                  ((Value.int IntKind.u64 (x1.S'.reads)) = (Value.int IntKind.u64 (x'.S'.reads))) ∧
                  True) ∧
                  (True ∧
                  True ∧
                  True ∧
                  ((Value.int IntKind.u32 (x1.S'.fresh)) = (Value.int IntKind.u32 (x'.S'.fresh))) ∧
                  True) ∧
                  ((x1.S'.nodes.set x1.k.toNat { key := 0, value := 0, left := 0, right := 0, size := 0, sum := 0, min := 0, max := 0 : NodeT }) = (x'.S'.nodes)) ∧
                  ((x1.S'.counts.set x1.k.toNat (IntKind.i64.wrap (x1.S'.ct x1.k - 1))) = (x'.S'.counts)) ∧
                  ((x1.S'.used.set x1.k.toNat false) = (x'.S'.used)) ∧
                  ((x1.S'.gen) = (x'.S'.gen)) ∧
                  ((x1.S'.rel ++ [x1.k]) = (x'.S'.rel)) ∧
                  ((x1.rest) = (x'.work)) ∧
                  True) ∧
                  (2 * x'.S'.nu + x'.work.length < 2 * x.S'.nu + x.work.length)))))))))))))))
        ((K (SV.tup [(TV.at (At.val (Value.int IntKind.i64 (x.freed)))), (TV.at (At.val (Value.int IntKind.i64 0)))]) [(Chunk.box [(At.ptr 1 0), (At.slc 2), (At.slc 3), (At.val (Value.int IntKind.u64 (x.S'.reads)))]), (Chunk.box [(At.slc 4), (At.slc 5), (At.slc 6), (At.val (Value.int IntKind.u32 (x.S'.fresh)))]), (Chunk.row true (EC.node) (x.S'.nodes)), (Chunk.row true (EC.int) (x.S'.counts)), (Chunk.row true (EC.bool) (x.S'.used)), (Chunk.row true (EC.u32) (x.S'.gen)), (Chunk.row true (EC.u32) (x.S'.rel))] [0, 1, 2, 3, 4, 5, 6]))))))))))) = _ by kernel_rfl) ?_
  simp only [bytes_u32]
  have hin := hw.held i (by simp)
  have hge := hw.ge0 hin
  have h2 := hw.n2
  refine brS_of (fun c => ?_) fun c => ?_
  · have c : i = 0 := by simpa using c
    subst c
    exact h S 0 hw.of_zero (Kept.refl S) (by omega) (fun _ e => by rw [hw.us0 (Int.le_refl 0)] at e; cases e) fun _ => rfl
  have c : i ≠ 0 := by simpa using c
  have hu := hin.resolve_left c
  have hp := hw.pos hu
  refine ⟨hge, by omega, by omega, brS_of (fun d => by rw [hu] at d; cases d) fun _ => ⟨⟨⟨S, [i], 0, hw, Kept.refl S, by omega, by omega, by simpa using hu, fun _ => .inl ⟨rfl, rfl⟩⟩, ?_⟩, fun x _ => brS_of (fun e => ?_) fun e => ?_⟩⟩
  · (repeat' first | exact trivial | exact rfl | refine And.intro ?_ ?_)
  · obtain ⟨g1, g2, g3, g4, g5, g6⟩ := x.h
    have e : 0 < x.work.length := by have := of_decide_eq_true e; omega
    have hl := list_last (d := (0 : Int)) e
    have hn1 := g1.n2
    have hfew := g1.few
    have hfl : x.work.length ≤ 2000000000 := by simp at hfew; omega
    rw [wrap_id (by omega) (by omega), show ((x.work.length : Int) - 1).toNat = x.work.length - 1 by omega]
    refine ⟨by omega, by omega, ⟨by omega, by omega, ⟨x.S', x.work.take (x.work.length - 1), x.work.getD (x.work.length - 1) 0, x.freed, ?_⟩, ?_⟩, fun z rz => ?_⟩
    · rw [hl]
      refine ⟨g1, g2, g3, g4, g5, fun hc => ?_⟩
      rcases g6 hc with ⟨q1, q2⟩ | ⟨q1, _⟩
      · rw [q1]; exact ⟨rfl, rfl, q2⟩
      · rw [q1] at e; simp at e
    · refine ⟨⟨rfl, ?_⟩, ?_⟩
      · have : (x.work.take (x.work.length - 1)).length = x.work.length - 1 := by simp
        show (x.work.length : Int) = ((x.work.take (x.work.length - 1)).length : Int) + 1
        omega
      · (repeat' first | exact trivial | exact rfl | refine And.intro ?_ ?_)
    · obtain ⟨r1, r2⟩ := rz
      obtain ⟨h1, h2, h3, h4, h5, h6⟩ := z.h
      have hk : z.S'.us z.k = true := h5 _ (by simp)
      have hpk := h1.pos hk
      have hcn := h1.ncnt
      have hnn := h1.nnod
      have hn2 := h1.n2
      have hfn := h1.free_nonneg
      have hfrr := h1.fr
      have hct := h1.ct_le hk
      have hw' : Wf z.S' (z.k :: (z.rest ++ hs)) := h1.perm (by rw [List.append_assoc]; exact List.perm_middle)
      refine ⟨by omega, by omega, by omega, by omega, by omega, by rw [List.length_set]; omega, ?_⟩
      rw [getD_set, if_pos ⟨rfl, by omega⟩, wrap_id (by omega) (by omega)]
      refine brS_of (fun d => ?_) fun d => ?_
      · have d : 1 < z.S'.ct z.k := by simp at d; omega
        refine ⟨⟨decS z.S' z.k, z.rest, z.freed, hw'.dec hk d, h2.trans (kept_dec _ _), h3, h4, fun w hm => h5 w (by simp [hm]), fun hc => ?_⟩, ?_⟩
        · obtain ⟨q1, q2, q3⟩ := h6 hc
          exact .inr ⟨q1, by rw [q2, q3]⟩
        · have e1 : (decS z.S' z.k).nu = z.S'.nu := rfl
          have e2 : (z.S'.counts.set z.k.toNat (z.S'.ct z.k - 1)) = (decS z.S' z.k).counts := by
            show _ = z.S'.counts.set z.k.toNat (IntKind.i64.wrap (z.S'.ct z.k - 1))
            rw [wrap_id (by omega) (by omega)]
          refine ⟨trivial, ⟨⟨trivial, by rw [r1], trivial, trivial⟩, ⟨trivial, trivial, trivial, rfl, trivial⟩, ⟨trivial, trivial, trivial, rfl, trivial⟩, rfl, e2, rfl, rfl, rfl, rfl, trivial⟩, ?_⟩
          show 2 * (decS z.S' z.k).nu + z.rest.length < _
          omega
      · have d : z.S'.ct z.k = 1 := by simp at d; omega
        obtain ⟨k1, k2, k3, k4, k5, k6⟩ := z.freed' d
        have hm := (hw'.freed hk d).2.1
        have e2 : (z.S'.counts.set z.k.toNat (z.S'.ct z.k - 1)) = (freeS z.S' z.k).counts := by
          show _ = z.S'.counts.set z.k.toNat (IntKind.i64.wrap (z.S'.ct z.k - 1))
          rw [wrap_id (by omega) (by omega)]
        have hwf : IntKind.i64.wrap (x.freed + 1) = z.freed + 1 := by
          have := h1.nu_le; have := hw.nu_le
          rw [wrap_id (by omega) (by omega), r1]
        have nl : ∀ c, (nz c).length ≤ 1 := fun c => by unfold nz; split <;> simp
        rw [hwf]
        refine ⟨by omega, by omega, by omega, by omega, by omega, by omega, by omega, by omega, hk, brS_of (fun q1 => ⟨by simp; omega, brS_of (fun q2 => ⟨by simp; omega, ⟨⟨freeS z.S' z.k, _, z.freed + 1, k1, k2, k3, k4, k5, k6⟩, ?_⟩⟩) fun q2 => ⟨⟨freeS z.S' z.k, _, z.freed + 1, k1, k2, k3, k4, k5, k6⟩, ?_⟩⟩) fun q1 => brS_of (fun q2 => ⟨by simp; omega, ⟨⟨freeS z.S' z.k, _, z.freed + 1, k1, k2, k3, k4, k5, k6⟩, ?_⟩⟩) fun q2 => ⟨⟨freeS z.S' z.k, _, z.freed + 1, k1, k2, k3, k4, k5, k6⟩, ?_⟩⟩
        all_goals
          refine ⟨trivial, ⟨⟨trivial, rfl, trivial, trivial⟩, ⟨trivial, trivial, trivial, rfl, trivial⟩, ⟨trivial, trivial, trivial, rfl, trivial⟩, rfl, e2, rfl, rfl, rfl, ?_, trivial⟩, ?_⟩
        all_goals (try simp at q1 q2)
        case refine_1.refine_1 => simp [nz, q1, q2]
        all_goals first
          | (show 2 * (freeS z.S' z.k).nu + (z.rest ++ nz _ ++ nz _).length < _; have := nl (z.S'.nd z.k).left; have := nl (z.S'.nd z.k).right; simp only [List.length_append]; omega)
          | simp [nz, q1, q2]
  · have e : x.work = [] := by have := of_decide_eq_false e; exact List.length_eq_zero_iff.1 (by omega)
    obtain ⟨g1, g2, g3, g4, g5, g6⟩ := x.h
    rw [e] at g1
    refine h x.S' x.freed g1 g2 g4 (fun hc _ => ?_) fun hc => by rw [hu] at hc; cases hc
    rcases g6 hc with ⟨q1, _⟩ | ⟨_, q2⟩
    · rw [e] at q1; cases q1
    · exact q2
theorem s_release : SoundT C0 29 tRelease := by
  refine .ofW W7 Try.func29 (by decide) rfl fun args H K h hB => ?_
  unfold tRelease at h
  split at h <;> try exact h.elim
  unfold arM at h
  split at h <;> try exact h.elim
  rename_i i _ rd fr nd ct us gn rl
  obtain ⟨hs, h1, h2⟩ := h
  exact ⟨aRelease ⟨us, gn, rl, fr, nd, ct, rd⟩ hs i, ⟨frame C0.ok s_slAllocated _, frame C0.ok s_slRelease _, trivial⟩, vc_release ⟨us, gn, rl, fr, nd, ct, rd⟩ hs i K h1 h2⟩
theorem vc_make (S : Arn) (k v l r : Int) (K : KT) (hw : exW S) (hl : live S l) (hr : live S r)
    (h1 : maxSize < (mkNode S k v l r).size → K (.tup [.at (vU 0), .at (vI 1)]) (chS S) W7)
    (h2 : (mkNode S k v l r).size ≤ maxSize → S.free = 0 → K (.tup [.at (vU 0), .at (vI 2)]) (chS S) W7)
    (h3 : (mkNode S k v l r).size ≤ maxSize → 0 < S.free → ∀ S' i, S' = makeS S k v l r → i = nxt S → K (.tup [.at (vU i), .at (vI 0)]) (chS S') W7) :
    vc C0 (aMake S k v l r) Try.f101 [.at (.ptr 0 0), .at (vI k), .at (vI v), .at (vU l), .at (vU r)] (chS S) (normK 7 (wideK W7 K)) := by
  refine Eq.mp (show ((((0 : Int) ≤ 0) ∧
(0 < ((2 : Nat) : Int)) ∧
(brS (l == 0)
  ((∃ x : XMk S k v l r,
    ((0 = ((↑x.i : Int))) ∧
    (True ∧
    ((Value.int IntKind.u32 (l)) = (Value.int IntKind.u32 (l))) ∧
    ((Value.int IntKind.u32 (r)) = (Value.int IntKind.u32 (r))) ∧
    True ∧
    (((Value.int IntKind.u32 (l)) = (Value.int IntKind.u32 (l))) ∧
    ((Value.int IntKind.u32 (r)) = (Value.int IntKind.u32 (r))) ∧
    True) ∧
    ((Value.int IntKind.i64 0) = (Value.int IntKind.i64 0)) ∧
    True) ∧
    (True ∧
    True ∧
    True ∧
    ((Value.int IntKind.u64 (S.reads)) = (Value.int IntKind.u64 (S.reads))) ∧
    True) ∧
    (True ∧
    True ∧
    True ∧
    ((Value.int IntKind.u32 (S.fresh)) = (Value.int IntKind.u32 (S.fresh))) ∧
    True) ∧
    ((S.nodes) = (S.nodes)) ∧
    ((S.counts) = (S.counts)) ∧
    ((S.used) = (S.used)) ∧
    ((S.gen) = (S.gen)) ∧
    ((S.rel) = (S.rel)) ∧
    (((Value.int IntKind.i64 (k)) = (Value.int IntKind.i64 (x.n.key))) ∧
    ((Value.int IntKind.i64 (v)) = (Value.int IntKind.i64 (x.n.value))) ∧
    ((Value.int IntKind.u32 (l)) = (Value.int IntKind.u32 (x.n.left))) ∧
    ((Value.int IntKind.u32 (r)) = (Value.int IntKind.u32 (x.n.right))) ∧
    ((Value.int IntKind.i64 1) = (Value.int IntKind.i64 (x.n.size))) ∧
    ((Value.int IntKind.i64 (v)) = (Value.int IntKind.i64 (x.n.sum))) ∧
    ((Value.int IntKind.i64 (v)) = (Value.int IntKind.i64 (x.n.min))) ∧
    ((Value.int IntKind.i64 (v)) = (Value.int IntKind.i64 (x.n.max))) ∧
    True) ∧
    True)))
  (((0 ≤ l) ∧
  (l < 4294967296) ∧
  (S.used.length ≤ 65537) ∧
  (brS (!S.us l)
    ((K (SV.tup [(TV.at (At.val (Value.int IntKind.u32 0))), (TV.at (At.val (Value.int IntKind.i64 1)))]) [(Chunk.box [(At.ptr 1 0), (At.slc 2), (At.slc 3), (At.val (Value.int IntKind.u64 (S.reads)))]), (Chunk.box [(At.slc 4), (At.slc 5), (At.slc 6), (At.val (Value.int IntKind.u32 (S.fresh)))]), (Chunk.row true (EC.node) (S.nodes)), (Chunk.row true (EC.int) (S.counts)), (Chunk.row true (EC.bool) (S.used)), (Chunk.row true (EC.u32) (S.gen)), (Chunk.row true (EC.u32) (S.rel))] [0, 1, 2, 3, 4, 5, 6]))
    (((0 ≤ l) ∧
    (l < (↑S.nodes.length : Int)) ∧
    (∃ x : XMk S k v l r,
      ((0 = ((↑x.i : Int))) ∧
      (True ∧
      ((Value.int IntKind.u32 (l)) = (Value.int IntKind.u32 (l))) ∧
      ((Value.int IntKind.u32 (r)) = (Value.int IntKind.u32 (r))) ∧
      True ∧
      (((Value.int IntKind.u32 (l)) = (Value.int IntKind.u32 (l))) ∧
      ((Value.int IntKind.u32 (r)) = (Value.int IntKind.u32 (r))) ∧
      True) ∧
      ((Value.int IntKind.i64 0) = (Value.int IntKind.i64 0)) ∧
      True) ∧
      (True ∧
      True ∧
      True ∧
      ((Value.int IntKind.u64 (S.reads)) = (Value.int IntKind.u64 (S.reads))) ∧
      True) ∧
      (True ∧
      True ∧
      True ∧
      ((Value.int IntKind.u32 (S.fresh)) = (Value.int IntKind.u32 (S.fresh))) ∧
      True) ∧
      ((S.nodes) = (S.nodes)) ∧
      ((S.counts) = (S.counts)) ∧
      ((S.used) = (S.used)) ∧
      ((S.gen) = (S.gen)) ∧
      ((S.rel) = (S.rel)) ∧
      (((Value.int IntKind.i64 (k)) = (Value.int IntKind.i64 (x.n.key))) ∧
      ((Value.int IntKind.i64 (v)) = (Value.int IntKind.i64 (x.n.value))) ∧
      ((Value.int IntKind.u32 (l)) = (Value.int IntKind.u32 (x.n.left))) ∧
      ((Value.int IntKind.u32 (r)) = (Value.int IntKind.u32 (x.n.right))) ∧
      ((Value.int IntKind.i64 (IntKind.i64.wrap (1 + (S.nd l).size))) = (Value.int IntKind.i64 (x.n.size))) ∧
      ((Value.int IntKind.i64 (IntKind.i64.wrap (v + (S.nd l).sum))) = (Value.int IntKind.i64 (x.n.sum))) ∧
      ((Value.int IntKind.i64 (if (S.nd l).min < v then (S.nd l).min else v)) = (Value.int IntKind.i64 (x.n.min))) ∧
      ((Value.int IntKind.i64 (if (S.nd l).max > v then (S.nd l).max else v)) = (Value.int IntKind.i64 (x.n.max))) ∧
      True) ∧
      True))))))))) ∧
(∀ x : XMk S k v l r,
  ((0 = ((↑x.i : Int))) →
  (((0 ≤ IntKind.i64.wrap (0 + 1)) ∧
  (IntKind.i64.wrap (0 + 1) < ((2 : Nat) : Int)) ∧
  (brS (r == 0)
    ((∃ x1 : XMk S k v l r,
      ((1 = ((↑x1.i : Int))) ∧
      (True ∧
      ((Value.int IntKind.u32 (l)) = (Value.int IntKind.u32 (l))) ∧
      ((Value.int IntKind.u32 (r)) = (Value.int IntKind.u32 (r))) ∧
      True ∧
      (((Value.int IntKind.u32 (l)) = (Value.int IntKind.u32 (l))) ∧
      ((Value.int IntKind.u32 (r)) = (Value.int IntKind.u32 (r))) ∧
      True) ∧
      ((Value.int IntKind.i64 1) = (Value.int IntKind.i64 1)) ∧
      True) ∧
      (True ∧
      True ∧
      True ∧
      ((Value.int IntKind.u64 (S.reads)) = (Value.int IntKind.u64 (S.reads))) ∧
      True) ∧
      (True ∧
      True ∧
      True ∧
      ((Value.int IntKind.u32 (S.fresh)) = (Value.int IntKind.u32 (S.fresh))) ∧
      True) ∧
      ((S.nodes) = (S.nodes)) ∧
      ((S.counts) = (S.counts)) ∧
      ((S.used) = (S.used)) ∧
      ((S.gen) = (S.gen)) ∧
      ((S.rel) = (S.rel)) ∧
      (((Value.int IntKind.i64 (x.n.key)) = (Value.int IntKind.i64 (x1.n.key))) ∧
      ((Value.int IntKind.i64 (x.n.value)) = (Value.int IntKind.i64 (x1.n.value))) ∧
      ((Value.int IntKind.u32 (x.n.left)) = (Value.int IntKind.u32 (x1.n.left))) ∧
      ((Value.int IntKind.u32 (x.n.right)) = (Value.int IntKind.u32 (x1.n.right))) ∧
      ((Value.int IntKind.i64 (x.n.size)) = (Value.int IntKind.i64 (x1.n.size))) ∧
      ((Value.int IntKind.i64 (x.n.sum)) = (Value.int IntKind.i64 (x1.n.sum))) ∧
      ((Value.int IntKind.i64 (x.n.min)) = (Value.int IntKind.i64 (x1.n.min))) ∧
      ((Value.int IntKind.i64 (x.n.max)) = (Value.int IntKind.i64 (x1.n.max))) ∧
      True) ∧
      True)))
    (((0 ≤ r) ∧
    (r < 4294967296) ∧
    (S.used.length ≤ 65537) ∧
    (brS (!S.us r)
      ((K (SV.tup [(TV.at (At.val (Value.int IntKind.u32 0))), (TV.at (At.val (Value.int IntKind.i64 1)))]) [(Chunk.box [(At.ptr 1 0), (At.slc 2), (At.slc 3), (At.val (Value.int IntKind.u64 (S.reads)))]), (Chunk.box [(At.slc 4), (At.slc 5), (At.slc 6), (At.val (Value.int IntKind.u32 (S.fresh)))]), (Chunk.row true (EC.node) (S.nodes)), (Chunk.row true (EC.int) (S.counts)), (Chunk.row true (EC.bool) (S.used)), (Chunk.row true (EC.u32) (S.gen)), (Chunk.row true (EC.u32) (S.rel))] [0, 1, 2, 3, 4, 5, 6]))
      (((0 ≤ r) ∧
      (r < (↑S.nodes.length : Int)) ∧
      (∃ x1 : XMk S k v l r,
        ((1 = ((↑x1.i : Int))) ∧
        (True ∧
        ((Value.int IntKind.u32 (l)) = (Value.int IntKind.u32 (l))) ∧
        ((Value.int IntKind.u32 (r)) = (Value.int IntKind.u32 (r))) ∧
        True ∧
        (((Value.int IntKind.u32 (l)) = (Value.int IntKind.u32 (l))) ∧
        ((Value.int IntKind.u32 (r)) = (Value.int IntKind.u32 (r))) ∧
        True) ∧
        ((Value.int IntKind.i64 1) = (Value.int IntKind.i64 1)) ∧
        True) ∧
        (True ∧
        True ∧
        True ∧
        ((Value.int IntKind.u64 (S.reads)) = (Value.int IntKind.u64 (S.reads))) ∧
        True) ∧
        (True ∧
        True ∧
        True ∧
        ((Value.int IntKind.u32 (S.fresh)) = (Value.int IntKind.u32 (S.fresh))) ∧
        True) ∧
        ((S.nodes) = (S.nodes)) ∧
        ((S.counts) = (S.counts)) ∧
        ((S.used) = (S.used)) ∧
        ((S.gen) = (S.gen)) ∧
        ((S.rel) = (S.rel)) ∧
        (((Value.int IntKind.i64 (x.n.key)) = (Value.int IntKind.i64 (x1.n.key))) ∧
        ((Value.int IntKind.i64 (x.n.value)) = (Value.int IntKind.i64 (x1.n.value))) ∧
        ((Value.int IntKind.u32 (x.n.left)) = (Value.int IntKind.u32 (x1.n.left))) ∧
        ((Value.int IntKind.u32 (x.n.right)) = (Value.int IntKind.u32 (x1.n.right))) ∧
        ((Value.int IntKind.i64 (IntKind.i64.wrap (x.n.size + (S.nd r).size))) = (Value.int IntKind.i64 (x1.n.size))) ∧
        ((Value.int IntKind.i64 (IntKind.i64.wrap (x.n.sum + (S.nd r).sum))) = (Value.int IntKind.i64 (x1.n.sum))) ∧
        ((Value.int IntKind.i64 (if (S.nd r).min < x.n.min then (S.nd r).min else x.n.min)) = (Value.int IntKind.i64 (x1.n.min))) ∧
        ((Value.int IntKind.i64 (if (S.nd r).max > x.n.max then (S.nd r).max else x.n.max)) = (Value.int IntKind.i64 (x1.n.max))) ∧
        True) ∧
        True))))))))) ∧
  (∀ x1 : XMk S k v l r,
    ((1 = ((↑x1.i : Int))) →
    (brS (decide (x1.n.size > 2147483647))
      ((K (SV.tup [(TV.at (At.val (Value.int IntKind.u32 0))), (TV.at (At.val (Value.int IntKind.i64 1)))]) [(Chunk.box [(At.ptr 1 0), (At.slc 2), (At.slc 3), (At.val (Value.int IntKind.u64 (S.reads)))]), (Chunk.box [(At.slc 4), (At.slc 5), (At.slc 6), (At.val (Value.int IntKind.u32 (S.fresh)))]), (Chunk.row true (EC.node) (S.nodes)), (Chunk.row true (EC.int) (S.counts)), (Chunk.row true (EC.bool) (S.used)), (Chunk.row true (EC.u32) (S.gen)), (Chunk.row true (EC.u32) (S.rel))] [0, 1, 2, 3, 4, 5, 6]))
      (((1 ≤ S.used.length) ∧
      (S.used.length ≤ 65537) ∧
      (S.rel.length ≤ 65537) ∧
      (0 ≤ S.fresh) ∧
      (S.fresh ≤ 65537) ∧
      ((S.gen.length) = (S.used.length)) ∧
      (relOK S.rel S.used.length) ∧
      (0 ≤ (↑S.rel.length : Int) + ((↑S.used.length : Int) - 1) - S.fresh) ∧
      ((((↑S.rel.length : Int) + ((↑S.used.length : Int) - 1) - S.fresh) = 0) →
      (K (SV.tup [(TV.at (At.val (Value.int IntKind.u32 0))), (TV.at (At.val (Value.int IntKind.i64 2)))]) [(Chunk.box [(At.ptr 1 0), (At.slc 2), (At.slc 3), (At.val (Value.int IntKind.u64 (S.reads)))]), (Chunk.box [(At.slc 4), (At.slc 5), (At.slc 6), (At.val (Value.int IntKind.u32 (S.fresh)))]), (Chunk.row true (EC.node) (S.nodes)), (Chunk.row true (EC.int) (S.counts)), (Chunk.row true (EC.bool) (S.used)), (Chunk.row true (EC.u32) (S.gen)), (Chunk.row true (EC.u32) (S.rel))] [0, 1, 2, 3, 4, 5, 6])) ∧
      ((0 < (↑S.rel.length : Int) + ((↑S.used.length : Int) - 1) - S.fresh) →
      (∀ i : Int,
        (∀ rl' : List Int,
          (∀ fr' : Int,
            (((Prod.mk (i) (Prod.mk (rl') (fr'))) = (fresh3 S.rel S.fresh)) →
            ((0 ≤ i) ∧
            (i < (↑S.nodes.length : Int)) ∧
            (0 ≤ i) ∧
            (i < (↑S.counts.length : Int)) ∧
            (0 ≤ l) ∧
            (l < (↑(S.counts.set i.toNat 1).length : Int)) ∧
            (0 ≤ l) ∧
            (l < (↑(S.counts.set i.toNat 1).length : Int)) ∧
            (0 ≤ r) ∧
            (r < (↑((S.counts.set i.toNat 1).set l.toNat (IntKind.i64.wrap ((S.counts.set i.toNat 1).getD l.toNat 0 + 1))).length : Int)) ∧
            (0 ≤ r) ∧
            (r < (↑((S.counts.set i.toNat 1).set l.toNat (IntKind.i64.wrap ((S.counts.set i.toNat 1).getD l.toNat 0 + 1))).length : Int)) ∧
            (K (SV.tup [(TV.at (At.val (Value.int IntKind.u32 (i)))), (TV.at (At.val (Value.int IntKind.i64 0)))]) [(Chunk.box [(At.ptr 1 0), (At.slc 2), (At.slc 3), (At.val (Value.int IntKind.u64 (S.reads)))]), (Chunk.box [(At.slc 4), (At.slc 5), (At.slc 6), (At.val (Value.int IntKind.u32 (fr')))]), (Chunk.row true (EC.node) (S.nodes.set i.toNat { key := x1.n.key, value := x1.n.value, left := x1.n.left, right := x1.n.right, size := x1.n.size, sum := x1.n.sum, min := x1.n.min, max := x1.n.max : NodeT })), (Chunk.row true (EC.int) (((S.counts.set i.toNat 1).set l.toNat (IntKind.i64.wrap ((S.counts.set i.toNat 1).getD l.toNat 0 + 1))).set r.toNat (IntKind.i64.wrap (((S.counts.set i.toNat 1).set l.toNat (IntKind.i64.wrap ((S.counts.set i.toNat 1).getD l.toNat 0 + 1))).getD r.toNat 0 + 1)))), (Chunk.row true (EC.bool) (S.used.set i.toNat true)), (Chunk.row true (EC.u32) (S.gen.set i.toNat (IntKind.u32.wrap (S.gn i + 1)))), (Chunk.row true (EC.u32) (rl'))] [0, 1, 2, 3, 4, 5, 6])))))))))))))))) = _ by kernel_rfl) ?_
  obtain ⟨hs, hw⟩ := hw
  have hn1 := hw.n1; have hn2 := hw.n2; have hnn := hw.nnod; have hng := hw.ngen; have hnc := hw.ncnt; have hfr := hw.fr; have hfree := hw.free_nonneg
  have hl0 := hw.ge0 hl
  have hr0 := hw.ge0 hr
  have hl1 : l < S.used.length := by rcases hl with e | e; omega; have := hw.pos e; omega
  have hr1 : r < S.used.length := by rcases hr with e | e; omega; have := hw.pos e; omega
  refine ⟨⟨by decide, by decide, brS_of (fun c => ⟨⟨0, ⟨k, v, l, r, 1, v, v, v⟩, ?_⟩, ?_⟩) fun c => ⟨hl0, by omega, by omega, brS_of (fun d => ?_) fun d => ⟨hl0, by omega, ⟨⟨0, addK ⟨k, v, l, r, 1, v, v, v⟩ (S.nd l), ?_⟩, ?_⟩⟩⟩⟩,
    fun x rx => ⟨⟨by decide, by decide, brS_of (fun c => ⟨⟨1, x.n, ?_⟩, ?_⟩) fun c => ⟨hr0, by omega, by omega, brS_of (fun d => ?_) fun d => ⟨hr0, by omega, ⟨⟨1, addK x.n (S.nd r), ?_⟩, ?_⟩⟩⟩⟩, fun x1 r1 => ?_⟩⟩
  · have c : l = 0 := by simpa using c
    rw [if_pos rfl]; unfold addC; rw [if_pos c]
  · (repeat' first | exact trivial | exact rfl | refine And.intro ?_ ?_)
  · have c : l ≠ 0 := by simpa using c
    have := hl.resolve_left c
    rw [this] at d; cases d
  · have c : l ≠ 0 := by simpa using c
    rw [if_pos rfl]; unfold addC; rw [if_neg c]
  · (repeat' first | exact trivial | exact rfl | refine And.intro ?_ ?_)
  · have c : r = 0 := by simpa using c
    have hx := x.h
    rw [if_pos (by omega)] at hx
    rw [if_neg (by decide)]; unfold mkNode; rw [← hx]; unfold addC; rw [if_pos c]
  · (repeat' first | exact trivial | exact rfl | refine And.intro ?_ ?_)
  · have c : r ≠ 0 := by simpa using c
    have := hr.resolve_left c
    rw [this] at d; cases d
  · have c : r ≠ 0 := by simpa using c
    have hx := x.h
    rw [if_pos (by omega)] at hx
    rw [if_neg (by decide)]; unfold mkNode; rw [← hx]; unfold addC; rw [if_neg c]
  · (repeat' first | exact trivial | exact rfl | refine And.intro ?_ ?_)
  · obtain ⟨i1, n1, hx⟩ := x1
    have r1 : i1 = 1 := by have : (1 : Int) = (i1 : Int) := r1; omega
    subst r1
    rw [if_neg (by decide)] at hx
    subst hx
    refine brS_of (fun c => h1 (by have : (mkNode S k v l r).size > 2147483647 := of_decide_eq_true c; unfold maxSize; omega)) fun c => ?_
    have c : (mkNode S k v l r).size ≤ maxSize := by have : ¬ (mkNode S k v l r).size > 2147483647 := of_decide_eq_false c; unfold maxSize; omega
    refine ⟨by omega, hn2, by omega, hfr.1, by omega, hng, fun i hi => by have := hw.rel i hi; omega, by have := hfree.1; unfold Arn.free Arn.cap at this; omega, fun e => h2 c (by unfold Arn.free Arn.cap; omega), fun e i rl' fr' he => ?_⟩
    have e : 0 < S.free := by unfold Arn.free Arn.cap; omega
    have h4 := h3 c e _ _ rfl rfl
    obtain ⟨b1, b2, _⟩ := hw.nxt_spec e
    have e1 : i = nxt S := congrArg Prod.fst he
    have e2 : rl' = (freshS S).2.1 := congrArg (fun p : Int × List Int × Int => p.2.1) he
    have e3 : fr' = (freshS S).2.2 := congrArg (fun p : Int × List Int × Int => p.2.2) he
    subst e1 e2 e3
    refine ⟨by omega, by omega, by omega, by omega, hl0, ?_, hl0, ?_, hr0, ?_, hr0, ?_, h4⟩
    all_goals (simp only [List.length_set]; omega)
theorem s_make : SoundT C0 101 tMake := by
  refine .ofW W7 Try.func101 (by decide) rfl fun args H K h hB => ?_
  unfold tMake at h
  split at h <;> try exact h.elim
  unfold arM at h
  split at h <;> try exact h.elim
  rename_i k v l r _ rd fr nd ct us gn rl
  obtain ⟨h1, h2, h3, h4, h5, h6⟩ := h
  exact ⟨aMake ⟨us, gn, rl, fr, nd, ct, rd⟩ k v l r, ⟨frame C0.ok s_slAllocated _, frame C0.ok s_slAlloc _, trivial⟩, vc_make ⟨us, gn, rl, fr, nd, ct, rd⟩ k v l r K h1 h2 h3 h4 h5 h6⟩
end Go.Proofs.Ytjbkckcjmmmooaa.Sx
end
section
/- Make where it succeeds, Release where another reference is left. -/
namespace Go.Proofs.Ytjbkckcjmmmooaa.Sx
open Go

def tMakeOk : Tfm C0 := fun args H K => match args with
  | [.at (.ptr 0 0), .at (.val (.int .i64 k)), .at (.val (.int .i64 v)), .at (.val (.int .u32 l)), .at (.val (.int .u32 r))] => arM H fun S => exW S ∧ live S l ∧ live S r ∧ (mkNode S k v l r).size ≤ maxSize ∧ 0 < S.free ∧
    ∀ S' i, S' = makeS S k v l r → i = nxt S → K (.tup [.at (vU i), .at (vI 0)]) (chS S') W7
  | _ => False
theorem s_makeOk : SoundT C0 101 tMakeOk := s_make.weak fun args H K h => by
  unfold tMakeOk at h
  unfold tMake
  split at h <;> try exact h.elim
  unfold arM at h ⊢
  split at h <;> try exact h.elim
  obtain ⟨h1, h2, h3, h4, h5, h6⟩ := h
  exact ⟨h1, h2, h3, fun e => absurd h4 (by omega), fun _ e => absurd h5 (by omega), fun _ _ => h6⟩
def tGive : Tfm C0 := fun args H K => match args with
  | [.at (.ptr 0 0), .at (.val (.int .u32 i))] => arM H fun S => ∃ hs, Wf S (i :: hs) ∧ (S.us i = true → 1 ≤ S.indeg i) ∧ ∀ S', S' = relA S i → K (.tup [.at (vI 0), .at (vI 0)]) (chS S') W7
  | _ => False
theorem s_give : SoundT C0 29 tGive := s_release.weak fun args H K h => by
  unfold tGive at h
  unfold tRelease
  split at h <;> try exact h.elim
  unfold arM at h ⊢
  split at h <;> try exact h.elim
  obtain ⟨hs, h1, h2, h3⟩ := h
  refine ⟨hs, h1, fun S' fr _ _ h4 h5 h6 => ?_⟩
  have e := h1.given h2 h5 h6
  have h7 := h3 S' e
  have : fr = 0 := by rw [e, (relA_flds _ _).2.2.1] at h4; omega
  rw [this]
  exact h7
end Go.Proofs.Ytjbkckcjmmmooaa.Sx
end
section
/- Small facts on states. -/
namespace Go.Proofs.Ytjbkckcjmmmooaa.Sx
open Go

theorem rdS_zero (S : Arn) : rdS S 0 = S := by simp [rdS]
theorem rdS_rdS (S : Arn) (a b : Nat) : rdS (rdS S a) b = rdS S (a + b) := by simp [rdS]; omega
theorem rep_rd {S : Arn} {t : Tr} {i : Int} (h : Rep S t i) (n : Nat) : Rep (rdS S n) t i := Rep.same (S := S) (S' := rdS S n) (fun _ => rfl) (fun _ => rfl) h
theorem inU_of {S : Arn} {hs : List Int} (h : Wf S hs) {i : Int} (hi : live S i) : inU i := by
  have h2 := h.n2
  rcases hi with rfl | hi
  · exact ⟨by decide, by decide⟩
  · have := h.pos hi; exact ⟨by omega, by omega⟩
theorem us_toNat {S : Arn} {hs : List Int} (hw : Wf S hs) {t : Tr} {i : Int} (hr : Rep S t i) : (S.us i).toNat = ne0 t := by
  cases t with
  | nil => have e : i = 0 := hr; rw [e, hw.us0 (Int.le_refl 0)]; rfl
  | node l k v r => rw [hr.1]; rfl
end Go.Proofs.Ytjbkckcjmmmooaa.Sx
end
section
/- What joining trees costs, and that one rotation is enough. No program in sight. -/
namespace Go.Proofs.Ytjbkckcjmmmooaa
open Go

/-! ### The greatest height of a weight -/
/-- The greatest h whose least weight is at most w. -/
def gN (w : Nat) : Nat := (Hn ((w : Int) - 1)).toNat
theorem hnC_spec : ∀ (l : List Int) (h k : Int) (i : Nat), (i : Int) < hnC l h k - h → l.getD i 0 - 1 ≤ k
  | [], h, k, i, hi => by simp [hnC] at hi; omega
  | w :: l, h, k, i, hi => by
    unfold hnC at hi
    split at hi
    · rename_i c
      cases i with
      | zero => simpa using c
      | succ i => have := hnC_spec l (h + 1) k i (by omega); simpa using this
    · omega
theorem wtsL_drop (i : Nat) : (wtsL.drop 1).getD i 0 = wt (i + 1) := by simp [wt, List.getD_eq_getElem?_getD]
theorem gN_rng (w : Nat) : gN w ≤ 80 := by have := Hn_rng ((w : Int) - 1); unfold gN; omega
theorem gN_Hn (w : Nat) : (gN w : Int) = Hn ((w : Int) - 1) := by have := Hn_rng ((w : Int) - 1); unfold gN; omega
theorem gN_size (n : Nat) : (gN (n + 1) : Int) = Hn n := by rw [gN_Hn]; congr 1; omega
theorem gN_wt {w : Nat} (hw : 1 ≤ w) : wt (gN w) ≤ w := by
  have h0 := Hn_rng ((w : Int) - 1)
  have e := gN_Hn w
  cases h : gN w with
  | zero => have : wt 0 = 1 := rfl
            rw [this]; omega
  | succ g =>
    have := hnC_spec (wtsL.drop 1) 0 ((w : Int) - 1) g (by unfold Hn at e; omega)
    rw [wtsL_drop] at this
    omega
theorem wt_mono1 : ∀ h < 80, wt h < wt (h + 1) := by decide
theorem wt_mono : ∀ {i j : Nat}, i ≤ j → j ≤ 80 → wt i ≤ wt j := by
  intro i j h
  induction h with
  | refl => intro _; exact Int.le_refl _
  | @step m h ih => intro hj; have := ih (by omega); have := wt_mono1 m (by omega); show wt i ≤ wt (m + 1); omega
theorem gN_le {w h : Nat} (h8 : h ≤ 80) (hw : wt h ≤ w) : h ≤ gN w := by
  have hl : (wtsL.drop 1).length = 80 := rfl
  have := hnC_ge (wtsL.drop 1) 0 ((w : Int) - 1) h (by omega) (fun i hi => by
    rw [wtsL_drop]
    have := wt_mono (show i + 1 ≤ h by omega) h8
    omega)
  have e := gN_Hn w
  unfold Hn at e
  omega
theorem gN_mono {v w : Nat} (hv : 1 ≤ v) (h : v ≤ w) : gN v ≤ gN w := gN_le (gN_rng v) (by have := gN_wt hv; omega)
theorem gN_small {w : Nat} (hw : 1 ≤ w) (h : w ≤ 1000000) : gN w ≤ 60 := by
  by_cases c : gN w ≤ 60
  · exact c
  · have h1 := gN_wt hw
    have h2 := wt_mono (show 61 ≤ gN w by omega) (gN_rng w)
    have : wt 61 = 86810659 := rfl
    omega
theorem gN_step {m w : Nat} (hm : 1 ≤ m) (h : 4 * m ≤ 3 * w) (hw : w ≤ 1000000) : gN m + 1 ≤ gN w := by
  have h1 := gN_small hm (by omega)
  have h2 := gN_wt hm
  have h3 := wt_step (gN m) (by omega)
  exact gN_le (by omega) (by omega)
theorem wt_step4 : ∀ h < 77, 4 ≤ h → wt (h + 4) ≤ 4 * wt h - 2 := by decide
theorem gN_step4 {r w : Nat} (hr : 5 ≤ r) (h : 4 * r ≤ w + 2) (hw : w ≤ 1000000) : gN r + 4 ≤ gN w := by
  have h1 := gN_small (w := r) (by omega) (by omega)
  have h2 := gN_wt (w := r) (by omega)
  have h3 : 3 ≤ gN r := gN_le (by decide) (by have : wt 3 = 4 := rfl
                                              omega)
  by_cases c : gN r = 3
  · rw [c]; exact gN_le (by decide) (by have : wt (3 + 4) = 15 := rfl
                                        omega)
  · have := wt_step4 (gN r) (by omega) (by omega)
    exact gN_le (by omega) (by omega)

/-! ### How often a join goes down -/
def dsc (w v : Nat) : Nat := if h : w ≤ 3 * v then 0 else 1 + dsc (3 * w / 4) v
termination_by w
decreasing_by omega
theorem dsc_zero {w v : Nat} (h : w ≤ 3 * v) : dsc w v = 0 := by rw [dsc, dif_pos h]
theorem dsc_succ {w v : Nat} (h : ¬ w ≤ 3 * v) : dsc w v = 1 + dsc (3 * w / 4) v := by rw [dsc, dif_neg h]
theorem dsc_mono (v : Nat) : ∀ (n w w' : Nat), w' < n → w ≤ w' → dsc w v ≤ dsc w' v := by
  intro n
  induction n with
  | zero => intro w w' h; omega
  | succ n ih =>
    intro w w' hn h
    by_cases c : w ≤ 3 * v
    · rw [dsc_zero c]; exact Nat.zero_le _
    · rw [dsc_succ c, dsc_succ (show ¬ w' ≤ 3 * v by omega)]
      have := ih (3 * w / 4) (3 * w' / 4) (by omega) (by omega)
      omega
theorem dsc_g {v : Nat} (hv : 1 ≤ v) : ∀ (n w : Nat), w < n → v ≤ w → w ≤ 1000000 → gN v + dsc w v ≤ gN w := by
  intro n
  induction n with
  | zero => intro w h; omega
  | succ n ih =>
    intro w hn h hw
    by_cases c : w ≤ 3 * v
    · rw [dsc_zero c]; exact gN_mono hv h
    · rw [dsc_succ c]
      have h1 := ih (3 * w / 4) (by omega) (by omega) (by omega)
      have h2 := gN_step (m := 3 * w / 4) (w := w) (by omega) (by omega) hw
      omega
theorem dsc_le {w v : Nat} (hv : 1 ≤ v) (hw : w ≤ 1000000) : dsc w v ≤ gN w := by
  by_cases c : v ≤ w
  · have := dsc_g hv (w + 1) w (by omega) c hw; omega
  · rw [dsc_zero (by omega)]; exact Nat.zero_le _
theorem dsc_one {w v : Nat} (h : w ≤ 3 * v + 3) (hv : 2 ≤ v) : dsc w v ≤ 1 := by
  by_cases c : w ≤ 3 * v
  · rw [dsc_zero c]; omega
  · rw [dsc_succ c, dsc_zero (by omega)]; omega
theorem dsc_two {w : Nat} (h : w ≤ 6) : dsc w 1 ≤ 2 := by
  by_cases c : w ≤ 3
  · rw [dsc_zero (by omega)]; omega
  · rw [dsc_succ (by omega)]
    by_cases d : 3 * w / 4 ≤ 3
    · rw [dsc_zero (by omega)]; omega
    · rw [dsc_succ (by omega), dsc_zero (by omega)]; omega
theorem dsc_tiny {w : Nat} (h : w ≤ 5) : dsc w 1 ≤ 1 := by
  by_cases c : w ≤ 3
  · rw [dsc_zero (by omega)]; omega
  · rw [dsc_succ (by omega), dsc_zero (by omega)]; omega
/-- What a join of trees of these sizes may need. -/
def jB (a b : Nat) : Nat := 1 + 3 * (dsc (a + 1) (b + 1) + dsc (b + 1) (a + 1))
theorem jB_pos (a b : Nat) : 1 ≤ jB a b := by unfold jB; omega
theorem jB_comm (a b : Nat) : jB a b = jB b a := by unfold jB; omega
theorem jB_bal {a b : Nat} (h : balN a b) : jB a b = 1 := by
  unfold balN at h
  unfold jB
  rw [dsc_zero (by omega), dsc_zero (by omega)]
theorem jB_down {s m r : Nat} (h : balN s m) (hb : ¬ balN ((s + m + 1 : Nat) : Int) r) (hg : r < s + m + 1) : jB m r + 3 ≤ jB (s + m + 1) r := by
  unfold balN at h hb
  unfold jB
  rw [dsc_zero (w := r + 1) (by omega), dsc_zero (w := r + 1) (by omega), dsc_succ (w := s + m + 1 + 1) (by omega)]
  have := dsc_mono (r + 1) (3 * (s + m + 1 + 1) / 4 + 1) (m + 1) (3 * (s + m + 1 + 1) / 4) (by omega) (by omega)
  omega
theorem jB_g {a b : Nat} (h : a + b ≤ 900000) : jB a b ≤ 1 + 3 * gN (a + b + 1) := by
  unfold jB
  rcases Nat.le_total a b with c | c
  · rw [dsc_zero (w := a + 1) (by omega)]
    have h1 := dsc_le (w := b + 1) (v := a + 1) (by omega) (by omega)
    have h2 := gN_mono (v := b + 1) (w := a + b + 1) (by omega) (by omega)
    omega
  · rw [dsc_zero (w := b + 1) (by omega)]
    have h1 := dsc_le (w := a + 1) (v := b + 1) (by omega) (by omega)
    have h2 := gN_mono (v := a + 1) (w := a + b + 1) (by omega) (by omega)
    omega
/-- Joining where one side is heavier pays by the growth of the result's height. -/
theorem jB_grow {a b : Nat} (_ : b + 1 ≤ 3 * (a + 1) ∨ a ≤ b) (h : a + b ≤ 900000) (hba : a + 1 ≤ 3 * (b + 1)) : jB a b + 3 * gN (a + 1) ≤ 1 + 3 * gN (a + b + 2) := by
  unfold jB
  rw [dsc_zero (w := a + 1) (by omega)]
  by_cases c : b + 1 ≤ 3 * (a + 1)
  · rw [dsc_zero c]
    have := gN_mono (v := a + 1) (w := a + b + 2) (by omega) (by omega)
    omega
  · have h1 := dsc_g (v := a + 1) (by omega) (b + 2) (b + 1) (by omega) (by omega) (by omega)
    have h2 := gN_mono (v := b + 1) (w := a + b + 2) (by omega) (by omega)
    omega

/-! ### Rotations -/
def near (a b : Nat) : Prop := 3 * (b + 1) ≤ 13 * (a + 1) ∧ 3 * (a + 1) ≤ 13 * (b + 1)
theorem join_near {s m r : Nat} (h : balN s m) (hb : ¬ balN ((s + m + 1 : Nat) : Int) r) (hg : r < s + m + 1) : near s (m + r + 1) := by
  unfold balN at h hb
  unfold near
  omega
theorem rot_nil {a s : Nat} (hn : near a (0 + s + 1)) (h1 : balN (0 : Nat) s) (_ : ¬ balN a ((0 + s + 1 : Nat) : Int)) (hlt : a < 0 + s + 1) : balN a (0 : Nat) ∧ balN ((a + 0 + 1 : Nat) : Int) s := by
  unfold balN at *
  unfold near at hn
  omega
theorem rot_two {a s x y : Nat} (hn : near a (x + y + 1 + s + 1)) (h1 : balN ((x + y + 1 : Nat) : Int) s) (h2 : balN x y) (hb : ¬ balN a ((x + y + 1 + s + 1 : Nat) : Int)) (hlt : a < x + y + 1 + s + 1)
    (hc : ¬ (balN a ((x + y + 1 : Nat) : Int) ∧ balN ((a + (x + y + 1) + 1 : Nat) : Int) s)) : balN a x ∧ balN y s ∧ balN ((a + x + 1 : Nat) : Int) ((y + s + 1 : Nat) : Int) := by
  unfold balN at *
  unfold near at hn
  omega
theorem near_comm {a b : Nat} (h : near a b) : near b a := ⟨h.2, h.1⟩
theorem balN_comm {a b : Int} (h : balN a b) : balN b a := ⟨h.2, h.1⟩
theorem rot_near {s m r : Nat} (h : balN s m) (hb : ¬ balN ((s + m + 1 : Nat) : Int) r) (hg : r < s + m + 1) : near s (m + r + 1) := join_near h hb hg

/-! ### States between -/
variable {S S' S1 S2 : Arn} {hs h1 h2 hs1 hs2 : List Int}
structure Got (S : Arn) (hs : List Int) (mk rd : Nat) (S' : Arn) (hs' : List Int) : Prop where
  wf : Wf S' hs'
  stay : Stay S S' hs
  len : S'.used.length = S.used.length
  nu : S'.nu ≤ S.nu + mk
  rd0 : S.reads ≤ S'.reads
  rd : S'.reads ≤ S.reads + rd
theorem Got.free {m r : Nat} (h : Got S hs m r S' hs1) (w : Wf S hs2) : S.free ≤ S'.free + m := by
  have a := w.free_nonneg.2.2.2
  have b := h.wf.free_nonneg.2.2.2
  have c : S'.cap = S.cap := by unfold Arn.cap; rw [h.len]
  have := h.nu
  omega
theorem Got.seq {h : List Int} {m1 r1 m2 r2 : Nat} (a : Got S h1 m1 r1 S1 hs1) (b : Got S1 h2 m2 r2 S2 hs2) (e1 : ∀ i ∈ h, i ∈ h1) (e2 : ∀ i ∈ h, i ∈ h2) : Got S h (m1 + m2) (r1 + r2) S2 hs2 where
  wf := b.wf
  stay := (a.stay.mono e1).trans (b.stay.mono e2)
  len := b.len.trans a.len
  nu := by have := a.nu; have := b.nu; omega
  rd0 := Int.le_trans a.rd0 b.rd0
  rd := by have := a.rd; have := b.rd; omega
theorem Got.mono {m r m' r' : Nat} (a : Got S hs m r S' hs1) (h1 : m ≤ m') (h2 : r ≤ r') : Got S hs m' r' S' hs1 where
  wf := a.wf
  stay := a.stay
  len := a.len
  nu := by have := a.nu; omega
  rd0 := a.rd0
  rd := by have := a.rd; omega
theorem Got.perm {m r : Nat} (a : Got S hs m r S' hs1) (p : hs1.Perm hs2) : Got S hs m r S' hs2 := ⟨a.wf.perm p, a.stay, a.len, a.nu, a.rd0, a.rd⟩
theorem Got.rds (w : Wf S hs1) {n : Nat} (hn : S.reads + n ≤ 4000000000000000000) : Got S hs 0 n (rdS S n) hs1 where
  wf := w.rd hn
  stay := stay_rd S n hs
  len := rfl
  nu := Nat.le_refl _
  rd0 := by show S.reads ≤ S.reads + n; omega
  rd := Int.le_refl _
theorem Got.refl (w : Wf S hs1) : Got S hs 0 0 S hs1 := ⟨w, Stay.refl _ _, rfl, Nat.le_refl _, Int.le_refl _, by omega⟩
theorem Got.node {k v : Int} {tl tr : Tr} {i : Int} (n : NodeR S hs k v tl tr S' i) : Got S hs 1 0 S' (i :: hs) := ⟨n.wf, n.stay, n.len, by rw [n.nu]; exact Nat.le_refl _, by rw [n.rds]; exact Int.le_refl _, by rw [n.rds]; omega⟩
/-- A balanced tree with these entries is made, and held. -/
structure TrR (S : Arn) (hs : List Int) (L : List Ent) (mk rd : Nat) (S' : Arn) (i : Int) : Prop where
  got : Got S hs mk rd S' (i :: hs)
  tree : ∃ t, Rep S' t i ∧ t.list = L ∧ t.Bal
theorem TrR.mono {L : List Ent} {m r m' r' : Nat} {i : Int} (a : TrR S hs L m r S' i) (h1 : m ≤ m') (h2 : r ≤ r') : TrR S hs L m' r' S' i := ⟨a.got.mono h1 h2, a.tree⟩
end Go.Proofs.Ytjbkckcjmmmooaa
end
section
/- Taking a node apart, holding and giving back a tree. No program in sight. -/
namespace Go.Proofs.Ytjbkckcjmmmooaa
open Go

variable {S S' S1 S2 : Arn} {hs h1 h2 hs1 hs2 : List Int}

theorem countP_le : ∀ (l m : List Bool), l.length = m.length → (∀ i : Nat, m.getD i false = true → l.getD i false = true) → m.countP id ≤ l.countP id
  | [], [], _, _ => Nat.le_refl _
  | [], _ :: _, h, _ => by simp at h
  | _ :: _, [], h, _ => by simp at h
  | a :: l, b :: m, h, hi => by
    have h0 := hi 0
    have ih := countP_le l m (by simpa using h) (fun i => by simpa using hi (i + 1))
    simp at h0
    rw [List.countP_cons, List.countP_cons]
    cases a <;> cases b <;> simp_all <;> omega
theorem Kept.nu_le (k : Kept S S') : S'.nu ≤ S.nu := by
  unfold Arn.nu
  refine countP_le _ _ k.len.symm fun i hi => ?_
  have := (k.kp (i : Int) (by unfold Arn.us; simpa using hi)).1
  unfold Arn.us at this
  simpa using this
/-- One more reference to a tree that may be empty. -/
def retL (S : Arn) (i : Int) : Arn := if i = 0 then S else retA S i
theorem retL_flds (S : Arn) (i : Int) : (retL S i).reads = S.reads ∧ (retL S i).used = S.used ∧ (∀ j, (retL S i).us j = S.us j) ∧ (∀ j, (retL S i).nd j = S.nd j) ∧ (∀ j, (retL S i).gn j = S.gn j) := by
  unfold retL; split <;> exact ⟨rfl, rfl, fun _ => rfl, fun _ => rfl, fun _ => rfl⟩
theorem retL_wf (w : Wf S hs) {i : Int} (hi : i = 0 ∨ S.us i = true) (hl : hs.length ≤ 999999990) : Wf (retL S i) (i :: hs) := by
  unfold retL
  split
  · rename_i e; subst e; exact w.zero_cons (by omega)
  · rename_i e; exact w.ret (hi.resolve_left e) (by omega)
theorem retL_got (w : Wf S hs1) {i : Int} (hi : i = 0 ∨ S.us i = true) (hl : hs1.length ≤ 999999990) : Got S hs 0 0 (retL S i) (i :: hs1) := by
  obtain ⟨a, b, c, d, e⟩ := retL_flds S i
  exact ⟨retL_wf w hi hl, stay_same c d e hs, by rw [b], by unfold Arn.nu; rw [b]; exact Nat.le_refl _, by rw [a]; exact Int.le_refl _, by rw [a]; omega⟩
theorem Rep.retL {t : Tr} {i j : Int} (h : Rep S t i) : Rep (retL S j) t i := Rep.same (retL_flds S j).2.2.1 (retL_flds S j).2.2.2.1 h
/-- A tree is given back. -/
theorem rel_got {i : Int} (w : Wf S (i :: hs1)) (w' : Wf S' hs1) (k : Kept S S') : Got S hs1 0 0 S' hs1 := ⟨w', k.stay w w', k.len, k.nu_le, by rw [k.rds]; exact Int.le_refl _, by rw [k.rds]; omega⟩
/-- A node is taken apart. -/
structure OpnR (S : Arn) (hs : List Int) (a : Tr) (k v : Int) (b : Tr) (S' : Arn) (l r : Int) : Prop where
  got : Got S hs 0 1 S' (l :: r :: hs)
  repl : Rep S' a l
  repr : Rep S' b r
theorem opn_wf {i : Int} {a b : Tr} {k v : Int} (w : Wf S (i :: hs)) (hr : Rep S (.node a k v b) i) (hl : hs.length ≤ 900000000) (hrd : S.reads + 1 ≤ 4000000000000000000) :
    Wf (rdS S 1) (i :: hs) ∧ Wf (retL (rdS S 1) (S.nd i).left) ((S.nd i).left :: i :: hs) ∧ Wf (retL (retL (rdS S 1) (S.nd i).left) (S.nd i).right) (i :: (S.nd i).left :: (S.nd i).right :: hs) := by
  have w1 : Wf (rdS S 1) (i :: hs) := w.rd (by omega)
  have hk := w.kid i hr.1
  have w2 := retL_wf w1 (i := (S.nd i).left) hk.1 (by simp; omega)
  have w3 := retL_wf w2 (i := (S.nd i).right) (by rw [(retL_flds _ _).2.2.1]; exact hk.2) (by simp; omega)
  refine ⟨w1, w2, w3.perm ?_⟩
  refine (List.Perm.swap _ _ _).trans ?_
  refine ((List.Perm.swap _ _ _).cons _).trans ?_
  exact List.Perm.swap _ _ _
theorem opn_ok {i : Int} {a b : Tr} {k v : Int} (w : Wf S (i :: hs)) (hr : Rep S (.node a k v b) i) (hl : hs.length ≤ 900000000) (hrd : S.reads + 1 ≤ 4000000000000000000)
    (w' : Wf S' ((S.nd i).left :: (S.nd i).right :: hs)) (kp : Kept (retL (retL (rdS S 1) (S.nd i).left) (S.nd i).right) S') : OpnR S hs a k v b S' (S.nd i).left (S.nd i).right := by
  obtain ⟨w1, w2, w3⟩ := opn_wf w hr hl hrd
  have hk := w.kid i hr.1
  have g1 : Got S hs 0 1 (rdS S 1) (i :: hs) := Got.rds w (by omega)
  have g2 : Got (rdS S 1) hs 0 0 _ _ := retL_got (hs := hs) w1 (i := (S.nd i).left) hk.1 (by simp; omega)
  have g3 : Got (retL (rdS S 1) (S.nd i).left) hs 0 0 _ _ := retL_got (hs := hs) w2 (i := (S.nd i).right) (by rw [(retL_flds _ _).2.2.1]; exact hk.2) (by simp; omega)
  have g4 := rel_got w3 w' kp
  refine ⟨(((g1.seq g2 (h := hs) (fun _ h => h) (fun _ h => h)).seq g3 (fun _ h => h) (fun _ h => h)).seq g4 (fun _ h => h) (fun _ h => by simp [h])), ?_, ?_⟩
  · have h1 : Rep (retL (retL (rdS S 1) (S.nd i).left) (S.nd i).right) a (S.nd i).left := (Rep.same (S := S) (S' := rdS S 1) (fun _ => rfl) (fun _ => rfl) hr.2.2.2.1).retL.retL
    exact h1.held w3 (kp.stay w3 w') (.inr (by simp))
  · have h1 : Rep (retL (retL (rdS S 1) (S.nd i).left) (S.nd i).right) b (S.nd i).right := (Rep.same (S := S) (S' := rdS S 1) (fun _ => rfl) (fun _ => rfl) hr.2.2.2.2).retL.retL
    exact h1.held w3 (kp.stay w3 w') (.inr (by simp))
theorem perm_rot {α : Type} (a b c : α) (l : List α) : (a :: b :: c :: l).Perm (c :: a :: b :: l) := ((List.Perm.swap c b l).cons a).trans (List.Perm.swap c a (b :: l))
theorem perm_tor {α : Type} (a b c : α) (l : List α) : (a :: b :: c :: l).Perm (b :: c :: a :: l) := (perm_rot b c a l).symm
theorem Got.rdn {m r n k : Nat} (a : Got S hs m r S1 hs1) (hn : n ≤ k) (hb : S1.reads + n ≤ 4000000000000000000) : Got S hs m (r + k) (rdS S1 n) hs1 :=
  (a.seq (Got.rds (hs := hs) a.wf hb) (fun _ h => h) (fun _ h => h)).mono (by omega) (by omega)
theorem Rep.rdn {t : Tr} {i : Int} {n : Nat} (h : Rep S t i) : Rep (rdS S n) t i := Rep.same (S := S) (S' := rdS S n) (fun _ => rfl) (fun _ => rfl) h
/-! ### Rotations on the arena -/
section
variable {S0 S3 S4 : Arn} {A M B x y : Tr} {k1 v1 k2 v2 k3 v3 u m w i j q ix iy : Int} {r0 : Nat}
theorem single_okL (g : Got S0 hs 0 r0 S (u :: m :: w :: hs)) (n1 : NodeR S (w :: hs) k1 v1 A M S2 i) (n2 : NodeR S2 hs k2 v2 (.node A k1 v1 M) B S3 j)
    (bA : A.Bal) (bM : M.Bal) (bB : B.Bal) (c1 : balN A.size M.size) (c2 : balN ((A.size + M.size + 1 : Nat) : Int) B.size) : TrR S0 hs (A.list ++ (k1, v1) :: (M.list ++ (k2, v2) :: B.list)) 3 (r0 + 1) S3 j where
  got := ((g.seq (Got.node n1) (h := hs) (fun _ h => h) (fun _ h => by simp [h])).seq (Got.node n2) (fun _ h => h) (fun _ h => h)).mono (by omega) (by omega)
  tree := ⟨_, n2.rep, by simp [Tr.list], by
    refine ⟨?_, ⟨c1, bA, bM⟩, bB⟩
    have e : ((Tr.node A k1 v1 M).size : Int) = ((A.size + M.size + 1 : Nat) : Int) := by simp [Tr.size]; omega
    rw [e]; exact c2⟩
theorem single_okR (g : Got S0 hs 0 r0 S (u :: m :: w :: hs)) (n1 : NodeR S (u :: hs) k2 v2 M B S2 i) (n2 : NodeR S2 hs k1 v1 A (.node M k2 v2 B) S3 j)
    (bA : A.Bal) (bM : M.Bal) (bB : B.Bal) (c1 : balN M.size B.size) (c2 : balN A.size ((M.size + B.size + 1 : Nat) : Int)) : TrR S0 hs (A.list ++ (k1, v1) :: (M.list ++ (k2, v2) :: B.list)) 3 (r0 + 1) S3 j where
  got := ((g.seq (Got.node n1) (h := hs) (fun _ h => h) (fun _ h => by simp [h])).seq (Got.node n2) (fun _ h => h) (fun _ h => h)).mono (by omega) (by omega)
  tree := ⟨_, n2.rep, by simp [Tr.list], by
    refine ⟨?_, bA, ⟨c1, bM, bB⟩⟩
    have e : ((Tr.node M k2 v2 B).size : Int) = ((M.size + B.size + 1 : Nat) : Int) := by simp [Tr.size]; omega
    rw [e]; exact c2⟩
theorem double_ok (g : Got S0 hs 0 r0 S (u :: m :: w :: hs)) (o : OpnR S (u :: w :: hs) x k3 v3 y S1 ix iy) (n1 : NodeR S1 (iy :: w :: hs) k1 v1 A x S2 i) (n2 : NodeR S2 (i :: hs) k2 v2 y B S3 j)
    (n3 : NodeR S3 hs k3 v3 (.node A k1 v1 x) (.node y k2 v2 B) S4 q) (bA : A.Bal) (bx : x.Bal) (bY : y.Bal) (bB : B.Bal) (c1 : balN A.size x.size) (c2 : balN y.size B.size) (c3 : balN ((A.size + x.size + 1 : Nat) : Int) ((y.size + B.size + 1 : Nat) : Int)) :
    TrR S0 hs (A.list ++ (k1, v1) :: (x.list ++ (k3, v3) :: (y.list ++ (k2, v2) :: B.list))) 3 (r0 + 1) S4 q where
  got := ((((g.seq o.got (h := hs) (fun _ h => h) (fun _ h => by simp [h])).seq (Got.node n1) (h := hs) (fun _ h => h) (fun _ h => by simp [h])).seq (Got.node n2) (h := hs) (fun _ h => h) (fun _ h => by simp [h])).seq (Got.node n3) (fun _ h => h) (fun _ h => h)).mono (by omega) (by omega)
  tree := ⟨_, n3.rep, by simp [Tr.list], by
    refine ⟨?_, ⟨c1, bA, bx⟩, ⟨c2, bY, bB⟩⟩
    have e : ((Tr.node A k1 v1 x).size : Int) = ((A.size + x.size + 1 : Nat) : Int) := by simp [Tr.size]; omega
    have e2 : ((Tr.node y k2 v2 B).size : Int) = ((y.size + B.size + 1 : Nat) : Int) := by simp [Tr.size]; omega
    rw [e, e2]; exact c3⟩
end
end Go.Proofs.Ytjbkckcjmmmooaa
end
