/- How high a balanced tree is at most, and how many nodes a listing reads. No program in sight. -/
import Derived.Test.YtacdmmomkngpkaaArF
namespace Go.Proofs.Ytacdmmomkngpkaa
open Go

/-- The least weights of trees of the heights 0 to 80. -/
def wtsL : List Int := [1, 2, 3, 4, 6, 8, 11, 15, 20, 27, 36, 48, 64, 86, 115, 154, 206, 275, 367, 490, 654, 872, 1163, 1551, 2068, 2758, 3678, 4904, 6539, 8719, 11626, 15502, 20670, 27560, 36747, 48996, 65328, 87104, 116139, 154852, 206470, 275294, 367059, 489412, 652550, 870067, 1160090, 1546787, 2062383, 2749844, 3666459, 4888612, 6518150, 8690867, 11587823, 15450431, 20600575, 27467434, 36623246, 48830995, 65107994, 86810659, 115747546, 154330062, 205773416, 274364555, 365819407, 487759210, 650345614, 867127486, 1156169982, 1541559976, 2055413302, 2740551070, 3654068094, 4872090792, 6496121056, 8661494742, 11548659656, 15398212875, 20530950500]
def wt (h : Nat) : Int := wtsL.getD h 0
def hnC : List Int → Int → Int → Int
  | [], h, _ => h
  | w :: l, h, k => if w - 1 ≤ k then hnC l (h + 1) k else h
/-- The greatest height of a tree with k keys. -/
def Hn (k : Int) : Int := hnC (wtsL.drop 1) 0 k
theorem wt_step : ∀ h < 80, wt (h + 1) = wt h + (wt h + 2) / 3 := by decide
theorem hnC_le : ∀ (l : List Int) (h k : Int), h ≤ hnC l h k
  | [], _, _ => Int.le_refl _
  | w :: l, h, k => by
    unfold hnC
    split
    · have := hnC_le l (h + 1) k; omega
    · exact Int.le_refl _
theorem hnC_ge : ∀ (l : List Int) (h k : Int) (m : Nat), m ≤ l.length → (∀ i < m, l.getD i 0 - 1 ≤ k) → h + m ≤ hnC l h k
  | [], h, k, m, hm, _ => by have : m = 0 := by simpa using hm
                             subst this; show h + 0 ≤ h; omega
  | w :: l, h, k, 0, _, _ => by have := hnC_le (w :: l) h k; show h + 0 ≤ _; omega
  | w :: l, h, k, m + 1, hm, hk => by
    have h0 := hk 0 (by omega)
    unfold hnC
    rw [if_pos (by simpa using h0)]
    have := hnC_ge l (h + 1) k m (by simpa using hm) (fun i hi => by have := hk (i + 1) (by omega); simpa using this)
    omega
theorem hnC_up : ∀ (l : List Int) (h k : Int), hnC l h k ≤ h + l.length
  | [], h, k => by show h ≤ h + 0; omega
  | w :: l, h, k => by
    unfold hnC
    have := hnC_up l (h + 1) k
    rw [List.length_cons]
    split <;> omega
theorem Hn_rng (k : Int) : 0 ≤ Hn k ∧ Hn k ≤ 80 := by
  have h1 := hnC_le (wtsL.drop 1) 0 k
  have h2 := hnC_up (wtsL.drop 1) 0 k
  have h3 : (wtsL.drop 1).length = 80 := rfl
  unfold Hn
  omega
def ht : Tr → Nat
  | .nil => 0
  | .node l _ _ r => 1 + (if ht l ≤ ht r then ht r else ht l)
theorem bal_wt : ∀ (t : Tr) (h : Nat), t.Bal → h ≤ 80 → h ≤ ht t → wt h ≤ t.size + 1
  | t, 0, _, _, _ => by have : wt 0 = 1 := rfl
                        rw [this]; omega
  | .nil, h + 1, _, _, hh => by simp [ht] at hh
  | .node l k v r, h + 1, hb, h8, hh => by
    obtain ⟨b0, bl, br⟩ := hb
    unfold balN at b0
    have hs : ((Tr.node l k v r).size : Int) = 1 + l.size + r.size := by simp [Tr.size]
    have st := wt_step h (by omega)
    have hh : h + 1 ≤ 1 + (if ht l ≤ ht r then ht r else ht l) := hh
    by_cases c : ht l ≤ ht r
    · rw [if_pos c] at hh
      have := bal_wt r h br (by omega) (by omega)
      omega
    · rw [if_neg c] at hh
      have := bal_wt l h bl (by omega) (by omega)
      omega
/-- A balanced tree is no higher than its number of keys allows. -/
theorem Bal.height {t : Tr} (hb : t.Bal) (hs : t.size ≤ 1000000) : (ht t : Int) ≤ Hn t.size := by
  have h80 : ht t ≤ 80 := by
    by_cases c : ht t ≤ 80
    · exact c
    · have := bal_wt t 80 hb (Nat.le_refl _) (by omega)
      have e : wt 80 = 20530950500 := rfl
      omega
  have hl : (wtsL.drop 1).length = 80 := rfl
  have := hnC_ge (wtsL.drop 1) 0 t.size (ht t) (by omega) (fun i hi => by
    have e : (wtsL.drop 1).getD i 0 = wt (i + 1) := by simp [wt, List.getD_eq_getElem?_getD, Nat.add_comm]
    have := bal_wt t (i + 1) hb (by omega) (by omega)
    rw [e]; omega)
  unfold Hn
  omega

/-! ### Reads of a listing by keys -/
theorem lk_node {l r : Tr} {k v lo hi : Int} {rm : Nat} (h : rm ≠ 0) : ∃ a b c, a = (if lo < k then lk l lo hi rm else ([], 0)) ∧ b = (if lo ≤ k ∧ k ≤ hi ∧ a.1.length < rm then [(k, v)] else ([] : List Ent)) ∧ c = (if k < hi then lk r lo hi (rm - (a.1.length + b.length)) else ([], 0)) ∧
    (lk (.node l k v r) lo hi rm).1.length = a.1.length + b.length + c.1.length ∧ (lk (.node l k v r) lo hi rm).2 = 1 + a.2 + c.2 := by
  refine ⟨_, _, _, rfl, rfl, rfl, ?_, ?_⟩
  · rw [lk, if_neg h]; simp only [List.length_append]; omega
  · rw [lk, if_neg h]
theorem lk_zero : ∀ (t : Tr) (lo hi : Int), lk t lo hi 0 = ([], 0)
  | .nil, _, _ => rfl
  | .node _ _ _ _, _, _ => by rw [lk, if_pos rfl]
theorem lk_N : ∀ (t : Tr) (lo hi : Int) (rm : Nat), Asc t.list → (∀ x ∈ t.list, lo < x.1 ∧ x.1 ≤ hi) → (lk t lo hi rm).1.length < rm → (lk t lo hi rm).2 ≤ (lk t lo hi rm).1.length
  | .nil, _, _, _, _, _, _ => Nat.le_refl _
  | .node l k v r, lo, hi, rm, h, hx, hlt => by
    obtain ⟨hl, hr, hlk, hkr⟩ := node_asc h
    have hk := hx (k, v) (by simp [Tr.list])
    obtain ⟨a, b, c, ea, eb, ec, e1, e2⟩ := lk_node (l := l) (r := r) (k := k) (v := v) (lo := lo) (hi := hi) (rm := rm) (by omega)
    rw [e1] at hlt ⊢
    rw [e2]
    rw [if_pos hk.1] at ea
    rw [if_pos ⟨by omega, hk.2, by omega⟩] at eb
    have hb : b.length = 1 := by rw [eb]; rfl
    have ha := lk_N l lo hi rm hl (fun x hm => hx x (by simp [Tr.list, hm])) (by rw [← ea]; omega)
    rw [← ea] at ha
    have hc : c.2 ≤ c.1.length := by
      by_cases d : k < hi
      · rw [if_pos d] at ec
        have := lk_N r lo hi (rm - (a.1.length + b.length)) hr (fun x hm => hx x (by simp [Tr.list, hm])) (by rw [← ec]; omega)
        rw [← ec] at this; exact this
      · rw [if_neg d] at ec; rw [ec]; exact Nat.le_refl _
    omega
theorem ht_l (l r : Tr) (k v : Int) : 1 + ht l ≤ ht (.node l k v r) := by rw [ht]; split <;> omega
theorem ht_r (l r : Tr) (k v : Int) : 1 + ht r ≤ ht (.node l k v r) := by rw [ht]; split <;> omega
theorem lk_L : ∀ (t : Tr) (lo hi : Int) (rm : Nat), Asc t.list → (∀ x ∈ t.list, x.1 ≤ hi) → (lk t lo hi rm).1.length < rm → (lk t lo hi rm).2 ≤ ht t + (lk t lo hi rm).1.length
  | .nil, _, _, _, _, _, _ => by simp [lk]
  | .node l k v r, lo, hi, rm, h, hx, hlt => by
    obtain ⟨hl, hr, hlk, hkr⟩ := node_asc h
    have hk : k ≤ hi := hx (k, v) (by simp [Tr.list])
    have q1 := ht_l l r k v
    have q2 := ht_r l r k v
    obtain ⟨a, b, c, ea, eb, ec, e1, e2⟩ := lk_node (l := l) (r := r) (k := k) (v := v) (lo := lo) (hi := hi) (rm := rm) (by omega)
    rw [e1] at hlt ⊢
    rw [e2]
    by_cases d0 : lo < k
    · rw [if_pos d0] at ea
      rw [if_pos ⟨by omega, hk, by omega⟩] at eb
      have hb : b.length = 1 := by rw [eb]; rfl
      have ha := lk_L l lo hi rm hl (fun x hm => hx x (by simp [Tr.list, hm])) (by rw [← ea]; omega)
      rw [← ea] at ha
      have hc : c.2 ≤ c.1.length := by
        by_cases d : k < hi
        · rw [if_pos d] at ec
          have := lk_N r lo hi (rm - (a.1.length + b.length)) hr (fun x hm => ⟨by have := hkr x hm; omega, hx x (by simp [Tr.list, hm])⟩) (by rw [← ec]; omega)
          rw [← ec] at this; exact this
        · rw [if_neg d] at ec; rw [ec]; exact Nat.le_refl _
      omega
    · rw [if_neg d0] at ea
      have a1 : a.1.length = 0 := by rw [ea]; rfl
      have a2 : a.2 = 0 := by rw [ea]
      have hc : c.2 ≤ ht r + c.1.length := by
        by_cases d : k < hi
        · rw [if_pos d] at ec
          have := lk_L r lo hi (rm - (a.1.length + b.length)) hr (fun x hm => hx x (by simp [Tr.list, hm])) (by rw [← ec]; omega)
          rw [← ec] at this; exact this
        · rw [if_neg d] at ec; rw [ec]; simp
      omega
theorem lk_M : ∀ (t : Tr) (lo hi : Int) (rm : Nat), Asc t.list → (∀ x ∈ t.list, lo < x.1) → (lk t lo hi rm).2 ≤ ht t + (lk t lo hi rm).1.length
  | .nil, _, _, _, _, _ => by simp [lk]
  | .node l k v r, lo, hi, rm, h, hx => by
    by_cases h0 : rm = 0
    · rw [h0, lk_zero]; simp
    obtain ⟨hl, hr, hlk, hkr⟩ := node_asc h
    have hk : lo < k := hx (k, v) (by simp [Tr.list])
    have q1 := ht_l l r k v
    have q2 := ht_r l r k v
    obtain ⟨a, b, c, ea, eb, ec, e1, e2⟩ := lk_node (l := l) (r := r) (k := k) (v := v) (lo := lo) (hi := hi) (rm := rm) h0
    rw [e1, e2]
    rw [if_pos hk] at ea
    have ha := lk_M l lo hi rm hl (fun x hm => hx x (by simp [Tr.list, hm]))
    rw [← ea] at ha
    by_cases d1 : a.1.length < rm
    · by_cases d2 : k ≤ hi
      · rw [if_pos ⟨by omega, d2, d1⟩] at eb
        have hb : b.length = 1 := by rw [eb]; rfl
        have ha := lk_N l lo hi rm hl (fun x hm => ⟨hx x (by simp [Tr.list, hm]), by have := hlk x hm; omega⟩) (by rw [← ea]; omega)
        rw [← ea] at ha
        have hc : c.2 ≤ ht r + c.1.length := by
          by_cases d : k < hi
          · rw [if_pos d] at ec
            have := lk_M r lo hi (rm - (a.1.length + b.length)) hr (fun x hm => hx x (by simp [Tr.list, hm]))
            rw [← ec] at this; exact this
          · rw [if_neg d] at ec; rw [ec]; simp
        omega
      · rw [if_neg (by omega)] at ec
        have : c.2 = 0 := by rw [ec]
        omega
    · have hm : rm - (a.1.length + b.length) = 0 := by omega
      have : c.2 = 0 := by
        rw [ec, hm]
        split
        · rw [lk_zero]
        · rfl
      omega
/-- A listing by keys reads what it gives, and two paths. -/
theorem lk_reads : ∀ (t : Tr) (lo hi : Int) (rm : Nat), Asc t.list → (lk t lo hi rm).2 ≤ 2 * ht t + (lk t lo hi rm).1.length
  | .nil, _, _, _, _ => by simp [lk]
  | .node l k v r, lo, hi, rm, h => by
    by_cases h0 : rm = 0
    · rw [h0, lk_zero]; simp
    obtain ⟨hl, hr, hlk, hkr⟩ := node_asc h
    have q1 := ht_l l r k v
    have q2 := ht_r l r k v
    obtain ⟨a, b, c, ea, eb, ec, e1, e2⟩ := lk_node (l := l) (r := r) (k := k) (v := v) (lo := lo) (hi := hi) (rm := rm) h0
    rw [e1, e2]
    by_cases d0 : lo < k
    · rw [if_pos d0] at ea
      have ha := lk_reads l lo hi rm hl
      rw [← ea] at ha
      by_cases d1 : a.1.length < rm
      · by_cases d2 : k ≤ hi
        · rw [if_pos ⟨by omega, d2, d1⟩] at eb
          have hb : b.length = 1 := by rw [eb]; rfl
          have ha := lk_L l lo hi rm hl (fun x hm => by have := hlk x hm; omega) (by rw [← ea]; omega)
          rw [← ea] at ha
          have hc : c.2 ≤ ht r + c.1.length := by
            by_cases d : k < hi
            · rw [if_pos d] at ec
              have := lk_M r lo hi (rm - (a.1.length + b.length)) hr (fun x hm => by have := hkr x hm; omega)
              rw [← ec] at this; exact this
            · rw [if_neg d] at ec; rw [ec]; simp
          omega
        · rw [if_neg (by omega)] at ec
          have : c.2 = 0 := by rw [ec]
          omega
      · have hm : rm - (a.1.length + b.length) = 0 := by omega
        have : c.2 = 0 := by
          rw [ec, hm]
          split
          · rw [lk_zero]
          · rfl
        omega
    · rw [if_neg d0] at ea
      have a1 : a.1.length = 0 := by rw [ea]; rfl
      have a2 : a.2 = 0 := by rw [ea]
      have hc : c.2 ≤ 2 * ht r + c.1.length := by
        by_cases d : k < hi
        · rw [if_pos d] at ec
          have := lk_reads r lo hi (rm - (a.1.length + b.length)) hr
          rw [← ec] at this; exact this
        · rw [if_neg d] at ec; rw [ec]; simp
      omega

/-! ### Reads of a listing by places -/
theorem pl_node {l r : Tr} {k v x y : Int} (h : ¬ y ≤ x) : ∃ a b c, a = (if x < (l.size : Int) then pl l x (if (l.size : Int) < y then (l.size : Int) else y) else ([], 0)) ∧ b = (if x ≤ (l.size : Int) ∧ (l.size : Int) < y then [(k, v)] else ([] : List Ent)) ∧
    c = (if (l.size : Int) + 1 < y then pl r (if 0 < x - l.size - 1 then x - l.size - 1 else 0) (y - l.size - 1) else ([], 0)) ∧ (pl (.node l k v r) x y).1.length = a.1.length + b.length + c.1.length ∧ (pl (.node l k v r) x y).2 ≤ 2 + a.2 + c.2 := by
  refine ⟨_, _, _, rfl, rfl, rfl, ?_, ?_⟩
  · rw [pl, if_neg h]; simp only [List.length_append]; omega
  · rw [pl, if_neg h]
    have : ne0 l ≤ 1 := by cases l <;> simp [ne0]
    simp only []
    omega
theorem pl_none {t : Tr} {x y : Int} (h : y ≤ x) : pl t x y = ([], 0) := by
  cases t with
  | nil => rfl
  | node l k v r => rw [pl, if_pos h]
theorem pl_N : ∀ (t : Tr) (x y : Int), x ≤ 0 → (t.size : Int) ≤ y → (pl t x y).2 ≤ 2 * (pl t x y).1.length
  | .nil, _, _, _, _ => by simp [pl]
  | .node l k v r, x, y, hx, hy => by
    have hs : ((Tr.node l k v r).size : Int) = 1 + l.size + r.size := by simp [Tr.size]
    obtain ⟨a, b, c, ea, eb, ec, e1, e2⟩ := pl_node (l := l) (r := r) (k := k) (v := v) (x := x) (y := y) (by omega)
    rw [e1]
    rw [if_pos ⟨by omega, by omega⟩] at eb
    have hb : b.length = 1 := by rw [eb]; rfl
    have ha : a.2 ≤ 2 * a.1.length := by
      by_cases d : x < (l.size : Int)
      · rw [if_pos d, if_pos (by omega)] at ea
        rw [ea]; exact pl_N l x l.size hx (Int.le_refl _)
      · rw [if_neg d] at ea; rw [ea]; simp
    have hc : c.2 ≤ 2 * c.1.length := by
      by_cases d : (l.size : Int) + 1 < y
      · rw [if_pos d, if_neg (by omega)] at ec
        rw [ec]; exact pl_N r 0 _ (Int.le_refl _) (by omega)
      · rw [if_neg d] at ec; rw [ec]; simp
    omega
theorem pl_L : ∀ (t : Tr) (x y : Int), (t.size : Int) ≤ y → (pl t x y).2 ≤ 2 * ht t + 2 * (pl t x y).1.length
  | .nil, _, _, _ => by simp [pl]
  | .node l k v r, x, y, hy => by
    by_cases h0 : y ≤ x
    · rw [pl_none h0]; simp
    have hs : ((Tr.node l k v r).size : Int) = 1 + l.size + r.size := by simp [Tr.size]
    have q1 := ht_l l r k v
    have q2 := ht_r l r k v
    obtain ⟨a, b, c, ea, eb, ec, e1, e2⟩ := pl_node (l := l) (r := r) (k := k) (v := v) (x := x) (y := y) h0
    rw [e1]
    by_cases d : x < (l.size : Int)
    · rw [if_pos d, if_pos (by omega)] at ea
      rw [if_pos ⟨by omega, by omega⟩] at eb
      have hb : b.length = 1 := by rw [eb]; rfl
      have ha := pl_L l x l.size (Int.le_refl _)
      rw [← ea] at ha
      have hc : c.2 ≤ 2 * c.1.length := by
        by_cases e : (l.size : Int) + 1 < y
        · rw [if_pos e, if_neg (by omega)] at ec
          rw [ec]; exact pl_N r 0 _ (Int.le_refl _) (by omega)
        · rw [if_neg e] at ec; rw [ec]; simp
      omega
    · rw [if_neg d] at ea
      have a2 : a.2 = 0 := by rw [ea]
      have hc : c.2 ≤ 2 * ht r + 2 * c.1.length := by
        by_cases e : (l.size : Int) + 1 < y
        · rw [if_pos e] at ec
          rw [ec]; exact pl_L r _ _ (by omega)
        · rw [if_neg e] at ec; rw [ec]; simp
      omega
theorem pl_M : ∀ (t : Tr) (x y : Int), x ≤ 0 → (pl t x y).2 ≤ 2 * ht t + 2 * (pl t x y).1.length
  | .nil, _, _, _ => by simp [pl]
  | .node l k v r, x, y, hx => by
    by_cases h0 : y ≤ x
    · rw [pl_none h0]; simp
    have q1 := ht_l l r k v
    have q2 := ht_r l r k v
    obtain ⟨a, b, c, ea, eb, ec, e1, e2⟩ := pl_node (l := l) (r := r) (k := k) (v := v) (x := x) (y := y) h0
    rw [e1]
    by_cases f : (l.size : Int) < y
    · rw [if_pos ⟨by omega, f⟩] at eb
      have hb : b.length = 1 := by rw [eb]; rfl
      have ha : a.2 ≤ 2 * a.1.length := by
        by_cases d : x < (l.size : Int)
        · rw [if_pos d, if_pos f] at ea
          rw [ea]; exact pl_N l x l.size hx (Int.le_refl _)
        · rw [if_neg d] at ea; rw [ea]; simp
      have hc : c.2 ≤ 2 * ht r + 2 * c.1.length := by
        by_cases e : (l.size : Int) + 1 < y
        · rw [if_pos e, if_neg (by omega)] at ec
          rw [ec]; exact pl_M r 0 _ (Int.le_refl _)
        · rw [if_neg e] at ec; rw [ec]; simp
      omega
    · rw [if_neg (by omega)] at ec
      have c2 : c.2 = 0 := by rw [ec]
      have ha : a.2 ≤ 2 * ht l + 2 * a.1.length := by
        by_cases d : x < (l.size : Int)
        · rw [if_pos d] at ea
          rw [ea]; exact pl_M l x _ hx
        · rw [if_neg d] at ea; rw [ea]; simp
      omega
theorem pl_reads : ∀ (t : Tr) (x y : Int), (pl t x y).2 ≤ 4 * ht t + 2 * (pl t x y).1.length
  | .nil, _, _ => by simp [pl]
  | .node l k v r, x, y => by
    by_cases h0 : y ≤ x
    · rw [pl_none h0]; simp
    have q1 := ht_l l r k v
    have q2 := ht_r l r k v
    obtain ⟨a, b, c, ea, eb, ec, e1, e2⟩ := pl_node (l := l) (r := r) (k := k) (v := v) (x := x) (y := y) h0
    rw [e1]
    by_cases d : x < (l.size : Int)
    · rw [if_pos d] at ea
      by_cases f : (l.size : Int) < y
      · rw [if_pos f] at ea
        rw [if_pos ⟨by omega, f⟩] at eb
        have hb : b.length = 1 := by rw [eb]; rfl
        have ha := pl_L l x l.size (Int.le_refl _)
        rw [← ea] at ha
        have hc : c.2 ≤ 2 * ht r + 2 * c.1.length := by
          by_cases e : (l.size : Int) + 1 < y
          · rw [if_pos e, if_neg (by omega)] at ec
            rw [ec]; exact pl_M r 0 _ (Int.le_refl _)
          · rw [if_neg e] at ec; rw [ec]; simp
        omega
      · rw [if_neg (by omega)] at ec
        have c2 : c.2 = 0 := by rw [ec]
        have ha := pl_reads l x (if (l.size : Int) < y then (l.size : Int) else y)
        rw [← ea] at ha
        omega
    · rw [if_neg d] at ea
      have a2 : a.2 = 0 := by rw [ea]
      have hc : c.2 ≤ 4 * ht r + 2 * c.1.length := by
        by_cases e : (l.size : Int) + 1 < y
        · rw [if_pos e] at ec
          rw [ec]; exact pl_reads r _ _
        · rw [if_neg e] at ec; rw [ec]; simp
      omega
end Go.Proofs.Ytacdmmomkngpkaa
