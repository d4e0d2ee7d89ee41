/- The cursor's Find, Entry, Rewind and Close; the reference's cursor; a move of both. -/
import Derived.Test.YtacdmmomkngpkaaQCl
import Derived.Test.YtacdmmomkngpkaaQSo
import Derived.Test.YtacdmmomkngpkaaQAm
namespace Go.Proofs.Ytacdmmomkngpkaa.Sx
open Go

/-KEEP Wf exW inU live Arn.cap Arn.free Rep rdS retA Tr.size Tr.list lsT gtT entO betE entR relC rkE Kept-/
/-- The entry at a position; positions begin with 1, and 0 and the one behind the last have none. -/
def entR (W : List Ent) (k : Int) : Option Ent := if k ≤ 0 then none else W[k.toNat - 1]?
def relC (W : List Ent) (c : Cur) (k : Int) : Prop := (k = 0 ∧ c.place = 0) ∨ (0 < k ∧ k ≤ W.length ∧ c.place = 1 ∧ W[k.toNat - 1]? = some (c.ek, c.ev)) ∨ (k = W.length + 1 ∧ c.place = 2)
def rkE (l : List Ent) (key : Int) : Nat := (l.filter fun x => decide (x.1 < key)).length
noncomputable def aRk9 (l : List Ent) (key : Int) : Ann C0 := { Γ := [], inv := fun n => match n with
  | 3 => some { X := XIx l.length, sl := [6, 5], tf := fun x => [vi .i64 x.i, vi .i64 (rkE (l.take x.i) key)], hf := fun _ => [.row false EC.ent l], μ := fun x => l.length - x.i }
  | _ => none }
def tRk9 : Tfm C0 := fun args H K => match args, H with
  | [.at (.slc 0), .at (.val (.int .i64 key))], [.row false .ent l] => l.length ≤ 1000000 ∧ ∀ n, n = (rkE l key : Int) → K (.one (.at (vI n))) [.row false EC.ent l] []
  | _, _ => False
abbrev curR (k : Int) : TV := .agg [.slc 0, vI k, vB false]
def tE24 : Tfm C0 := fun args H K => match args, H with
  | [.agg [.slc 0, .val (.int .i64 k), .val (.bool cl)]], [.row false .ent W] => cl = false ∧ 0 ≤ k ∧ k ≤ W.length + 1 ∧ W.length ≤ 1000000 ∧ ∀ o, o = entR W k → K (.tup [entO o, .at (vI (errE o))]) [.row false EC.ent W] []
  | _, _ => False
noncomputable def aE24 : Ann C0 := { Γ := [(109, frameT [] tE24), (134, frameT [] tRk9), (37, frameT [] tBet)] }
def tN24 : Tfm C0 := fun args H K => match args, H with
  | [.agg [.slc 0, .val (.int .i64 k), .val (.bool cl)]], [.row false .ent W] => cl = false ∧ 0 ≤ k ∧ k ≤ W.length + 1 ∧ W.length ≤ 1000000 ∧ ∀ k' o, k' = (if k ≤ W.length then k + 1 else k) → o = entR W k' → K (.tup [curR k', entO o, .at (vI (errE o))]) [.row false EC.ent W] []
  | _, _ => False
def tP24 : Tfm C0 := fun args H K => match args, H with
  | [.agg [.slc 0, .val (.int .i64 k), .val (.bool cl)]], [.row false .ent W] => cl = false ∧ 0 ≤ k ∧ k ≤ W.length + 1 ∧ W.length ≤ 1000000 ∧ ∀ k' o, k' = (if 0 < k then k - 1 else k) → o = entR W k' → K (.tup [curR k', entO o, .at (vI (errE o))]) [.row false EC.ent W] []
  | _, _ => False
def tF24 : Tfm C0 := fun args H K => match args, H with
  | [.agg [.slc 0, .val (.int .i64 k), .val (.bool cl)], .at (.val (.int .i64 key))], [.row false .ent W] => cl = false ∧ W.length ≤ 1000000 ∧ ∀ k' o, k' = (rkE W key : Int) + 1 → o = entR W k' → K (.tup [curR k', entO o, .at (vI (errE o))]) [.row false EC.ent W] []
  | _, _ => False
def tR24 : Tfm C0 := fun args H K => match args, H with
  | [.agg [.slc 0, .val (.int .i64 k), .val (.bool cl)]], [.row false .ent W] => cl = false ∧ K (.tup [curR 0, .at (vI 0)]) [.row false EC.ent W] []
  | _, _ => False
def tO24 : Tfm C0 := fun args H K => match args, H with
  | [.at (.slc 0), .at (.val (.int .i64 lo)), .at (.val (.int .i64 hi))], [.row false .ent l] => l.length ≤ 1000000 ∧ ∀ W, W = betE l lo hi → K (.one (.agg [.slc 1, vI 0, vB false])) [.row false EC.ent l, .row true EC.ent W] []
  | _, _ => False
def entC (c : Cur) : Option Ent := if c.place = 1 then some (c.ek, c.ev) else none
def tCu_entry : Tfm C0 := fun args H K => match args with
  | [.at (.ptr 0 0)] => cuM H fun c S => (c.closed = true → K (.tup [entO none, .at (vI 6)]) (chC c S) []) ∧ (c.closed = false → ∀ o, o = entC c → K (.tup [entO o, .at (vI (errE o))]) (chC c S) [])
  | _ => False
def tCu_rew : Tfm C0 := fun args H K => match args with
  | [.at (.ptr 0 0)] => cuM H fun c S => (c.closed = true → K (.one (.at (vI 6))) (chC c S) [0]) ∧ (c.closed = false → ∀ c', c' = mvC c none 0 → K (.one (.at (vI 0))) (chC c' S) [0])
  | _ => False
noncomputable def aCu_find : Ann C0 := { Γ := [(87, frameT [] tLu_ceil), (88, frameT [] tMove)] }
def findC (t : Tr) (c : Cur) (key : Int) : Cur × Option Ent := moveC c (lsT t (fun k => decide (k ≥ if c.lo > key then c.lo else key)) none).1 2
def tCu_find : Tfm C0 := fun args H K => match args with
  | [.at (.ptr 0 0), .at (.val (.int .i64 key))] => cuM H fun c S => (c.closed = true → K (.tup [entO none, .at (vI 6)]) (chC c S) [0, 1]) ∧ (c.closed = false → ∃ hs t, Wf S hs ∧ Rep S t c.root ∧ t.size ≤ 1000000 ∧ S.reads + t.size ≤ 3000000000000000000 ∧ ∀ S' m c' o, S' = rdS S m → m ≤ t.size → (c', o) = findC t c key → K (.tup [entO o, .at (vI (errE o))]) (chC c' S') [0, 1])
  | _ => False
abbrev W8 : List Nat := [0, 1, 2, 3, 4, 5, 6, 7]
noncomputable def aCu_close : Ann C0 := { Γ := [(17, frameT [] tRelease)] }
def tCu_close : Tfm C0 := fun args H K => match args with
  | [.at (.ptr 0 0)] => cuM H fun c S => (c.closed = true → K (.one (.at (vI 6))) (chC c S) W8) ∧ (c.closed = false → ∃ hs, Wf S (c.root :: hs) ∧ ∀ c' S', c' = { c with closed := true } → Wf S' hs → Kept S S' → K (.one (.at (vI 0))) (chC c' S') W8)
  | _ => False
noncomputable def aTgt : Ann C0 := { Γ := [(13, frameT [] tMod)] }
def tgtE (l : List Ent) (key n : Int) : Int := if l.length = 0 ∨ n.tmod 4 = 0 then key else (l.getD (n % (l.length : Int)).toNat (0, 0)).1
def tTgt : Tfm C0 := fun args H K => match args, H with
  | [.agg [.val (.int .i64 _), .val (.int .i64 key), .val (.int .i64 n)], .at (.slc 0)], [.row false .ent l] => l.length ≤ 1000000 ∧ ∀ x, x = tgtE l key n → K (.one (.at (vI x))) [.row false EC.ent l] []
  | _, _ => False
theorem bt2 {b : Bool} {t f : Prop} (h : b = true) (ht : t) : brS b t f := by rw [h]; exact ht
theorem bf2 {b : Bool} {t f : Prop} (h : b = false) (hf : f) : brS b t f := by rw [h]; exact hf
theorem rkE_snoc {l : List Ent} {i : Nat} {x : Ent} {key : Int} (h : l[i]? = some x) : rkE (l.take (i + 1)) key = rkE (l.take i) key + if x.1 < key then 1 else 0 := by
  rw [take_snoc h]
  unfold rkE
  rw [List.filter_append, List.length_append]
  congr 1
  simp only [List.filter_cons, List.filter_nil]
  by_cases c : x.1 < key
  · simp [c]
  · simp [c]
theorem rkE_le (l : List Ent) (key : Int) : rkE l key ≤ l.length := List.length_filter_le _ _
theorem vc_rk9 (l : List Ent) (key : Int) (K : KT) (h1 : l.length ≤ 1000000) (h : ∀ n, n = (rkE l key : Int) → K (.one (.at (vI n))) [.row false EC.ent l] []) :
    vc C0 (aRk9 l key) Try.f134 [.at (.slc 0), .at (vI key)] [.row false EC.ent l] (normK 1 K) := by
  refine Eq.mp (show ((∃ x : XIx l.length,
  (True ∧
  (True ∧
  ((Value.int IntKind.i64 (key)) = (Value.int IntKind.i64 (key))) ∧
  ((Value.int IntKind.i64 0) = (Value.int IntKind.i64 ((↑(rkE (List.take x.i l) key) : Int)))) ∧
  ((Value.int IntKind.i64 0) = (Value.int IntKind.i64 ((↑x.i : Int)))) ∧
  True) ∧
  ((l) = (l)) ∧
  True)) ∧
(∀ x : XIx l.length,
  (True →
  (brS (decide ((↑x.i : Int) < (↑l.length : Int)))
    (((0 ≤ (↑x.i : Int)) ∧
    ((↑x.i : Int) < (↑l.length : Int)) ∧
    (brS (decide ((eA l x.i).fst < key))
      ((∃ x' : XIx l.length,
        (True ∧
        ((True ∧
        ((Value.int IntKind.i64 (key)) = (Value.int IntKind.i64 (key))) ∧
        ((Value.int IntKind.i64 (IntKind.i64.wrap ((↑(rkE (List.take x.i l) key) : Int) + 1))) = (Value.int IntKind.i64 ((↑(rkE (List.take x'.i l) key) : Int)))) ∧
        ((Value.int IntKind.i64 (IntKind.i64.wrap ((↑x.i : Int) + 1))) = (Value.int IntKind.i64 ((↑x'.i : Int)))) ∧
        True) ∧
        ((l) = (l)) ∧
        True) ∧
        (l.length - x'.i < l.length - x.i))))
      ((∃ x' : XIx l.length,
        (True ∧
        ((True ∧
        ((Value.int IntKind.i64 (key)) = (Value.int IntKind.i64 (key))) ∧
        ((Value.int IntKind.i64 ((↑(rkE (List.take x.i l) key) : Int))) = (Value.int IntKind.i64 ((↑(rkE (List.take x'.i l) key) : Int)))) ∧
        ((Value.int IntKind.i64 (IntKind.i64.wrap ((↑x.i : Int) + 1))) = (Value.int IntKind.i64 ((↑x'.i : Int)))) ∧
        True) ∧
        ((l) = (l)) ∧
        True) ∧
        (l.length - x'.i < l.length - x.i)))))))
    ((K (SV.one (TV.at (At.val (Value.int IntKind.i64 ((↑(rkE (List.take x.i l) key) : Int)))))) [(Chunk.row false (EC.ent) (l))] [])))))) = _ by kernel_rfl) ?_
  refine ⟨⟨⟨0, Nat.zero_le _⟩, ?_⟩, fun x _ => ?_⟩
  · (repeat' first | exact trivial | exact rfl | refine And.intro ?_ ?_)
  obtain ⟨i, hi⟩ := x
  dsimp only
  refine brS_of (fun c => ?_) fun c => ?_
  · have c : i < l.length := by have := of_decide_eq_true c; omega
    have hx := eA_get c
    have e := rkE_snoc (key := key) hx
    have hr := rkE_le (l.take i) key
    have hl : (l.take i).length ≤ l.length := by simp; omega
    have v : IntKind.i64.wrap ((i : Int) + 1) = ((i + 1 : Nat) : Int) := by rw [wrap_id (by omega) (by omega)]; rfl
    have mu : l.length - (i + 1) < l.length - i := by omega
    refine ⟨by omega, by omega, brS_of (fun d => ⟨⟨i + 1, c⟩, ?_⟩) fun d => ⟨⟨i + 1, c⟩, ?_⟩⟩
    · rw [if_pos (of_decide_eq_true d)] at e
      have v2 : IntKind.i64.wrap ((rkE (l.take i) key : Int) + 1) = (rkE (l.take (i + 1)) key : Int) := by rw [wrap_id (by omega) (by omega), e]; rfl
      (repeat' first | exact trivial | exact rfl | exact congrArg (Value.int IntKind.i64) v | exact congrArg (Value.int IntKind.i64) v2 | exact mu | refine And.intro ?_ ?_)
    · rw [if_neg (of_decide_eq_false d)] at e
      have v2 : (rkE (l.take i) key : Int) = (rkE (l.take (i + 1)) key : Int) := by rw [e]; rfl
      (repeat' first | exact trivial | exact rfl | exact congrArg (Value.int IntKind.i64) v | exact congrArg (Value.int IntKind.i64) v2 | exact mu | refine And.intro ?_ ?_)
  · have c : i = l.length := by have := of_decide_eq_false c; omega
    exact h _ (by rw [c, List.take_length])
theorem s_rk9 : SoundT C0 134 tRk9 := by
  refine .of Try.func134 (by decide) rfl fun args H K h hB => ?_
  unfold tRk9 at h
  split at h <;> try exact h.elim
  rename_i key l
  exact ⟨aRk9 l key, trivial, vc_rk9 l key K h.1 h.2⟩
theorem entR_in {W : List Ent} {k : Int} (h1 : 0 < k) (h2 : k ≤ W.length) : entR W k = some (W.getD (k - 1).toNat (0, 0)) := by
  unfold entR
  rw [if_neg (by omega), show k.toNat - 1 = (k - 1).toNat by omega, List.getElem?_eq_getElem (by omega), List.getD_eq_getElem?_getD, List.getElem?_eq_getElem (by omega)]
  rfl
theorem vc_e24 (W : List Ent) (k : Int) (K : KT) (h1 : 0 ≤ k) (h2 : k ≤ W.length + 1) (h3 : W.length ≤ 1000000) (h : ∀ o, o = entR W k → K (.tup [entO o, .at (vI (errE o))]) [.row false EC.ent W] []) :
    vc C0 A0 Try.f109 [curR k] [.row false EC.ent W] (normK 1 K) := by
  refine Eq.mp (show (brS (k == 0)
  ((K (SV.tup [(TV.agg [(At.val (Value.int IntKind.i64 0)), (At.val (Value.int IntKind.i64 0))]), (TV.at (At.val (Value.int IntKind.i64 4)))]) [(Chunk.row false (EC.ent) (W))] []))
  ((brS (decide (k > (↑W.length : Int)))
    ((K (SV.tup [(TV.agg [(At.val (Value.int IntKind.i64 0)), (At.val (Value.int IntKind.i64 0))]), (TV.at (At.val (Value.int IntKind.i64 4)))]) [(Chunk.row false (EC.ent) (W))] []))
    (((0 ≤ IntKind.i64.wrap (k - 1)) ∧
    (IntKind.i64.wrap (k - 1) < (↑W.length : Int)) ∧
    (K (SV.tup [(TV.agg [(At.val (Value.int IntKind.i64 ((W.getD (IntKind.i64.wrap (k - 1)).toNat (0, 0)).fst))), (At.val (Value.int IntKind.i64 ((W.getD (IntKind.i64.wrap (k - 1)).toNat (0, 0)).snd)))]), (TV.at (At.val (Value.int IntKind.i64 0)))]) [(Chunk.row false (EC.ent) (W))] [])))))) = _ by kernel_rfl) ?_
  refine brS_of (fun c => ?_) fun c => brS_of (fun d => ?_) fun d => ?_
  · have c : k = 0 := by simpa using c
    exact h none (by unfold entR; rw [if_pos (by omega)])
  · have d : (W.length : Int) < k := of_decide_eq_true d
    exact h none (by unfold entR; rw [if_neg (by omega), List.getElem?_eq_none (by omega)])
  · have c : k ≠ 0 := by simpa using c
    have d : ¬ (W.length : Int) < k := of_decide_eq_false d
    rw [wrap_id (x := k - 1) (by omega) (by omega)]
    exact ⟨by omega, by omega, h (some (W.getD (k - 1).toNat (0, 0))) (entR_in (by omega) (by omega)).symm⟩
theorem s_e24 : SoundT C0 109 tE24 := by
  refine .of Try.func109 (by decide) rfl fun args H K h hB => ?_
  unfold tE24 at h
  split at h <;> try exact h.elim
  rename_i k cl W
  obtain ⟨rfl, h1, h2, h3, h⟩ := h
  exact ⟨A0, trivial, vc_e24 W k K h1 h2 h3 h⟩
theorem s_n24 : SoundT C0 105 tN24 := by
  refine .of Try.func105 (by decide) rfl fun args H K h hB => ?_
  unfold tN24 at h
  split at h <;> try exact h.elim
  rename_i k cl W
  obtain ⟨rfl, h1, h2, h3, h⟩ := h
  have key : ∀ W : List Ent, k ≤ W.length + 1 → W.length ≤ 1000000 → (∀ k' o, k' = (if k ≤ W.length then k + 1 else k) → o = entR W k' → K (.tup [curR k', entO o, .at (vI (errE o))]) [.row false EC.ent W] []) → vc C0 aE24 Try.f105 [curR k] [.row false EC.ent W] (normK 1 K) := fun W h2 h3 h => by
    refine Eq.mp (show ((false = false) ∧
(0 ≤ if IntKind.i64.wrap ((↑W.length : Int) + 1) < IntKind.i64.wrap (k + 1) then IntKind.i64.wrap ((↑W.length : Int) + 1) else IntKind.i64.wrap (k + 1)) ∧
((if IntKind.i64.wrap ((↑W.length : Int) + 1) < IntKind.i64.wrap (k + 1) then IntKind.i64.wrap ((↑W.length : Int) + 1) else IntKind.i64.wrap (k + 1)) ≤ (↑W.length : Int) + 1) ∧
(W.length ≤ 1000000) ∧
(∀ o : Option Ent,
  (((o) = (entR W (if IntKind.i64.wrap ((↑W.length : Int) + 1) < IntKind.i64.wrap (k + 1) then IntKind.i64.wrap ((↑W.length : Int) + 1) else IntKind.i64.wrap (k + 1)))) →
  (K (SV.tup [(TV.agg [(At.slc 0), (At.val (Value.int IntKind.i64 (if IntKind.i64.wrap ((↑W.length : Int) + 1) < IntKind.i64.wrap (k + 1) then IntKind.i64.wrap ((↑W.length : Int) + 1) else IntKind.i64.wrap (k + 1)))), (At.val (Value.bool false))]), (TV.agg [(At.val (Value.int IntKind.i64 ((o.getD (0, 0)).fst))), (At.val (Value.int IntKind.i64 ((o.getD (0, 0)).snd)))]), (TV.at (At.val (Value.int IntKind.i64 (errE o))))]) [(Chunk.row false (EC.ent) (W))] [])))) = _ by kernel_rfl) ?_
    rw [wrap_id (x := (W.length : Int) + 1) (by omega) (by omega), wrap_id (x := k + 1) (by omega) (by omega)]
    have e : (if (W.length : Int) + 1 < k + 1 then (W.length : Int) + 1 else k + 1) = if k ≤ W.length then k + 1 else k := by split <;> split <;> omega
    rw [e]
    exact ⟨rfl, by split <;> omega, by split <;> omega, h3, fun o eo => h _ o rfl eo⟩
  exact ⟨aE24, ⟨frame C0.ok s_e24 _, frame C0.ok s_rk9 _, frame C0.ok s_bet _, trivial⟩, key W h2 h3 h⟩
theorem s_p24 : SoundT C0 106 tP24 := by
  refine .of Try.func106 (by decide) rfl fun args H K h hB => ?_
  unfold tP24 at h
  split at h <;> try exact h.elim
  rename_i k cl W
  obtain ⟨rfl, h1, h2, h3, h⟩ := h
  have key : ∀ W : List Ent, k ≤ W.length + 1 → W.length ≤ 1000000 → (∀ k' o, k' = (if 0 < k then k - 1 else k) → o = entR W k' → K (.tup [curR k', entO o, .at (vI (errE o))]) [.row false EC.ent W] []) → vc C0 aE24 Try.f106 [curR k] [.row false EC.ent W] (normK 1 K) := fun W h2 h3 h => by
    refine Eq.mp (show ((false = false) ∧
(0 ≤ if 0 > IntKind.i64.wrap (k - 1) then 0 else IntKind.i64.wrap (k - 1)) ∧
((if 0 > IntKind.i64.wrap (k - 1) then 0 else IntKind.i64.wrap (k - 1)) ≤ (↑W.length : Int) + 1) ∧
(W.length ≤ 1000000) ∧
(∀ o : Option Ent,
  (((o) = (entR W (if 0 > IntKind.i64.wrap (k - 1) then 0 else IntKind.i64.wrap (k - 1)))) →
  (K (SV.tup [(TV.agg [(At.slc 0), (At.val (Value.int IntKind.i64 (if 0 > IntKind.i64.wrap (k - 1) then 0 else IntKind.i64.wrap (k - 1)))), (At.val (Value.bool false))]), (TV.agg [(At.val (Value.int IntKind.i64 ((o.getD (0, 0)).fst))), (At.val (Value.int IntKind.i64 ((o.getD (0, 0)).snd)))]), (TV.at (At.val (Value.int IntKind.i64 (errE o))))]) [(Chunk.row false (EC.ent) (W))] [])))) = _ by kernel_rfl) ?_
    rw [wrap_id (x := k - 1) (by omega) (by omega)]
    have e : (if 0 > k - 1 then 0 else k - 1) = if 0 < k then k - 1 else k := by split <;> split <;> omega
    rw [e]
    exact ⟨rfl, by split <;> omega, by split <;> omega, h3, fun o eo => h _ o rfl eo⟩
  exact ⟨aE24, ⟨frame C0.ok s_e24 _, frame C0.ok s_rk9 _, frame C0.ok s_bet _, trivial⟩, key W h2 h3 h⟩
theorem s_f24 : SoundT C0 108 tF24 := by
  refine .of Try.func108 (by decide) rfl fun args H K h hB => ?_
  unfold tF24 at h
  split at h <;> try exact h.elim
  rename_i k cl key W
  obtain ⟨rfl, h3, h⟩ := h
  have kk : ∀ W : List Ent, W.length ≤ 1000000 → (∀ k' o, k' = (rkE W key : Int) + 1 → o = entR W k' → K (.tup [curR k', entO o, .at (vI (errE o))]) [.row false EC.ent W] []) → vc C0 aE24 Try.f108 [curR k, .at (vI key)] [.row false EC.ent W] (normK 1 K) := fun W h3 h => by
    refine Eq.mp (show ((W.length ≤ 1000000) ∧
(∀ n : Int,
  (((n) = ((↑(rkE W key) : Int))) →
  ((false = false) ∧
  (0 ≤ IntKind.i64.wrap (n + 1)) ∧
  (IntKind.i64.wrap (n + 1) ≤ (↑W.length : Int) + 1) ∧
  (W.length ≤ 1000000) ∧
  (∀ o : Option Ent,
    (((o) = (entR W (IntKind.i64.wrap (n + 1)))) →
    (K (SV.tup [(TV.agg [(At.slc 0), (At.val (Value.int IntKind.i64 (IntKind.i64.wrap (n + 1)))), (At.val (Value.bool false))]), (TV.agg [(At.val (Value.int IntKind.i64 ((o.getD (0, 0)).fst))), (At.val (Value.int IntKind.i64 ((o.getD (0, 0)).snd)))]), (TV.at (At.val (Value.int IntKind.i64 (errE o))))]) [(Chunk.row false (EC.ent) (W))] []))))))) = _ by kernel_rfl) ?_
    have hr := rkE_le W key
    refine ⟨h3, fun n en => ?_⟩
    subst en
    rw [wrap_id (x := (rkE W key : Int) + 1) (by omega) (by omega)]
    exact ⟨rfl, by omega, by omega, h3, fun o eo => h _ o rfl eo⟩
  exact ⟨aE24, ⟨frame C0.ok s_e24 _, frame C0.ok s_rk9 _, frame C0.ok s_bet _, trivial⟩, kk W h3 h⟩
theorem s_r24 : SoundT C0 110 tR24 := by
  refine .of Try.func110 (by decide) rfl fun args H K h hB => ?_
  unfold tR24 at h
  split at h <;> try exact h.elim
  rename_i k cl W
  obtain ⟨rfl, h⟩ := h
  exact ⟨A0, trivial, Eq.mp (show (K (SV.tup [(TV.agg [(At.slc 0), (At.val (Value.int IntKind.i64 0)), (At.val (Value.bool false))]), (TV.at (At.val (Value.int IntKind.i64 0)))]) [(Chunk.row false (EC.ent) (W))] []) = _ by kernel_rfl) h⟩
theorem s_o24 : SoundT C0 63 tO24 := by
  refine .of Try.func63 (by decide) rfl fun args H K h hB => ?_
  unfold tO24 at h
  split at h <;> try exact h.elim
  rename_i lo hi l
  exact ⟨aE24, ⟨frame C0.ok s_e24 _, frame C0.ok s_rk9 _, frame C0.ok s_bet _, trivial⟩, Eq.mp (show ((l.length ≤ 1000000) ∧
(∀ r : List Ent,
  (((r) = (betE l lo hi)) →
  (K (SV.one (TV.agg [(At.slc 1), (At.val (Value.int IntKind.i64 0)), (At.val (Value.bool false))])) [(Chunk.row false (EC.ent) (l)), (Chunk.row true (EC.ent) (r))] [])))) = _ by kernel_rfl) ⟨h.1, h.2⟩⟩
theorem s_cu_entry : SoundT C0 68 tCu_entry := by
  refine .of Try.func68 (by decide) rfl fun args H K h hB => ?_
  unfold tCu_entry at h
  split at h <;> try exact h.elim
  unfold cuM at h
  split at h <;> try exact h.elim
  rename_i root lo hi place ek ev closed rd fr nd ct us gn rl
  have key : ∀ (c : Cur) (S : Arn), (c.closed = true → K (.tup [entO none, .at (vI 6)]) (chC c S) []) → (c.closed = false → ∀ o, o = entC c → K (.tup [entO o, .at (vI (errE o))]) (chC c S) []) → vc C0 A0 Try.f68 [.at (.ptr 0 0)] (chC c S) (normK 8 K) := fun c S h1 h2 => by
    refine Eq.mp (show (brS (c.closed)
  ((K (SV.tup [(TV.agg [(At.val (Value.int IntKind.i64 0)), (At.val (Value.int IntKind.i64 0))]), (TV.at (At.val (Value.int IntKind.i64 6)))]) [(Chunk.box [(At.ptr 1 0), (At.val (Value.int IntKind.u32 (c.root))), (At.val (Value.int IntKind.i64 (c.lo))), (At.val (Value.int IntKind.i64 (c.hi))), (At.val (Value.int IntKind.i64 (c.place))), (At.val (Value.int IntKind.i64 (c.ek))), (At.val (Value.int IntKind.i64 (c.ev))), (At.val (Value.bool (c.closed)))]), (Chunk.box [(At.ptr 2 0), (At.slc 3), (At.slc 4), (At.val (Value.int IntKind.u64 (S.reads)))]), (Chunk.box [(At.slc 5), (At.slc 6), (At.slc 7), (At.val (Value.int IntKind.u32 (S.fresh)))]), (Chunk.row true (EC.node) (S.nodes)), (Chunk.row true (EC.int) (S.counts)), (Chunk.row true (EC.bool) (S.used)), (Chunk.row true (EC.u32) (S.gen)), (Chunk.row true (EC.u32) (S.rel))] []))
  ((brS (c.place != 1)
    ((K (SV.tup [(TV.agg [(At.val (Value.int IntKind.i64 0)), (At.val (Value.int IntKind.i64 0))]), (TV.at (At.val (Value.int IntKind.i64 4)))]) [(Chunk.box [(At.ptr 1 0), (At.val (Value.int IntKind.u32 (c.root))), (At.val (Value.int IntKind.i64 (c.lo))), (At.val (Value.int IntKind.i64 (c.hi))), (At.val (Value.int IntKind.i64 (c.place))), (At.val (Value.int IntKind.i64 (c.ek))), (At.val (Value.int IntKind.i64 (c.ev))), (At.val (Value.bool (c.closed)))]), (Chunk.box [(At.ptr 2 0), (At.slc 3), (At.slc 4), (At.val (Value.int IntKind.u64 (S.reads)))]), (Chunk.box [(At.slc 5), (At.slc 6), (At.slc 7), (At.val (Value.int IntKind.u32 (S.fresh)))]), (Chunk.row true (EC.node) (S.nodes)), (Chunk.row true (EC.int) (S.counts)), (Chunk.row true (EC.bool) (S.used)), (Chunk.row true (EC.u32) (S.gen)), (Chunk.row true (EC.u32) (S.rel))] []))
    ((K (SV.tup [(TV.agg [(At.val (Value.int IntKind.i64 (c.ek))), (At.val (Value.int IntKind.i64 (c.ev)))]), (TV.at (At.val (Value.int IntKind.i64 0)))]) [(Chunk.box [(At.ptr 1 0), (At.val (Value.int IntKind.u32 (c.root))), (At.val (Value.int IntKind.i64 (c.lo))), (At.val (Value.int IntKind.i64 (c.hi))), (At.val (Value.int IntKind.i64 (c.place))), (At.val (Value.int IntKind.i64 (c.ek))), (At.val (Value.int IntKind.i64 (c.ev))), (At.val (Value.bool (c.closed)))]), (Chunk.box [(At.ptr 2 0), (At.slc 3), (At.slc 4), (At.val (Value.int IntKind.u64 (S.reads)))]), (Chunk.box [(At.slc 5), (At.slc 6), (At.slc 7), (At.val (Value.int IntKind.u32 (S.fresh)))]), (Chunk.row true (EC.node) (S.nodes)), (Chunk.row true (EC.int) (S.counts)), (Chunk.row true (EC.bool) (S.used)), (Chunk.row true (EC.u32) (S.gen)), (Chunk.row true (EC.u32) (S.rel))] []))))) = _ by kernel_rfl) ?_
    refine brS_of (fun d => h1 d) fun d => brS_of (fun e => ?_) fun e => ?_
    · have e : c.place ≠ 1 := by simpa using e
      exact h2 d none (by unfold entC; rw [if_neg e])
    · have e : c.place = 1 := by simpa using e
      exact h2 d (some (c.ek, c.ev)) (by unfold entC; rw [if_pos e])
  exact ⟨A0, trivial, key ⟨root, lo, hi, place, ek, ev, closed⟩ ⟨us, gn, rl, fr, nd, ct, rd⟩ h.1 h.2⟩
theorem s_cu_rew : SoundT C0 69 tCu_rew := by
  refine .ofW [0] Try.func69 (by decide) rfl fun args H K h hB => ?_
  unfold tCu_rew at h
  split at h <;> try exact h.elim
  unfold cuM at h
  split at h <;> try exact h.elim
  rename_i root lo hi place ek ev closed rd fr nd ct us gn rl
  have key : ∀ (c : Cur) (S : Arn), (c.closed = true → K (.one (.at (vI 6))) (chC c S) [0]) → (c.closed = false → ∀ c', c' = mvC c none 0 → K (.one (.at (vI 0))) (chC c' S) [0]) → vc C0 A0 Try.f69 [.at (.ptr 0 0)] (chC c S) (normK 8 (wideK [0] K)) := fun c S h1 h2 => by
    refine Eq.mp (show (brS (c.closed)
  ((K (SV.one (TV.at (At.val (Value.int IntKind.i64 6)))) [(Chunk.box [(At.ptr 1 0), (At.val (Value.int IntKind.u32 (c.root))), (At.val (Value.int IntKind.i64 (c.lo))), (At.val (Value.int IntKind.i64 (c.hi))), (At.val (Value.int IntKind.i64 (c.place))), (At.val (Value.int IntKind.i64 (c.ek))), (At.val (Value.int IntKind.i64 (c.ev))), (At.val (Value.bool (c.closed)))]), (Chunk.box [(At.ptr 2 0), (At.slc 3), (At.slc 4), (At.val (Value.int IntKind.u64 (S.reads)))]), (Chunk.box [(At.slc 5), (At.slc 6), (At.slc 7), (At.val (Value.int IntKind.u32 (S.fresh)))]), (Chunk.row true (EC.node) (S.nodes)), (Chunk.row true (EC.int) (S.counts)), (Chunk.row true (EC.bool) (S.used)), (Chunk.row true (EC.u32) (S.gen)), (Chunk.row true (EC.u32) (S.rel))] [0]))
  ((K (SV.one (TV.at (At.val (Value.int IntKind.i64 0)))) [(Chunk.box [(At.ptr 1 0), (At.val (Value.int IntKind.u32 (c.root))), (At.val (Value.int IntKind.i64 (c.lo))), (At.val (Value.int IntKind.i64 (c.hi))), (At.val (Value.int IntKind.i64 0)), (At.val (Value.int IntKind.i64 0)), (At.val (Value.int IntKind.i64 0)), (At.val (Value.bool (c.closed)))]), (Chunk.box [(At.ptr 2 0), (At.slc 3), (At.slc 4), (At.val (Value.int IntKind.u64 (S.reads)))]), (Chunk.box [(At.slc 5), (At.slc 6), (At.slc 7), (At.val (Value.int IntKind.u32 (S.fresh)))]), (Chunk.row true (EC.node) (S.nodes)), (Chunk.row true (EC.int) (S.counts)), (Chunk.row true (EC.bool) (S.used)), (Chunk.row true (EC.u32) (S.gen)), (Chunk.row true (EC.u32) (S.rel))] [0]))) = _ by kernel_rfl) ?_
    exact brS_of (fun d => h1 d) fun d => h2 d _ rfl
  exact ⟨A0, trivial, key ⟨root, lo, hi, place, ek, ev, closed⟩ ⟨us, gn, rl, fr, nd, ct, rd⟩ h.1 h.2⟩
theorem s_cu_find : SoundT C0 67 tCu_find := by
  refine .ofW [0, 1] Try.func67 (by decide) rfl fun args H K h hB => ?_
  unfold tCu_find at h
  split at h <;> try exact h.elim
  unfold cuM at h
  split at h <;> try exact h.elim
  rename_i key _ root lo hi place ek ev closed rd fr nd ct us gn rl
  have kk : ∀ (c : Cur) (S : Arn), (c.closed = true → K (.tup [entO none, .at (vI 6)]) (chC c S) [0, 1]) → (c.closed = false → ∃ hs t, Wf S hs ∧ Rep S t c.root ∧ t.size ≤ 1000000 ∧ S.reads + t.size ≤ 3000000000000000000 ∧ ∀ S' m c' o, S' = rdS S m → m ≤ t.size → (c', o) = findC t c key → K (.tup [entO o, .at (vI (errE o))]) (chC c' S') [0, 1]) → vc C0 aCu_find Try.f67 [.at (.ptr 0 0), .at (vI key)] (chC c S) (normK 8 (wideK [0, 1] K)) := fun c S h1 h2 => by
    refine Eq.mp (show (brS (c.closed)
  ((K (SV.tup [(TV.agg [(At.val (Value.int IntKind.i64 0)), (At.val (Value.int IntKind.i64 0))]), (TV.at (At.val (Value.int IntKind.i64 6)))]) [(Chunk.box [(At.ptr 1 0), (At.val (Value.int IntKind.u32 (c.root))), (At.val (Value.int IntKind.i64 (c.lo))), (At.val (Value.int IntKind.i64 (c.hi))), (At.val (Value.int IntKind.i64 (c.place))), (At.val (Value.int IntKind.i64 (c.ek))), (At.val (Value.int IntKind.i64 (c.ev))), (At.val (Value.bool (c.closed)))]), (Chunk.box [(At.ptr 2 0), (At.slc 3), (At.slc 4), (At.val (Value.int IntKind.u64 (S.reads)))]), (Chunk.box [(At.slc 5), (At.slc 6), (At.slc 7), (At.val (Value.int IntKind.u32 (S.fresh)))]), (Chunk.row true (EC.node) (S.nodes)), (Chunk.row true (EC.int) (S.counts)), (Chunk.row true (EC.bool) (S.used)), (Chunk.row true (EC.u32) (S.gen)), (Chunk.row true (EC.u32) (S.rel))] [0, 1]))
  ((((((∃ hs : List Int,
    (∃ t : Tr,
      ((Wf S hs) ∧
      (Rep S t c.root) ∧
      (t.size ≤ 1000000) ∧
      (S.reads + (↑t.size : Int) ≤ 3000000000000000000) ∧
      (∀ S' : Arn,
        (∀ o : Option Ent,
          (((S') = (rdS S (lsT t (fun k => decide (k ≥ if c.lo > key then c.lo else key)) none).snd)) →
          (((o) = ((lsT t (fun k => decide (k ≥ if c.lo > key then c.lo else key)) none).fst)) →
          (∃ o1 : Option Ent,
            (((o.isSome) = (o1.isSome)) ∧
            (((o.getD (0, 0)).fst) = ((o1.getD (0, 0)).fst)) ∧
            (((o.getD (0, 0)).snd) = ((o1.getD (0, 0)).snd)) ∧
            (∀ c' : Cur,
              (∀ r : Option Ent,
                (((Prod.mk (c') (r)) = (moveC c o1 2)) →
                (K (SV.tup [(TV.agg [(At.val (Value.int IntKind.i64 ((r.getD (0, 0)).fst))), (At.val (Value.int IntKind.i64 ((r.getD (0, 0)).snd)))]), (TV.at (At.val (Value.int IntKind.i64 (errE r))))]) [(Chunk.box [(At.ptr 1 0), (At.val (Value.int IntKind.u32 (c'.root))), (At.val (Value.int IntKind.i64 (c'.lo))), (At.val (Value.int IntKind.i64 (c'.hi))), (At.val (Value.int IntKind.i64 (c'.place))), (At.val (Value.int IntKind.i64 (c'.ek))), (At.val (Value.int IntKind.i64 (c'.ev))), (At.val (Value.bool (c'.closed)))]), (Chunk.box [(At.ptr 2 0), (At.slc 3), (At.slc 4), (At.val (Value.int IntKind.u64 (S'.reads)))]), (Chunk.box [(At.slc 5), (At.slc 6), (At.slc 7), (At.val (Value.int IntKind.u32 (S'.fresh)))]), (Chunk.row true (EC.node) (S'.nodes)), (Chunk.row true (EC.int) (S'.counts)), (Chunk.row true (EC.bool) (S'.used)), (Chunk.row true (EC.u32) (S'.gen)), (Chunk.row true (EC.u32) (S'.rel))] [0, 1]))))))))))))) ∧
  (∃ hs : List Int,
    (∃ t : Tr,
      ((Wf S hs) ∧
      (Rep S t c.root) ∧
      (t.size ≤ 1000000) ∧
      (S.reads + (↑t.size : Int) ≤ 3000000000000000000) ∧
      (∀ S' : Arn,
        (∀ o : Option Ent,
          (((S') = (rdS S (lsT t (fun k => decide (k ≥ if c.lo > key then c.lo else key)) none).snd)) →
          (((o) = ((lsT t (fun k => decide (k ≥ if c.lo > key then c.lo else key)) none).fst)) →
          (∃ o1 : Option Ent,
            (((o.isSome) = (o1.isSome)) ∧
            (((o.getD (0, 0)).fst) = ((o1.getD (0, 0)).fst)) ∧
            (((o.getD (0, 0)).snd) = ((o1.getD (0, 0)).snd)) ∧
            (∀ c' : Cur,
              (∀ r : Option Ent,
                (((Prod.mk (c') (r)) = (moveC c o1 2)) →
                (K (SV.tup [(TV.agg [(At.val (Value.int IntKind.i64 ((r.getD (0, 0)).fst))), (At.val (Value.int IntKind.i64 ((r.getD (0, 0)).snd)))]), (TV.at (At.val (Value.int IntKind.i64 (errE r))))]) [(Chunk.box [(At.ptr 1 0), (At.val (Value.int IntKind.u32 (c'.root))), (At.val (Value.int IntKind.i64 (c'.lo))), (At.val (Value.int IntKind.i64 (c'.hi))), (At.val (Value.int IntKind.i64 (c'.place))), (At.val (Value.int IntKind.i64 (c'.ek))), (At.val (Value.int IntKind.i64 (c'.ev))), (At.val (Value.bool (c'.closed)))]), (Chunk.box [(At.ptr 2 0), (At.slc 3), (At.slc 4), (At.val (Value.int IntKind.u64 (S'.reads)))]), (Chunk.box [(At.slc 5), (At.slc 6), (At.slc 7), (At.val (Value.int IntKind.u32 (S'.fresh)))]), (Chunk.row true (EC.node) (S'.nodes)), (Chunk.row true (EC.int) (S'.counts)), (Chunk.row true (EC.bool) (S'.used)), (Chunk.row true (EC.u32) (S'.gen)), (Chunk.row true (EC.u32) (S'.rel))] [0, 1])))))))))))))) ∧
  (∃ hs : List Int,
    (∃ t : Tr,
      ((Wf S hs) ∧
      (Rep S t c.root) ∧
      (t.size ≤ 1000000) ∧
      (S.reads + (↑t.size : Int) ≤ 3000000000000000000) ∧
      (∀ S' : Arn,
        (∀ o : Option Ent,
          (((S') = (rdS S (lsT t (fun k => decide (k ≥ if c.lo > key then c.lo else key)) none).snd)) →
          (((o) = ((lsT t (fun k => decide (k ≥ if c.lo > key then c.lo else key)) none).fst)) →
          (∃ o1 : Option Ent,
            (((o.isSome) = (o1.isSome)) ∧
            (((o.getD (0, 0)).fst) = ((o1.getD (0, 0)).fst)) ∧
            (((o.getD (0, 0)).snd) = ((o1.getD (0, 0)).snd)) ∧
            (∀ c' : Cur,
              (∀ r : Option Ent,
                (((Prod.mk (c') (r)) = (moveC c o1 2)) →
                (K (SV.tup [(TV.agg [(At.val (Value.int IntKind.i64 ((r.getD (0, 0)).fst))), (At.val (Value.int IntKind.i64 ((r.getD (0, 0)).snd)))]), (TV.at (At.val (Value.int IntKind.i64 (errE r))))]) [(Chunk.box [(At.ptr 1 0), (At.val (Value.int IntKind.u32 (c'.root))), (At.val (Value.int IntKind.i64 (c'.lo))), (At.val (Value.int IntKind.i64 (c'.hi))), (At.val (Value.int IntKind.i64 (c'.place))), (At.val (Value.int IntKind.i64 (c'.ek))), (At.val (Value.int IntKind.i64 (c'.ev))), (At.val (Value.bool (c'.closed)))]), (Chunk.box [(At.ptr 2 0), (At.slc 3), (At.slc 4), (At.val (Value.int IntKind.u64 (S'.reads)))]), (Chunk.box [(At.slc 5), (At.slc 6), (At.slc 7), (At.val (Value.int IntKind.u32 (S'.fresh)))]), (Chunk.row true (EC.node) (S'.nodes)), (Chunk.row true (EC.int) (S'.counts)), (Chunk.row true (EC.bool) (S'.used)), (Chunk.row true (EC.u32) (S'.gen)), (Chunk.row true (EC.u32) (S'.rel))] [0, 1])))))))))))))) ∧
  (((∃ hs : List Int,
    (∃ t : Tr,
      ((Wf S hs) ∧
      (Rep S t c.root) ∧
      (t.size ≤ 1000000) ∧
      (S.reads + (↑t.size : Int) ≤ 3000000000000000000) ∧
      (∀ S' : Arn,
        (∀ o : Option Ent,
          (((S') = (rdS S (lsT t (fun k => decide (k ≥ if c.lo > key then c.lo else key)) none).snd)) →
          (((o) = ((lsT t (fun k => decide (k ≥ if c.lo > key then c.lo else key)) none).fst)) →
          (∃ o1 : Option Ent,
            (((o.isSome) = (o1.isSome)) ∧
            (((o.getD (0, 0)).fst) = ((o1.getD (0, 0)).fst)) ∧
            (((o.getD (0, 0)).snd) = ((o1.getD (0, 0)).snd)) ∧
            (∀ c' : Cur,
              (∀ r : Option Ent,
                (((Prod.mk (c') (r)) = (moveC c o1 2)) →
                (K (SV.tup [(TV.agg [(At.val (Value.int IntKind.i64 ((r.getD (0, 0)).fst))), (At.val (Value.int IntKind.i64 ((r.getD (0, 0)).snd)))]), (TV.at (At.val (Value.int IntKind.i64 (errE r))))]) [(Chunk.box [(At.ptr 1 0), (At.val (Value.int IntKind.u32 (c'.root))), (At.val (Value.int IntKind.i64 (c'.lo))), (At.val (Value.int IntKind.i64 (c'.hi))), (At.val (Value.int IntKind.i64 (c'.place))), (At.val (Value.int IntKind.i64 (c'.ek))), (At.val (Value.int IntKind.i64 (c'.ev))), (At.val (Value.bool (c'.closed)))]), (Chunk.box [(At.ptr 2 0), (At.slc 3), (At.slc 4), (At.val (Value.int IntKind.u64 (S'.reads)))]), (Chunk.box [(At.slc 5), (At.slc 6), (At.slc 7), (At.val (Value.int IntKind.u32 (S'.fresh)))]), (Chunk.row true (EC.node) (S'.nodes)), (Chunk.row true (EC.int) (S'.counts)), (Chunk.row true (EC.bool) (S'.used)), (Chunk.row true (EC.u32) (S'.gen)), (Chunk.row true (EC.u32) (S'.rel))] [0, 1]))))))))))))) ∧
  (∃ hs : List Int,
    (∃ t : Tr,
      ((Wf S hs) ∧
      (Rep S t c.root) ∧
      (t.size ≤ 1000000) ∧
      (S.reads + (↑t.size : Int) ≤ 3000000000000000000) ∧
      (∀ S' : Arn,
        (∀ o : Option Ent,
          (((S') = (rdS S (lsT t (fun k => decide (k ≥ if c.lo > key then c.lo else key)) none).snd)) →
          (((o) = ((lsT t (fun k => decide (k ≥ if c.lo > key then c.lo else key)) none).fst)) →
          (∃ o1 : Option Ent,
            (((o.isSome) = (o1.isSome)) ∧
            (((o.getD (0, 0)).fst) = ((o1.getD (0, 0)).fst)) ∧
            (((o.getD (0, 0)).snd) = ((o1.getD (0, 0)).snd)) ∧
            (∀ c' : Cur,
              (∀ r : Option Ent,
                (((Prod.mk (c') (r)) = (moveC c o1 2)) →
                (K (SV.tup [(TV.agg [(At.val (Value.int IntKind.i64 ((r.getD (0, 0)).fst))), (At.val (Value.int IntKind.i64 ((r.getD (0, 0)).snd)))]), (TV.at (At.val (Value.int IntKind.i64 (errE r))))]) [(Chunk.box [(At.ptr 1 0), (At.val (Value.int IntKind.u32 (c'.root))), (At.val (Value.int IntKind.i64 (c'.lo))), (At.val (Value.int IntKind.i64 (c'.hi))), (At.val (Value.int IntKind.i64 (c'.place))), (At.val (Value.int IntKind.i64 (c'.ek))), (At.val (Value.int IntKind.i64 (c'.ev))), (At.val (Value.bool (c'.closed)))]), (Chunk.box [(At.ptr 2 0), (At.slc 3), (At.slc 4), (At.val (Value.int IntKind.u64 (S'.reads)))]), (Chunk.box [(At.slc 5), (At.slc 6), (At.slc 7), (At.val (Value.int IntKind.u32 (S'.fresh)))]), (Chunk.row true (EC.node) (S'.nodes)), (Chunk.row true (EC.int) (S'.counts)), (Chunk.row true (EC.bool) (S'.used)), (Chunk.row true (EC.u32) (S'.gen)), (Chunk.row true (EC.u32) (S'.rel))] [0, 1])))))))))))))) ∧
  (∃ hs : List Int,
    (∃ t : Tr,
      ((Wf S hs) ∧
      (Rep S t c.root) ∧
      (t.size ≤ 1000000) ∧
      (S.reads + (↑t.size : Int) ≤ 3000000000000000000) ∧
      (∀ S' : Arn,
        (∀ o : Option Ent,
          (((S') = (rdS S (lsT t (fun k => decide (k ≥ if c.lo > key then c.lo else key)) none).snd)) →
          (((o) = ((lsT t (fun k => decide (k ≥ if c.lo > key then c.lo else key)) none).fst)) →
          (∃ o1 : Option Ent,
            (((o.isSome) = (o1.isSome)) ∧
            (((o.getD (0, 0)).fst) = ((o1.getD (0, 0)).fst)) ∧
            (((o.getD (0, 0)).snd) = ((o1.getD (0, 0)).snd)) ∧
            (∀ c' : Cur,
              (∀ r : Option Ent,
                (((Prod.mk (c') (r)) = (moveC c o1 2)) →
                (K (SV.tup [(TV.agg [(At.val (Value.int IntKind.i64 ((r.getD (0, 0)).fst))), (At.val (Value.int IntKind.i64 ((r.getD (0, 0)).snd)))]), (TV.at (At.val (Value.int IntKind.i64 (errE r))))]) [(Chunk.box [(At.ptr 1 0), (At.val (Value.int IntKind.u32 (c'.root))), (At.val (Value.int IntKind.i64 (c'.lo))), (At.val (Value.int IntKind.i64 (c'.hi))), (At.val (Value.int IntKind.i64 (c'.place))), (At.val (Value.int IntKind.i64 (c'.ek))), (At.val (Value.int IntKind.i64 (c'.ev))), (At.val (Value.bool (c'.closed)))]), (Chunk.box [(At.ptr 2 0), (At.slc 3), (At.slc 4), (At.val (Value.int IntKind.u64 (S'.reads)))]), (Chunk.box [(At.slc 5), (At.slc 6), (At.slc 7), (At.val (Value.int IntKind.u32 (S'.fresh)))]), (Chunk.row true (EC.node) (S'.nodes)), (Chunk.row true (EC.int) (S'.counts)), (Chunk.row true (EC.bool) (S'.used)), (Chunk.row true (EC.u32) (S'.gen)), (Chunk.row true (EC.u32) (S'.rel))] [0, 1])))))))))))))) ∧
  (∃ hs : List Int,
    (∃ t : Tr,
      ((Wf S hs) ∧
      (Rep S t c.root) ∧
      (t.size ≤ 1000000) ∧
      (S.reads + (↑t.size : Int) ≤ 3000000000000000000) ∧
      (∀ S' : Arn,
        (∀ o : Option Ent,
          (((S') = (rdS S (lsT t (fun k => decide (k ≥ if c.lo > key then c.lo else key)) none).snd)) →
          (((o) = ((lsT t (fun k => decide (k ≥ if c.lo > key then c.lo else key)) none).fst)) →
          (∃ o1 : Option Ent,
            (((o.isSome) = (o1.isSome)) ∧
            (((o.getD (0, 0)).fst) = ((o1.getD (0, 0)).fst)) ∧
            (((o.getD (0, 0)).snd) = ((o1.getD (0, 0)).snd)) ∧
            (∀ c' : Cur,
              (∀ r : Option Ent,
                (((Prod.mk (c') (r)) = (moveC c o1 2)) →
                (K (SV.tup [(TV.agg [(At.val (Value.int IntKind.i64 ((r.getD (0, 0)).fst))), (At.val (Value.int IntKind.i64 ((r.getD (0, 0)).snd)))]), (TV.at (At.val (Value.int IntKind.i64 (errE r))))]) [(Chunk.box [(At.ptr 1 0), (At.val (Value.int IntKind.u32 (c'.root))), (At.val (Value.int IntKind.i64 (c'.lo))), (At.val (Value.int IntKind.i64 (c'.hi))), (At.val (Value.int IntKind.i64 (c'.place))), (At.val (Value.int IntKind.i64 (c'.ek))), (At.val (Value.int IntKind.i64 (c'.ev))), (At.val (Value.bool (c'.closed)))]), (Chunk.box [(At.ptr 2 0), (At.slc 3), (At.slc 4), (At.val (Value.int IntKind.u64 (S'.reads)))]), (Chunk.box [(At.slc 5), (At.slc 6), (At.slc 7), (At.val (Value.int IntKind.u32 (S'.fresh)))]), (Chunk.row true (EC.node) (S'.nodes)), (Chunk.row true (EC.int) (S'.counts)), (Chunk.row true (EC.bool) (S'.used)), (Chunk.row true (EC.u32) (S'.gen)), (Chunk.row true (EC.u32) (S'.rel))] [0, 1]))))))))))))) ∧
  (∃ hs : List Int,
    (∃ t : Tr,
      ((Wf S hs) ∧
      (Rep S t c.root) ∧
      (t.size ≤ 1000000) ∧
      (S.reads + (↑t.size : Int) ≤ 3000000000000000000) ∧
      (∀ S' : Arn,
        (∀ o : Option Ent,
          (((S') = (rdS S (lsT t (fun k => decide (k ≥ if c.lo > key then c.lo else key)) none).snd)) →
          (((o) = ((lsT t (fun k => decide (k ≥ if c.lo > key then c.lo else key)) none).fst)) →
          (∃ o1 : Option Ent,
            (((o.isSome) = (o1.isSome)) ∧
            (((o.getD (0, 0)).fst) = ((o1.getD (0, 0)).fst)) ∧
            (((o.getD (0, 0)).snd) = ((o1.getD (0, 0)).snd)) ∧
            (∀ c' : Cur,
              (∀ r : Option Ent,
                (((Prod.mk (c') (r)) = (moveC c o1 2)) →
                (K (SV.tup [(TV.agg [(At.val (Value.int IntKind.i64 ((r.getD (0, 0)).fst))), (At.val (Value.int IntKind.i64 ((r.getD (0, 0)).snd)))]), (TV.at (At.val (Value.int IntKind.i64 (errE r))))]) [(Chunk.box [(At.ptr 1 0), (At.val (Value.int IntKind.u32 (c'.root))), (At.val (Value.int IntKind.i64 (c'.lo))), (At.val (Value.int IntKind.i64 (c'.hi))), (At.val (Value.int IntKind.i64 (c'.place))), (At.val (Value.int IntKind.i64 (c'.ek))), (At.val (Value.int IntKind.i64 (c'.ev))), (At.val (Value.bool (c'.closed)))]), (Chunk.box [(At.ptr 2 0), (At.slc 3), (At.slc 4), (At.val (Value.int IntKind.u64 (S'.reads)))]), (Chunk.box [(At.slc 5), (At.slc 6), (At.slc 7), (At.val (Value.int IntKind.u32 (S'.fresh)))]), (Chunk.row true (EC.node) (S'.nodes)), (Chunk.row true (EC.int) (S'.counts)), (Chunk.row true (EC.bool) (S'.used)), (Chunk.row true (EC.u32) (S'.gen)), (Chunk.row true (EC.u32) (S'.rel))] [0, 1])))))))))))))) ∧
  ((((∃ hs : List Int,
    (∃ t : Tr,
      ((Wf S hs) ∧
      (Rep S t c.root) ∧
      (t.size ≤ 1000000) ∧
      (S.reads + (↑t.size : Int) ≤ 3000000000000000000) ∧
      (∀ S' : Arn,
        (∀ o : Option Ent,
          (((S') = (rdS S (lsT t (fun k => decide (k ≥ if c.lo > key then c.lo else key)) none).snd)) →
          (((o) = ((lsT t (fun k => decide (k ≥ if c.lo > key then c.lo else key)) none).fst)) →
          (∃ o1 : Option Ent,
            (((o.isSome) = (o1.isSome)) ∧
            (((o.getD (0, 0)).fst) = ((o1.getD (0, 0)).fst)) ∧
            (((o.getD (0, 0)).snd) = ((o1.getD (0, 0)).snd)) ∧
            (∀ c' : Cur,
              (∀ r : Option Ent,
                (((Prod.mk (c') (r)) = (moveC c o1 2)) →
                (K (SV.tup [(TV.agg [(At.val (Value.int IntKind.i64 ((r.getD (0, 0)).fst))), (At.val (Value.int IntKind.i64 ((r.getD (0, 0)).snd)))]), (TV.at (At.val (Value.int IntKind.i64 (errE r))))]) [(Chunk.box [(At.ptr 1 0), (At.val (Value.int IntKind.u32 (c'.root))), (At.val (Value.int IntKind.i64 (c'.lo))), (At.val (Value.int IntKind.i64 (c'.hi))), (At.val (Value.int IntKind.i64 (c'.place))), (At.val (Value.int IntKind.i64 (c'.ek))), (At.val (Value.int IntKind.i64 (c'.ev))), (At.val (Value.bool (c'.closed)))]), (Chunk.box [(At.ptr 2 0), (At.slc 3), (At.slc 4), (At.val (Value.int IntKind.u64 (S'.reads)))]), (Chunk.box [(At.slc 5), (At.slc 6), (At.slc 7), (At.val (Value.int IntKind.u32 (S'.fresh)))]), (Chunk.row true (EC.node) (S'.nodes)), (Chunk.row true (EC.int) (S'.counts)), (Chunk.row true (EC.bool) (S'.used)), (Chunk.row true (EC.u32) (S'.gen)), (Chunk.row true (EC.u32) (S'.rel))] [0, 1]))))))))))))) ∧
  (∃ hs : List Int,
    (∃ t : Tr,
      ((Wf S hs) ∧
      (Rep S t c.root) ∧
      (t.size ≤ 1000000) ∧
      (S.reads + (↑t.size : Int) ≤ 3000000000000000000) ∧
      (∀ S' : Arn,
        (∀ o : Option Ent,
          (((S') = (rdS S (lsT t (fun k => decide (k ≥ if c.lo > key then c.lo else key)) none).snd)) →
          (((o) = ((lsT t (fun k => decide (k ≥ if c.lo > key then c.lo else key)) none).fst)) →
          (∃ o1 : Option Ent,
            (((o.isSome) = (o1.isSome)) ∧
            (((o.getD (0, 0)).fst) = ((o1.getD (0, 0)).fst)) ∧
            (((o.getD (0, 0)).snd) = ((o1.getD (0, 0)).snd)) ∧
            (∀ c' : Cur,
              (∀ r : Option Ent,
                (((Prod.mk (c') (r)) = (moveC c o1 2)) →
                (K (SV.tup [(TV.agg [(At.val (Value.int IntKind.i64 ((r.getD (0, 0)).fst))), (At.val (Value.int IntKind.i64 ((r.getD (0, 0)).snd)))]), (TV.at (At.val (Value.int IntKind.i64 (errE r))))]) [(Chunk.box [(At.ptr 1 0), (At.val (Value.int IntKind.u32 (c'.root))), (At.val (Value.int IntKind.i64 (c'.lo))), (At.val (Value.int IntKind.i64 (c'.hi))), (At.val (Value.int IntKind.i64 (c'.place))), (At.val (Value.int IntKind.i64 (c'.ek))), (At.val (Value.int IntKind.i64 (c'.ev))), (At.val (Value.bool (c'.closed)))]), (Chunk.box [(At.ptr 2 0), (At.slc 3), (At.slc 4), (At.val (Value.int IntKind.u64 (S'.reads)))]), (Chunk.box [(At.slc 5), (At.slc 6), (At.slc 7), (At.val (Value.int IntKind.u32 (S'.fresh)))]), (Chunk.row true (EC.node) (S'.nodes)), (Chunk.row true (EC.int) (S'.counts)), (Chunk.row true (EC.bool) (S'.used)), (Chunk.row true (EC.u32) (S'.gen)), (Chunk.row true (EC.u32) (S'.rel))] [0, 1])))))))))))))) ∧
  (∃ hs : List Int,
    (∃ t : Tr,
      ((Wf S hs) ∧
      (Rep S t c.root) ∧
      (t.size ≤ 1000000) ∧
      (S.reads + (↑t.size : Int) ≤ 3000000000000000000) ∧
      (∀ S' : Arn,
        (∀ o : Option Ent,
          (((S') = (rdS S (lsT t (fun k => decide (k ≥ if c.lo > key then c.lo else key)) none).snd)) →
          (((o) = ((lsT t (fun k => decide (k ≥ if c.lo > key then c.lo else key)) none).fst)) →
          (∃ o1 : Option Ent,
            (((o.isSome) = (o1.isSome)) ∧
            (((o.getD (0, 0)).fst) = ((o1.getD (0, 0)).fst)) ∧
            (((o.getD (0, 0)).snd) = ((o1.getD (0, 0)).snd)) ∧
            (∀ c' : Cur,
              (∀ r : Option Ent,
                (((Prod.mk (c') (r)) = (moveC c o1 2)) →
                (K (SV.tup [(TV.agg [(At.val (Value.int IntKind.i64 ((r.getD (0, 0)).fst))), (At.val (Value.int IntKind.i64 ((r.getD (0, 0)).snd)))]), (TV.at (At.val (Value.int IntKind.i64 (errE r))))]) [(Chunk.box [(At.ptr 1 0), (At.val (Value.int IntKind.u32 (c'.root))), (At.val (Value.int IntKind.i64 (c'.lo))), (At.val (Value.int IntKind.i64 (c'.hi))), (At.val (Value.int IntKind.i64 (c'.place))), (At.val (Value.int IntKind.i64 (c'.ek))), (At.val (Value.int IntKind.i64 (c'.ev))), (At.val (Value.bool (c'.closed)))]), (Chunk.box [(At.ptr 2 0), (At.slc 3), (At.slc 4), (At.val (Value.int IntKind.u64 (S'.reads)))]), (Chunk.box [(At.slc 5), (At.slc 6), (At.slc 7), (At.val (Value.int IntKind.u32 (S'.fresh)))]), (Chunk.row true (EC.node) (S'.nodes)), (Chunk.row true (EC.int) (S'.counts)), (Chunk.row true (EC.bool) (S'.used)), (Chunk.row true (EC.u32) (S'.gen)), (Chunk.row true (EC.u32) (S'.rel))] [0, 1])))))))))))))) ∧
  (((∃ hs : List Int,
    (∃ t : Tr,
      ((Wf S hs) ∧
      (Rep S t c.root) ∧
      (t.size ≤ 1000000) ∧
      (S.reads + (↑t.size : Int) ≤ 3000000000000000000) ∧
      (∀ S' : Arn,
        (∀ o : Option Ent,
          (((S') = (rdS S (lsT t (fun k => decide (k ≥ if c.lo > key then c.lo else key)) none).snd)) →
          (((o) = ((lsT t (fun k => decide (k ≥ if c.lo > key then c.lo else key)) none).fst)) →
          (∃ o1 : Option Ent,
            (((o.isSome) = (o1.isSome)) ∧
            (((o.getD (0, 0)).fst) = ((o1.getD (0, 0)).fst)) ∧
            (((o.getD (0, 0)).snd) = ((o1.getD (0, 0)).snd)) ∧
            (∀ c' : Cur,
              (∀ r : Option Ent,
                (((Prod.mk (c') (r)) = (moveC c o1 2)) →
                (K (SV.tup [(TV.agg [(At.val (Value.int IntKind.i64 ((r.getD (0, 0)).fst))), (At.val (Value.int IntKind.i64 ((r.getD (0, 0)).snd)))]), (TV.at (At.val (Value.int IntKind.i64 (errE r))))]) [(Chunk.box [(At.ptr 1 0), (At.val (Value.int IntKind.u32 (c'.root))), (At.val (Value.int IntKind.i64 (c'.lo))), (At.val (Value.int IntKind.i64 (c'.hi))), (At.val (Value.int IntKind.i64 (c'.place))), (At.val (Value.int IntKind.i64 (c'.ek))), (At.val (Value.int IntKind.i64 (c'.ev))), (At.val (Value.bool (c'.closed)))]), (Chunk.box [(At.ptr 2 0), (At.slc 3), (At.slc 4), (At.val (Value.int IntKind.u64 (S'.reads)))]), (Chunk.box [(At.slc 5), (At.slc 6), (At.slc 7), (At.val (Value.int IntKind.u32 (S'.fresh)))]), (Chunk.row true (EC.node) (S'.nodes)), (Chunk.row true (EC.int) (S'.counts)), (Chunk.row true (EC.bool) (S'.used)), (Chunk.row true (EC.u32) (S'.gen)), (Chunk.row true (EC.u32) (S'.rel))] [0, 1]))))))))))))) ∧
  (∃ hs : List Int,
    (∃ t : Tr,
      ((Wf S hs) ∧
      (Rep S t c.root) ∧
      (t.size ≤ 1000000) ∧
      (S.reads + (↑t.size : Int) ≤ 3000000000000000000) ∧
      (∀ S' : Arn,
        (∀ o : Option Ent,
          (((S') = (rdS S (lsT t (fun k => decide (k ≥ if c.lo > key then c.lo else key)) none).snd)) →
          (((o) = ((lsT t (fun k => decide (k ≥ if c.lo > key then c.lo else key)) none).fst)) →
          (∃ o1 : Option Ent,
            (((o.isSome) = (o1.isSome)) ∧
            (((o.getD (0, 0)).fst) = ((o1.getD (0, 0)).fst)) ∧
            (((o.getD (0, 0)).snd) = ((o1.getD (0, 0)).snd)) ∧
            (∀ c' : Cur,
              (∀ r : Option Ent,
                (((Prod.mk (c') (r)) = (moveC c o1 2)) →
                (K (SV.tup [(TV.agg [(At.val (Value.int IntKind.i64 ((r.getD (0, 0)).fst))), (At.val (Value.int IntKind.i64 ((r.getD (0, 0)).snd)))]), (TV.at (At.val (Value.int IntKind.i64 (errE r))))]) [(Chunk.box [(At.ptr 1 0), (At.val (Value.int IntKind.u32 (c'.root))), (At.val (Value.int IntKind.i64 (c'.lo))), (At.val (Value.int IntKind.i64 (c'.hi))), (At.val (Value.int IntKind.i64 (c'.place))), (At.val (Value.int IntKind.i64 (c'.ek))), (At.val (Value.int IntKind.i64 (c'.ev))), (At.val (Value.bool (c'.closed)))]), (Chunk.box [(At.ptr 2 0), (At.slc 3), (At.slc 4), (At.val (Value.int IntKind.u64 (S'.reads)))]), (Chunk.box [(At.slc 5), (At.slc 6), (At.slc 7), (At.val (Value.int IntKind.u32 (S'.fresh)))]), (Chunk.row true (EC.node) (S'.nodes)), (Chunk.row true (EC.int) (S'.counts)), (Chunk.row true (EC.bool) (S'.used)), (Chunk.row true (EC.u32) (S'.gen)), (Chunk.row true (EC.u32) (S'.rel))] [0, 1])))))))))))))) ∧
  (∃ hs : List Int,
    (∃ t : Tr,
      ((Wf S hs) ∧
      (Rep S t c.root) ∧
      (t.size ≤ 1000000) ∧
      (S.reads + (↑t.size : Int) ≤ 3000000000000000000) ∧
      (∀ S' : Arn,
        (∀ o : Option Ent,
          (((S') = (rdS S (lsT t (fun k => decide (k ≥ if c.lo > key then c.lo else key)) none).snd)) →
          (((o) = ((lsT t (fun k => decide (k ≥ if c.lo > key then c.lo else key)) none).fst)) →
          (∃ o1 : Option Ent,
            (((o.isSome) = (o1.isSome)) ∧
            (((o.getD (0, 0)).fst) = ((o1.getD (0, 0)).fst)) ∧
            (((o.getD (0, 0)).snd) = ((o1.getD (0, 0)).snd)) ∧
            (∀ c' : Cur,
              (∀ r : Option Ent,
                (((Prod.mk (c') (r)) = (moveC c o1 2)) →
                (K (SV.tup [(TV.agg [(At.val (Value.int IntKind.i64 ((r.getD (0, 0)).fst))), (At.val (Value.int IntKind.i64 ((r.getD (0, 0)).snd)))]), (TV.at (At.val (Value.int IntKind.i64 (errE r))))]) [(Chunk.box [(At.ptr 1 0), (At.val (Value.int IntKind.u32 (c'.root))), (At.val (Value.int IntKind.i64 (c'.lo))), (At.val (Value.int IntKind.i64 (c'.hi))), (At.val (Value.int IntKind.i64 (c'.place))), (At.val (Value.int IntKind.i64 (c'.ek))), (At.val (Value.int IntKind.i64 (c'.ev))), (At.val (Value.bool (c'.closed)))]), (Chunk.box [(At.ptr 2 0), (At.slc 3), (At.slc 4), (At.val (Value.int IntKind.u64 (S'.reads)))]), (Chunk.box [(At.slc 5), (At.slc 6), (At.slc 7), (At.val (Value.int IntKind.u32 (S'.fresh)))]), (Chunk.row true (EC.node) (S'.nodes)), (Chunk.row true (EC.int) (S'.counts)), (Chunk.row true (EC.bool) (S'.used)), (Chunk.row true (EC.u32) (S'.gen)), (Chunk.row true (EC.u32) (S'.rel))] [0, 1])))))))))))))) ∧
  (∃ hs : List Int,
    (∃ t : Tr,
      ((Wf S hs) ∧
      (Rep S t c.root) ∧
      (t.size ≤ 1000000) ∧
      (S.reads + (↑t.size : Int) ≤ 3000000000000000000) ∧
      (∀ S' : Arn,
        (∀ o : Option Ent,
          (((S') = (rdS S (lsT t (fun k => decide (k ≥ if c.lo > key then c.lo else key)) none).snd)) →
          (((o) = ((lsT t (fun k => decide (k ≥ if c.lo > key then c.lo else key)) none).fst)) →
          (∃ o1 : Option Ent,
            (((o.isSome) = (o1.isSome)) ∧
            (((o.getD (0, 0)).fst) = ((o1.getD (0, 0)).fst)) ∧
            (((o.getD (0, 0)).snd) = ((o1.getD (0, 0)).snd)) ∧
            (∀ c' : Cur,
              (∀ r : Option Ent,
                (((Prod.mk (c') (r)) = (moveC c o1 2)) →
                (K (SV.tup [(TV.agg [(At.val (Value.int IntKind.i64 ((r.getD (0, 0)).fst))), (At.val (Value.int IntKind.i64 ((r.getD (0, 0)).snd)))]), (TV.at (At.val (Value.int IntKind.i64 (errE r))))]) [(Chunk.box [(At.ptr 1 0), (At.val (Value.int IntKind.u32 (c'.root))), (At.val (Value.int IntKind.i64 (c'.lo))), (At.val (Value.int IntKind.i64 (c'.hi))), (At.val (Value.int IntKind.i64 (c'.place))), (At.val (Value.int IntKind.i64 (c'.ek))), (At.val (Value.int IntKind.i64 (c'.ev))), (At.val (Value.bool (c'.closed)))]), (Chunk.box [(At.ptr 2 0), (At.slc 3), (At.slc 4), (At.val (Value.int IntKind.u64 (S'.reads)))]), (Chunk.box [(At.slc 5), (At.slc 6), (At.slc 7), (At.val (Value.int IntKind.u32 (S'.fresh)))]), (Chunk.row true (EC.node) (S'.nodes)), (Chunk.row true (EC.int) (S'.counts)), (Chunk.row true (EC.bool) (S'.used)), (Chunk.row true (EC.u32) (S'.gen)), (Chunk.row true (EC.u32) (S'.rel))] [0, 1]))))))))))))) ∧
  (∃ hs : List Int,
    (∃ t : Tr,
      ((Wf S hs) ∧
      (Rep S t c.root) ∧
      (t.size ≤ 1000000) ∧
      (S.reads + (↑t.size : Int) ≤ 3000000000000000000) ∧
      (∀ S' : Arn,
        (∀ o : Option Ent,
          (((S') = (rdS S (lsT t (fun k => decide (k ≥ if c.lo > key then c.lo else key)) none).snd)) →
          (((o) = ((lsT t (fun k => decide (k ≥ if c.lo > key then c.lo else key)) none).fst)) →
          (∃ o1 : Option Ent,
            (((o.isSome) = (o1.isSome)) ∧
            (((o.getD (0, 0)).fst) = ((o1.getD (0, 0)).fst)) ∧
            (((o.getD (0, 0)).snd) = ((o1.getD (0, 0)).snd)) ∧
            (∀ c' : Cur,
              (∀ r : Option Ent,
                (((Prod.mk (c') (r)) = (moveC c o1 2)) →
                (K (SV.tup [(TV.agg [(At.val (Value.int IntKind.i64 ((r.getD (0, 0)).fst))), (At.val (Value.int IntKind.i64 ((r.getD (0, 0)).snd)))]), (TV.at (At.val (Value.int IntKind.i64 (errE r))))]) [(Chunk.box [(At.ptr 1 0), (At.val (Value.int IntKind.u32 (c'.root))), (At.val (Value.int IntKind.i64 (c'.lo))), (At.val (Value.int IntKind.i64 (c'.hi))), (At.val (Value.int IntKind.i64 (c'.place))), (At.val (Value.int IntKind.i64 (c'.ek))), (At.val (Value.int IntKind.i64 (c'.ev))), (At.val (Value.bool (c'.closed)))]), (Chunk.box [(At.ptr 2 0), (At.slc 3), (At.slc 4), (At.val (Value.int IntKind.u64 (S'.reads)))]), (Chunk.box [(At.slc 5), (At.slc 6), (At.slc 7), (At.val (Value.int IntKind.u32 (S'.fresh)))]), (Chunk.row true (EC.node) (S'.nodes)), (Chunk.row true (EC.int) (S'.counts)), (Chunk.row true (EC.bool) (S'.used)), (Chunk.row true (EC.u32) (S'.gen)), (Chunk.row true (EC.u32) (S'.rel))] [0, 1])))))))))))))) ∧
  ((((∃ hs : List Int,
    (∃ t : Tr,
      ((Wf S hs) ∧
      (Rep S t c.root) ∧
      (t.size ≤ 1000000) ∧
      (S.reads + (↑t.size : Int) ≤ 3000000000000000000) ∧
      (∀ S' : Arn,
        (∀ o : Option Ent,
          (((S') = (rdS S (lsT t (fun k => decide (k ≥ if c.lo > key then c.lo else key)) none).snd)) →
          (((o) = ((lsT t (fun k => decide (k ≥ if c.lo > key then c.lo else key)) none).fst)) →
          (∃ o1 : Option Ent,
            (((o.isSome) = (o1.isSome)) ∧
            (((o.getD (0, 0)).fst) = ((o1.getD (0, 0)).fst)) ∧
            (((o.getD (0, 0)).snd) = ((o1.getD (0, 0)).snd)) ∧
            (∀ c' : Cur,
              (∀ r : Option Ent,
                (((Prod.mk (c') (r)) = (moveC c o1 2)) →
                (K (SV.tup [(TV.agg [(At.val (Value.int IntKind.i64 ((r.getD (0, 0)).fst))), (At.val (Value.int IntKind.i64 ((r.getD (0, 0)).snd)))]), (TV.at (At.val (Value.int IntKind.i64 (errE r))))]) [(Chunk.box [(At.ptr 1 0), (At.val (Value.int IntKind.u32 (c'.root))), (At.val (Value.int IntKind.i64 (c'.lo))), (At.val (Value.int IntKind.i64 (c'.hi))), (At.val (Value.int IntKind.i64 (c'.place))), (At.val (Value.int IntKind.i64 (c'.ek))), (At.val (Value.int IntKind.i64 (c'.ev))), (At.val (Value.bool (c'.closed)))]), (Chunk.box [(At.ptr 2 0), (At.slc 3), (At.slc 4), (At.val (Value.int IntKind.u64 (S'.reads)))]), (Chunk.box [(At.slc 5), (At.slc 6), (At.slc 7), (At.val (Value.int IntKind.u32 (S'.fresh)))]), (Chunk.row true (EC.node) (S'.nodes)), (Chunk.row true (EC.int) (S'.counts)), (Chunk.row true (EC.bool) (S'.used)), (Chunk.row true (EC.u32) (S'.gen)), (Chunk.row true (EC.u32) (S'.rel))] [0, 1]))))))))))))) ∧
  (∃ hs : List Int,
    (∃ t : Tr,
      ((Wf S hs) ∧
      (Rep S t c.root) ∧
      (t.size ≤ 1000000) ∧
      (S.reads + (↑t.size : Int) ≤ 3000000000000000000) ∧
      (∀ S' : Arn,
        (∀ o : Option Ent,
          (((S') = (rdS S (lsT t (fun k => decide (k ≥ if c.lo > key then c.lo else key)) none).snd)) →
          (((o) = ((lsT t (fun k => decide (k ≥ if c.lo > key then c.lo else key)) none).fst)) →
          (∃ o1 : Option Ent,
            (((o.isSome) = (o1.isSome)) ∧
            (((o.getD (0, 0)).fst) = ((o1.getD (0, 0)).fst)) ∧
            (((o.getD (0, 0)).snd) = ((o1.getD (0, 0)).snd)) ∧
            (∀ c' : Cur,
              (∀ r : Option Ent,
                (((Prod.mk (c') (r)) = (moveC c o1 2)) →
                (K (SV.tup [(TV.agg [(At.val (Value.int IntKind.i64 ((r.getD (0, 0)).fst))), (At.val (Value.int IntKind.i64 ((r.getD (0, 0)).snd)))]), (TV.at (At.val (Value.int IntKind.i64 (errE r))))]) [(Chunk.box [(At.ptr 1 0), (At.val (Value.int IntKind.u32 (c'.root))), (At.val (Value.int IntKind.i64 (c'.lo))), (At.val (Value.int IntKind.i64 (c'.hi))), (At.val (Value.int IntKind.i64 (c'.place))), (At.val (Value.int IntKind.i64 (c'.ek))), (At.val (Value.int IntKind.i64 (c'.ev))), (At.val (Value.bool (c'.closed)))]), (Chunk.box [(At.ptr 2 0), (At.slc 3), (At.slc 4), (At.val (Value.int IntKind.u64 (S'.reads)))]), (Chunk.box [(At.slc 5), (At.slc 6), (At.slc 7), (At.val (Value.int IntKind.u32 (S'.fresh)))]), (Chunk.row true (EC.node) (S'.nodes)), (Chunk.row true (EC.int) (S'.counts)), (Chunk.row true (EC.bool) (S'.used)), (Chunk.row true (EC.u32) (S'.gen)), (Chunk.row true (EC.u32) (S'.rel))] [0, 1])))))))))))))) ∧
  (∃ hs : List Int,
    (∃ t : Tr,
      ((Wf S hs) ∧
      (Rep S t c.root) ∧
      (t.size ≤ 1000000) ∧
      (S.reads + (↑t.size : Int) ≤ 3000000000000000000) ∧
      (∀ S' : Arn,
        (∀ o : Option Ent,
          (((S') = (rdS S (lsT t (fun k => decide (k ≥ if c.lo > key then c.lo else key)) none).snd)) →
          (((o) = ((lsT t (fun k => decide (k ≥ if c.lo > key then c.lo else key)) none).fst)) →
          (∃ o1 : Option Ent,
            (((o.isSome) = (o1.isSome)) ∧
            (((o.getD (0, 0)).fst) = ((o1.getD (0, 0)).fst)) ∧
            (((o.getD (0, 0)).snd) = ((o1.getD (0, 0)).snd)) ∧
            (∀ c' : Cur,
              (∀ r : Option Ent,
                (((Prod.mk (c') (r)) = (moveC c o1 2)) →
                (K (SV.tup [(TV.agg [(At.val (Value.int IntKind.i64 ((r.getD (0, 0)).fst))), (At.val (Value.int IntKind.i64 ((r.getD (0, 0)).snd)))]), (TV.at (At.val (Value.int IntKind.i64 (errE r))))]) [(Chunk.box [(At.ptr 1 0), (At.val (Value.int IntKind.u32 (c'.root))), (At.val (Value.int IntKind.i64 (c'.lo))), (At.val (Value.int IntKind.i64 (c'.hi))), (At.val (Value.int IntKind.i64 (c'.place))), (At.val (Value.int IntKind.i64 (c'.ek))), (At.val (Value.int IntKind.i64 (c'.ev))), (At.val (Value.bool (c'.closed)))]), (Chunk.box [(At.ptr 2 0), (At.slc 3), (At.slc 4), (At.val (Value.int IntKind.u64 (S'.reads)))]), (Chunk.box [(At.slc 5), (At.slc 6), (At.slc 7), (At.val (Value.int IntKind.u32 (S'.fresh)))]), (Chunk.row true (EC.node) (S'.nodes)), (Chunk.row true (EC.int) (S'.counts)), (Chunk.row true (EC.bool) (S'.used)), (Chunk.row true (EC.u32) (S'.gen)), (Chunk.row true (EC.u32) (S'.rel))] [0, 1])))))))))))))) ∧
  (((∃ hs : List Int,
    (∃ t : Tr,
      ((Wf S hs) ∧
      (Rep S t c.root) ∧
      (t.size ≤ 1000000) ∧
      (S.reads + (↑t.size : Int) ≤ 3000000000000000000) ∧
      (∀ S' : Arn,
        (∀ o : Option Ent,
          (((S') = (rdS S (lsT t (fun k => decide (k ≥ if c.lo > key then c.lo else key)) none).snd)) →
          (((o) = ((lsT t (fun k => decide (k ≥ if c.lo > key then c.lo else key)) none).fst)) →
          (∃ o1 : Option Ent,
            (((o.isSome) = (o1.isSome)) ∧
            (((o.getD (0, 0)).fst) = ((o1.getD (0, 0)).fst)) ∧
            (((o.getD (0, 0)).snd) = ((o1.getD (0, 0)).snd)) ∧
            (∀ c' : Cur,
              (∀ r : Option Ent,
                (((Prod.mk (c') (r)) = (moveC c o1 2)) →
                (K (SV.tup [(TV.agg [(At.val (Value.int IntKind.i64 ((r.getD (0, 0)).fst))), (At.val (Value.int IntKind.i64 ((r.getD (0, 0)).snd)))]), (TV.at (At.val (Value.int IntKind.i64 (errE r))))]) [(Chunk.box [(At.ptr 1 0), (At.val (Value.int IntKind.u32 (c'.root))), (At.val (Value.int IntKind.i64 (c'.lo))), (At.val (Value.int IntKind.i64 (c'.hi))), (At.val (Value.int IntKind.i64 (c'.place))), (At.val (Value.int IntKind.i64 (c'.ek))), (At.val (Value.int IntKind.i64 (c'.ev))), (At.val (Value.bool (c'.closed)))]), (Chunk.box [(At.ptr 2 0), (At.slc 3), (At.slc 4), (At.val (Value.int IntKind.u64 (S'.reads)))]), (Chunk.box [(At.slc 5), (At.slc 6), (At.slc 7), (At.val (Value.int IntKind.u32 (S'.fresh)))]), (Chunk.row true (EC.node) (S'.nodes)), (Chunk.row true (EC.int) (S'.counts)), (Chunk.row true (EC.bool) (S'.used)), (Chunk.row true (EC.u32) (S'.gen)), (Chunk.row true (EC.u32) (S'.rel))] [0, 1]))))))))))))) ∧
  (∃ hs : List Int,
    (∃ t : Tr,
      ((Wf S hs) ∧
      (Rep S t c.root) ∧
      (t.size ≤ 1000000) ∧
      (S.reads + (↑t.size : Int) ≤ 3000000000000000000) ∧
      (∀ S' : Arn,
        (∀ o : Option Ent,
          (((S') = (rdS S (lsT t (fun k => decide (k ≥ if c.lo > key then c.lo else key)) none).snd)) →
          (((o) = ((lsT t (fun k => decide (k ≥ if c.lo > key then c.lo else key)) none).fst)) →
          (∃ o1 : Option Ent,
            (((o.isSome) = (o1.isSome)) ∧
            (((o.getD (0, 0)).fst) = ((o1.getD (0, 0)).fst)) ∧
            (((o.getD (0, 0)).snd) = ((o1.getD (0, 0)).snd)) ∧
            (∀ c' : Cur,
              (∀ r : Option Ent,
                (((Prod.mk (c') (r)) = (moveC c o1 2)) →
                (K (SV.tup [(TV.agg [(At.val (Value.int IntKind.i64 ((r.getD (0, 0)).fst))), (At.val (Value.int IntKind.i64 ((r.getD (0, 0)).snd)))]), (TV.at (At.val (Value.int IntKind.i64 (errE r))))]) [(Chunk.box [(At.ptr 1 0), (At.val (Value.int IntKind.u32 (c'.root))), (At.val (Value.int IntKind.i64 (c'.lo))), (At.val (Value.int IntKind.i64 (c'.hi))), (At.val (Value.int IntKind.i64 (c'.place))), (At.val (Value.int IntKind.i64 (c'.ek))), (At.val (Value.int IntKind.i64 (c'.ev))), (At.val (Value.bool (c'.closed)))]), (Chunk.box [(At.ptr 2 0), (At.slc 3), (At.slc 4), (At.val (Value.int IntKind.u64 (S'.reads)))]), (Chunk.box [(At.slc 5), (At.slc 6), (At.slc 7), (At.val (Value.int IntKind.u32 (S'.fresh)))]), (Chunk.row true (EC.node) (S'.nodes)), (Chunk.row true (EC.int) (S'.counts)), (Chunk.row true (EC.bool) (S'.used)), (Chunk.row true (EC.u32) (S'.gen)), (Chunk.row true (EC.u32) (S'.rel))] [0, 1])))))))))))))) ∧
  (∃ hs : List Int,
    (∃ t : Tr,
      ((Wf S hs) ∧
      (Rep S t c.root) ∧
      (t.size ≤ 1000000) ∧
      (S.reads + (↑t.size : Int) ≤ 3000000000000000000) ∧
      (∀ S' : Arn,
        (∀ o : Option Ent,
          (((S') = (rdS S (lsT t (fun k => decide (k ≥ if c.lo > key then c.lo else key)) none).snd)) →
          (((o) = ((lsT t (fun k => decide (k ≥ if c.lo > key then c.lo else key)) none).fst)) →
          (∃ o1 : Option Ent,
            (((o.isSome) = (o1.isSome)) ∧
            (((o.getD (0, 0)).fst) = ((o1.getD (0, 0)).fst)) ∧
            (((o.getD (0, 0)).snd) = ((o1.getD (0, 0)).snd)) ∧
            (∀ c' : Cur,
              (∀ r : Option Ent,
                (((Prod.mk (c') (r)) = (moveC c o1 2)) →
                (K (SV.tup [(TV.agg [(At.val (Value.int IntKind.i64 ((r.getD (0, 0)).fst))), (At.val (Value.int IntKind.i64 ((r.getD (0, 0)).snd)))]), (TV.at (At.val (Value.int IntKind.i64 (errE r))))]) [(Chunk.box [(At.ptr 1 0), (At.val (Value.int IntKind.u32 (c'.root))), (At.val (Value.int IntKind.i64 (c'.lo))), (At.val (Value.int IntKind.i64 (c'.hi))), (At.val (Value.int IntKind.i64 (c'.place))), (At.val (Value.int IntKind.i64 (c'.ek))), (At.val (Value.int IntKind.i64 (c'.ev))), (At.val (Value.bool (c'.closed)))]), (Chunk.box [(At.ptr 2 0), (At.slc 3), (At.slc 4), (At.val (Value.int IntKind.u64 (S'.reads)))]), (Chunk.box [(At.slc 5), (At.slc 6), (At.slc 7), (At.val (Value.int IntKind.u32 (S'.fresh)))]), (Chunk.row true (EC.node) (S'.nodes)), (Chunk.row true (EC.int) (S'.counts)), (Chunk.row true (EC.bool) (S'.used)), (Chunk.row true (EC.u32) (S'.gen)), (Chunk.row true (EC.u32) (S'.rel))] [0, 1])))))))))))))) ∧
  (∃ hs : List Int,
    (∃ t : Tr,
      ((Wf S hs) ∧
      (Rep S t c.root) ∧
      (t.size ≤ 1000000) ∧
      (S.reads + (↑t.size : Int) ≤ 3000000000000000000) ∧
      (∀ S' : Arn,
        (∀ o : Option Ent,
          (((S') = (rdS S (lsT t (fun k => decide (k ≥ if c.lo > key then c.lo else key)) none).snd)) →
          (((o) = ((lsT t (fun k => decide (k ≥ if c.lo > key then c.lo else key)) none).fst)) →
          (∃ o1 : Option Ent,
            (((o.isSome) = (o1.isSome)) ∧
            (((o.getD (0, 0)).fst) = ((o1.getD (0, 0)).fst)) ∧
            (((o.getD (0, 0)).snd) = ((o1.getD (0, 0)).snd)) ∧
            (∀ c' : Cur,
              (∀ r : Option Ent,
                (((Prod.mk (c') (r)) = (moveC c o1 2)) →
                (K (SV.tup [(TV.agg [(At.val (Value.int IntKind.i64 ((r.getD (0, 0)).fst))), (At.val (Value.int IntKind.i64 ((r.getD (0, 0)).snd)))]), (TV.at (At.val (Value.int IntKind.i64 (errE r))))]) [(Chunk.box [(At.ptr 1 0), (At.val (Value.int IntKind.u32 (c'.root))), (At.val (Value.int IntKind.i64 (c'.lo))), (At.val (Value.int IntKind.i64 (c'.hi))), (At.val (Value.int IntKind.i64 (c'.place))), (At.val (Value.int IntKind.i64 (c'.ek))), (At.val (Value.int IntKind.i64 (c'.ev))), (At.val (Value.bool (c'.closed)))]), (Chunk.box [(At.ptr 2 0), (At.slc 3), (At.slc 4), (At.val (Value.int IntKind.u64 (S'.reads)))]), (Chunk.box [(At.slc 5), (At.slc 6), (At.slc 7), (At.val (Value.int IntKind.u32 (S'.fresh)))]), (Chunk.row true (EC.node) (S'.nodes)), (Chunk.row true (EC.int) (S'.counts)), (Chunk.row true (EC.bool) (S'.used)), (Chunk.row true (EC.u32) (S'.gen)), (Chunk.row true (EC.u32) (S'.rel))] [0, 1]))))))))))))) ∧
  (∃ hs : List Int,
    (∃ t : Tr,
      ((Wf S hs) ∧
      (Rep S t c.root) ∧
      (t.size ≤ 1000000) ∧
      (S.reads + (↑t.size : Int) ≤ 3000000000000000000) ∧
      (∀ S' : Arn,
        (∀ o : Option Ent,
          (((S') = (rdS S (lsT t (fun k => decide (k ≥ if c.lo > key then c.lo else key)) none).snd)) →
          (((o) = ((lsT t (fun k => decide (k ≥ if c.lo > key then c.lo else key)) none).fst)) →
          (∃ o1 : Option Ent,
            (((o.isSome) = (o1.isSome)) ∧
            (((o.getD (0, 0)).fst) = ((o1.getD (0, 0)).fst)) ∧
            (((o.getD (0, 0)).snd) = ((o1.getD (0, 0)).snd)) ∧
            (∀ c' : Cur,
              (∀ r : Option Ent,
                (((Prod.mk (c') (r)) = (moveC c o1 2)) →
                (K (SV.tup [(TV.agg [(At.val (Value.int IntKind.i64 ((r.getD (0, 0)).fst))), (At.val (Value.int IntKind.i64 ((r.getD (0, 0)).snd)))]), (TV.at (At.val (Value.int IntKind.i64 (errE r))))]) [(Chunk.box [(At.ptr 1 0), (At.val (Value.int IntKind.u32 (c'.root))), (At.val (Value.int IntKind.i64 (c'.lo))), (At.val (Value.int IntKind.i64 (c'.hi))), (At.val (Value.int IntKind.i64 (c'.place))), (At.val (Value.int IntKind.i64 (c'.ek))), (At.val (Value.int IntKind.i64 (c'.ev))), (At.val (Value.bool (c'.closed)))]), (Chunk.box [(At.ptr 2 0), (At.slc 3), (At.slc 4), (At.val (Value.int IntKind.u64 (S'.reads)))]), (Chunk.box [(At.slc 5), (At.slc 6), (At.slc 7), (At.val (Value.int IntKind.u32 (S'.fresh)))]), (Chunk.row true (EC.node) (S'.nodes)), (Chunk.row true (EC.int) (S'.counts)), (Chunk.row true (EC.bool) (S'.used)), (Chunk.row true (EC.u32) (S'.gen)), (Chunk.row true (EC.u32) (S'.rel))] [0, 1])))))))))))))) ∧
  ((∃ hs : List Int,
    (∃ t : Tr,
      ((Wf S hs) ∧
      (Rep S t c.root) ∧
      (t.size ≤ 1000000) ∧
      (S.reads + (↑t.size : Int) ≤ 3000000000000000000) ∧
      (∀ S' : Arn,
        (∀ o : Option Ent,
          (((S') = (rdS S (lsT t (fun k => decide (k ≥ if c.lo > key then c.lo else key)) none).snd)) →
          (((o) = ((lsT t (fun k => decide (k ≥ if c.lo > key then c.lo else key)) none).fst)) →
          (∃ o1 : Option Ent,
            (((o.isSome) = (o1.isSome)) ∧
            (((o.getD (0, 0)).fst) = ((o1.getD (0, 0)).fst)) ∧
            (((o.getD (0, 0)).snd) = ((o1.getD (0, 0)).snd)) ∧
            (∀ c' : Cur,
              (∀ r : Option Ent,
                (((Prod.mk (c') (r)) = (moveC c o1 2)) →
                (K (SV.tup [(TV.agg [(At.val (Value.int IntKind.i64 ((r.getD (0, 0)).fst))), (At.val (Value.int IntKind.i64 ((r.getD (0, 0)).snd)))]), (TV.at (At.val (Value.int IntKind.i64 (errE r))))]) [(Chunk.box [(At.ptr 1 0), (At.val (Value.int IntKind.u32 (c'.root))), (At.val (Value.int IntKind.i64 (c'.lo))), (At.val (Value.int IntKind.i64 (c'.hi))), (At.val (Value.int IntKind.i64 (c'.place))), (At.val (Value.int IntKind.i64 (c'.ek))), (At.val (Value.int IntKind.i64 (c'.ev))), (At.val (Value.bool (c'.closed)))]), (Chunk.box [(At.ptr 2 0), (At.slc 3), (At.slc 4), (At.val (Value.int IntKind.u64 (S'.reads)))]), (Chunk.box [(At.slc 5), (At.slc 6), (At.slc 7), (At.val (Value.int IntKind.u32 (S'.fresh)))]), (Chunk.row true (EC.node) (S'.nodes)), (Chunk.row true (EC.int) (S'.counts)), (Chunk.row true (EC.bool) (S'.used)), (Chunk.row true (EC.u32) (S'.gen)), (Chunk.row true (EC.u32) (S'.rel))] [0, 1]))))))))))))) ∧
  (∃ hs : List Int,
    (∃ t : Tr,
      ((Wf S hs) ∧
      (Rep S t c.root) ∧
      (t.size ≤ 1000000) ∧
      (S.reads + (↑t.size : Int) ≤ 3000000000000000000) ∧
      (∀ S' : Arn,
        (∀ o : Option Ent,
          (((S') = (rdS S (lsT t (fun k => decide (k ≥ if c.lo > key then c.lo else key)) none).snd)) →
          (((o) = ((lsT t (fun k => decide (k ≥ if c.lo > key then c.lo else key)) none).fst)) →
          (∃ o1 : Option Ent,
            (((o.isSome) = (o1.isSome)) ∧
            (((o.getD (0, 0)).fst) = ((o1.getD (0, 0)).fst)) ∧
            (((o.getD (0, 0)).snd) = ((o1.getD (0, 0)).snd)) ∧
            (∀ c' : Cur,
              (∀ r : Option Ent,
                (((Prod.mk (c') (r)) = (moveC c o1 2)) →
                (K (SV.tup [(TV.agg [(At.val (Value.int IntKind.i64 ((r.getD (0, 0)).fst))), (At.val (Value.int IntKind.i64 ((r.getD (0, 0)).snd)))]), (TV.at (At.val (Value.int IntKind.i64 (errE r))))]) [(Chunk.box [(At.ptr 1 0), (At.val (Value.int IntKind.u32 (c'.root))), (At.val (Value.int IntKind.i64 (c'.lo))), (At.val (Value.int IntKind.i64 (c'.hi))), (At.val (Value.int IntKind.i64 (c'.place))), (At.val (Value.int IntKind.i64 (c'.ek))), (At.val (Value.int IntKind.i64 (c'.ev))), (At.val (Value.bool (c'.closed)))]), (Chunk.box [(At.ptr 2 0), (At.slc 3), (At.slc 4), (At.val (Value.int IntKind.u64 (S'.reads)))]), (Chunk.box [(At.slc 5), (At.slc 6), (At.slc 7), (At.val (Value.int IntKind.u32 (S'.fresh)))]), (Chunk.row true (EC.node) (S'.nodes)), (Chunk.row true (EC.int) (S'.counts)), (Chunk.row true (EC.bool) (S'.used)), (Chunk.row true (EC.u32) (S'.gen)), (Chunk.row true (EC.u32) (S'.rel))] [0, 1])))))))))))))) ∧
  ((∃ hs : List Int,
    (∃ t : Tr,
      ((Wf S hs) ∧
      (Rep S t c.root) ∧
      (t.size ≤ 1000000) ∧
      (S.reads + (↑t.size : Int) ≤ 3000000000000000000) ∧
      (∀ S' : Arn,
        (∀ o : Option Ent,
          (((S') = (rdS S (lsT t (fun k => decide (k ≥ if c.lo > key then c.lo else key)) none).snd)) →
          (((o) = ((lsT t (fun k => decide (k ≥ if c.lo > key then c.lo else key)) none).fst)) →
          (∃ o1 : Option Ent,
            (((o.isSome) = (o1.isSome)) ∧
            (((o.getD (0, 0)).fst) = ((o1.getD (0, 0)).fst)) ∧
            (((o.getD (0, 0)).snd) = ((o1.getD (0, 0)).snd)) ∧
            (∀ c' : Cur,
              (∀ r : Option Ent,
                (((Prod.mk (c') (r)) = (moveC c o1 2)) →
                (K (SV.tup [(TV.agg [(At.val (Value.int IntKind.i64 ((r.getD (0, 0)).fst))), (At.val (Value.int IntKind.i64 ((r.getD (0, 0)).snd)))]), (TV.at (At.val (Value.int IntKind.i64 (errE r))))]) [(Chunk.box [(At.ptr 1 0), (At.val (Value.int IntKind.u32 (c'.root))), (At.val (Value.int IntKind.i64 (c'.lo))), (At.val (Value.int IntKind.i64 (c'.hi))), (At.val (Value.int IntKind.i64 (c'.place))), (At.val (Value.int IntKind.i64 (c'.ek))), (At.val (Value.int IntKind.i64 (c'.ev))), (At.val (Value.bool (c'.closed)))]), (Chunk.box [(At.ptr 2 0), (At.slc 3), (At.slc 4), (At.val (Value.int IntKind.u64 (S'.reads)))]), (Chunk.box [(At.slc 5), (At.slc 6), (At.slc 7), (At.val (Value.int IntKind.u32 (S'.fresh)))]), (Chunk.row true (EC.node) (S'.nodes)), (Chunk.row true (EC.int) (S'.counts)), (Chunk.row true (EC.bool) (S'.used)), (Chunk.row true (EC.u32) (S'.gen)), (Chunk.row true (EC.u32) (S'.rel))] [0, 1]))))))))))))) ∧
  (∃ hs : List Int,
    (∃ t : Tr,
      ((Wf S hs) ∧
      (Rep S t c.root) ∧
      (t.size ≤ 1000000) ∧
      (S.reads + (↑t.size : Int) ≤ 3000000000000000000) ∧
      (∀ S' : Arn,
        (∀ o : Option Ent,
          (((S') = (rdS S (lsT t (fun k => decide (k ≥ if c.lo > key then c.lo else key)) none).snd)) →
          (((o) = ((lsT t (fun k => decide (k ≥ if c.lo > key then c.lo else key)) none).fst)) →
          (∃ o1 : Option Ent,
            (((o.isSome) = (o1.isSome)) ∧
            (((o.getD (0, 0)).fst) = ((o1.getD (0, 0)).fst)) ∧
            (((o.getD (0, 0)).snd) = ((o1.getD (0, 0)).snd)) ∧
            (∀ c' : Cur,
              (∀ r : Option Ent,
                (((Prod.mk (c') (r)) = (moveC c o1 2)) →
                (K (SV.tup [(TV.agg [(At.val (Value.int IntKind.i64 ((r.getD (0, 0)).fst))), (At.val (Value.int IntKind.i64 ((r.getD (0, 0)).snd)))]), (TV.at (At.val (Value.int IntKind.i64 (errE r))))]) [(Chunk.box [(At.ptr 1 0), (At.val (Value.int IntKind.u32 (c'.root))), (At.val (Value.int IntKind.i64 (c'.lo))), (At.val (Value.int IntKind.i64 (c'.hi))), (At.val (Value.int IntKind.i64 (c'.place))), (At.val (Value.int IntKind.i64 (c'.ek))), (At.val (Value.int IntKind.i64 (c'.ev))), (At.val (Value.bool (c'.closed)))]), (Chunk.box [(At.ptr 2 0), (At.slc 3), (At.slc 4), (At.val (Value.int IntKind.u64 (S'.reads)))]), (Chunk.box [(At.slc 5), (At.slc 6), (At.slc 7), (At.val (Value.int IntKind.u32 (S'.fresh)))]), (Chunk.row true (EC.node) (S'.nodes)), (Chunk.row true (EC.int) (S'.counts)), (Chunk.row true (EC.bool) (S'.used)), (Chunk.row true (EC.u32) (S'.gen)), (Chunk.row true (EC.u32) (S'.rel))] [0, 1])))))))))))))) ∧
  (∃ hs : List Int,
    (∃ t : Tr,
      ((Wf S hs) ∧
      (Rep S t c.root) ∧
      (t.size ≤ 1000000) ∧
      (S.reads + (↑t.size : Int) ≤ 3000000000000000000) ∧
      (∀ S' : Arn,
        (∀ o : Option Ent,
          (((S') = (rdS S (lsT t (fun k => decide (k ≥ if c.lo > key then c.lo else key)) none).snd)) →
          (((o) = ((lsT t (fun k => decide (k ≥ if c.lo > key then c.lo else key)) none).fst)) →
          (∃ o1 : Option Ent,
            (((o.isSome) = (o1.isSome)) ∧
            (((o.getD (0, 0)).fst) = ((o1.getD (0, 0)).fst)) ∧
            (((o.getD (0, 0)).snd) = ((o1.getD (0, 0)).snd)) ∧
            (∀ c' : Cur,
              (∀ r : Option Ent,
                (((Prod.mk (c') (r)) = (moveC c o1 2)) →
                (K (SV.tup [(TV.agg [(At.val (Value.int IntKind.i64 ((r.getD (0, 0)).fst))), (At.val (Value.int IntKind.i64 ((r.getD (0, 0)).snd)))]), (TV.at (At.val (Value.int IntKind.i64 (errE r))))]) [(Chunk.box [(At.ptr 1 0), (At.val (Value.int IntKind.u32 (c'.root))), (At.val (Value.int IntKind.i64 (c'.lo))), (At.val (Value.int IntKind.i64 (c'.hi))), (At.val (Value.int IntKind.i64 (c'.place))), (At.val (Value.int IntKind.i64 (c'.ek))), (At.val (Value.int IntKind.i64 (c'.ev))), (At.val (Value.bool (c'.closed)))]), (Chunk.box [(At.ptr 2 0), (At.slc 3), (At.slc 4), (At.val (Value.int IntKind.u64 (S'.reads)))]), (Chunk.box [(At.slc 5), (At.slc 6), (At.slc 7), (At.val (Value.int IntKind.u32 (S'.fresh)))]), (Chunk.row true (EC.node) (S'.nodes)), (Chunk.row true (EC.int) (S'.counts)), (Chunk.row true (EC.bool) (S'.used)), (Chunk.row true (EC.u32) (S'.gen)), (Chunk.row true (EC.u32) (S'.rel))] [0, 1]))))))))))))) ∧
  (∃ hs : List Int,
    (∃ t : Tr,
      ((Wf S hs) ∧
      (Rep S t c.root) ∧
      (t.size ≤ 1000000) ∧
      (S.reads + (↑t.size : Int) ≤ 3000000000000000000) ∧
      (∀ S' : Arn,
        (∀ o : Option Ent,
          (((S') = (rdS S (lsT t (fun k => decide (k ≥ if c.lo > key then c.lo else key)) none).snd)) →
          (((o) = ((lsT t (fun k => decide (k ≥ if c.lo > key then c.lo else key)) none).fst)) →
          (∃ o1 : Option Ent,
            (((o.isSome) = (o1.isSome)) ∧
            (((o.getD (0, 0)).fst) = ((o1.getD (0, 0)).fst)) ∧
            (((o.getD (0, 0)).snd) = ((o1.getD (0, 0)).snd)) ∧
            (∀ c' : Cur,
              (∀ r : Option Ent,
                (((Prod.mk (c') (r)) = (moveC c o1 2)) →
                (K (SV.tup [(TV.agg [(At.val (Value.int IntKind.i64 ((r.getD (0, 0)).fst))), (At.val (Value.int IntKind.i64 ((r.getD (0, 0)).snd)))]), (TV.at (At.val (Value.int IntKind.i64 (errE r))))]) [(Chunk.box [(At.ptr 1 0), (At.val (Value.int IntKind.u32 (c'.root))), (At.val (Value.int IntKind.i64 (c'.lo))), (At.val (Value.int IntKind.i64 (c'.hi))), (At.val (Value.int IntKind.i64 (c'.place))), (At.val (Value.int IntKind.i64 (c'.ek))), (At.val (Value.int IntKind.i64 (c'.ev))), (At.val (Value.bool (c'.closed)))]), (Chunk.box [(At.ptr 2 0), (At.slc 3), (At.slc 4), (At.val (Value.int IntKind.u64 (S'.reads)))]), (Chunk.box [(At.slc 5), (At.slc 6), (At.slc 7), (At.val (Value.int IntKind.u32 (S'.fresh)))]), (Chunk.row true (EC.node) (S'.nodes)), (Chunk.row true (EC.int) (S'.counts)), (Chunk.row true (EC.bool) (S'.used)), (Chunk.row true (EC.u32) (S'.gen)), (Chunk.row true (EC.u32) (S'.rel))] [0, 1])))))))))))))))) = _ by kernel_rfl) ?_
    refine brS_of (fun d => h1 d) fun d => ?_
    obtain ⟨hs, t, w, p, z1, z2, h⟩ := h2 d
    have leaf : (∃ hs : List Int,
    (∃ t : Tr,
      ((Wf S hs) ∧
      (Rep S t c.root) ∧
      (t.size ≤ 1000000) ∧
      (S.reads + (↑t.size : Int) ≤ 3000000000000000000) ∧
      (∀ S' : Arn,
        (∀ o : Option Ent,
          (((S') = (rdS S (lsT t (fun k => decide (k ≥ if c.lo > key then c.lo else key)) none).snd)) →
          (((o) = ((lsT t (fun k => decide (k ≥ if c.lo > key then c.lo else key)) none).fst)) →
          (∃ o1 : Option Ent,
            (((o.isSome) = (o1.isSome)) ∧
            (((o.getD (0, 0)).fst) = ((o1.getD (0, 0)).fst)) ∧
            (((o.getD (0, 0)).snd) = ((o1.getD (0, 0)).snd)) ∧
            (∀ c' : Cur,
              (∀ r : Option Ent,
                (((Prod.mk (c') (r)) = (moveC c o1 2)) →
                (K (SV.tup [(TV.agg [(At.val (Value.int IntKind.i64 ((r.getD (0, 0)).fst))), (At.val (Value.int IntKind.i64 ((r.getD (0, 0)).snd)))]), (TV.at (At.val (Value.int IntKind.i64 (errE r))))]) [(Chunk.box [(At.ptr 1 0), (At.val (Value.int IntKind.u32 (c'.root))), (At.val (Value.int IntKind.i64 (c'.lo))), (At.val (Value.int IntKind.i64 (c'.hi))), (At.val (Value.int IntKind.i64 (c'.place))), (At.val (Value.int IntKind.i64 (c'.ek))), (At.val (Value.int IntKind.i64 (c'.ev))), (At.val (Value.bool (c'.closed)))]), (Chunk.box [(At.ptr 2 0), (At.slc 3), (At.slc 4), (At.val (Value.int IntKind.u64 (S'.reads)))]), (Chunk.box [(At.slc 5), (At.slc 6), (At.slc 7), (At.val (Value.int IntKind.u32 (S'.fresh)))]), (Chunk.row true (EC.node) (S'.nodes)), (Chunk.row true (EC.int) (S'.counts)), (Chunk.row true (EC.bool) (S'.used)), (Chunk.row true (EC.u32) (S'.gen)), (Chunk.row true (EC.u32) (S'.rel))] [0, 1]))))))))))))) := ⟨hs, t, w, p, z1, z2, fun S' o e1 e2 => ⟨o, rfl, rfl, rfl, fun c' r e3 => h S' _ c' r e1 (lsT_le _ _ _) (by rw [e3, e2]; rfl)⟩⟩
    (repeat' first | exact leaf | refine And.intro ?_ ?_)
  exact ⟨aCu_find, ⟨frame C0.ok s_lu_ceil _, frame C0.ok s_move _, trivial⟩, kk ⟨root, lo, hi, place, ek, ev, closed⟩ ⟨us, gn, rl, fr, nd, ct, rd⟩ h.1 h.2⟩
theorem s_cu_close : SoundT C0 65 tCu_close := by
  refine .ofW W8 Try.func65 (by decide) rfl fun args H K h hB => ?_
  unfold tCu_close at h
  split at h <;> try exact h.elim
  unfold cuM at h
  split at h <;> try exact h.elim
  rename_i root lo hi place ek ev closed rd fr nd ct us gn rl
  have key : ∀ (c : Cur) (S : Arn), (c.closed = true → K (.one (.at (vI 6))) (chC c S) W8) → (c.closed = false → ∃ hs, Wf S (c.root :: hs) ∧ ∀ c' S', c' = { c with closed := true } → Wf S' hs → Kept S S' → K (.one (.at (vI 0))) (chC c' S') W8) → vc C0 aCu_close Try.f65 [.at (.ptr 0 0)] (chC c S) (normK 8 (wideK W8 K)) := fun c S h1 h2 => by
    refine Eq.mp (show (brS (c.closed)
  ((K (SV.one (TV.at (At.val (Value.int IntKind.i64 6)))) [(Chunk.box [(At.ptr 1 0), (At.val (Value.int IntKind.u32 (c.root))), (At.val (Value.int IntKind.i64 (c.lo))), (At.val (Value.int IntKind.i64 (c.hi))), (At.val (Value.int IntKind.i64 (c.place))), (At.val (Value.int IntKind.i64 (c.ek))), (At.val (Value.int IntKind.i64 (c.ev))), (At.val (Value.bool (c.closed)))]), (Chunk.box [(At.ptr 2 0), (At.slc 3), (At.slc 4), (At.val (Value.int IntKind.u64 (S.reads)))]), (Chunk.box [(At.slc 5), (At.slc 6), (At.slc 7), (At.val (Value.int IntKind.u32 (S.fresh)))]), (Chunk.row true (EC.node) (S.nodes)), (Chunk.row true (EC.int) (S.counts)), (Chunk.row true (EC.bool) (S.used)), (Chunk.row true (EC.u32) (S.gen)), (Chunk.row true (EC.u32) (S.rel))] [0, 1, 2, 3, 4, 5, 6, 7]))
  (((∃ hs : List Int,
    ((Wf S (c.root :: hs)) ∧
    (∀ S' : Arn,
      (∀ fr : Int,
        ((Wf S' hs) →
        ((Kept S S') →
        (((fr + (↑S'.nu : Int)) = ((↑S.nu : Int))) →
        (((1 < S.ct c.root) →
        (((S.us c.root) = true) →
        ((S') = (decS S c.root)))) →
        ((((S.us c.root) = false) →
        ((S') = (S))) →
        (K (SV.one (TV.at (At.val (Value.int IntKind.i64 0)))) [(Chunk.box [(At.ptr 1 0), (At.val (Value.int IntKind.u32 (c.root))), (At.val (Value.int IntKind.i64 (c.lo))), (At.val (Value.int IntKind.i64 (c.hi))), (At.val (Value.int IntKind.i64 (c.place))), (At.val (Value.int IntKind.i64 (c.ek))), (At.val (Value.int IntKind.i64 (c.ev))), (At.val (Value.bool true))]), (Chunk.box [(At.ptr 2 0), (At.slc 3), (At.slc 4), (At.val (Value.int IntKind.u64 (S'.reads)))]), (Chunk.box [(At.slc 5), (At.slc 6), (At.slc 7), (At.val (Value.int IntKind.u32 (S'.fresh)))]), (Chunk.row true (EC.node) (S'.nodes)), (Chunk.row true (EC.int) (S'.counts)), (Chunk.row true (EC.bool) (S'.used)), (Chunk.row true (EC.u32) (S'.gen)), (Chunk.row true (EC.u32) (S'.rel))] [0, 1, 2, 3, 4, 5, 6, 7])))))))))) ∧
  (∃ hs : List Int,
    ((Wf S (c.root :: hs)) ∧
    (∀ S' : Arn,
      (∀ fr : Int,
        ((Wf S' hs) →
        ((Kept S S') →
        (((fr + (↑S'.nu : Int)) = ((↑S.nu : Int))) →
        (((1 < S.ct c.root) →
        (((S.us c.root) = true) →
        ((S') = (decS S c.root)))) →
        ((((S.us c.root) = false) →
        ((S') = (S))) →
        (K (SV.one (TV.at (At.val (Value.int IntKind.i64 0)))) [(Chunk.box [(At.ptr 1 0), (At.val (Value.int IntKind.u32 (c.root))), (At.val (Value.int IntKind.i64 (c.lo))), (At.val (Value.int IntKind.i64 (c.hi))), (At.val (Value.int IntKind.i64 (c.place))), (At.val (Value.int IntKind.i64 (c.ek))), (At.val (Value.int IntKind.i64 (c.ev))), (At.val (Value.bool true))]), (Chunk.box [(At.ptr 2 0), (At.slc 3), (At.slc 4), (At.val (Value.int IntKind.u64 (S'.reads)))]), (Chunk.box [(At.slc 5), (At.slc 6), (At.slc 7), (At.val (Value.int IntKind.u32 (S'.fresh)))]), (Chunk.row true (EC.node) (S'.nodes)), (Chunk.row true (EC.int) (S'.counts)), (Chunk.row true (EC.bool) (S'.used)), (Chunk.row true (EC.u32) (S'.gen)), (Chunk.row true (EC.u32) (S'.rel))] [0, 1, 2, 3, 4, 5, 6, 7]))))))))))))) = _ by kernel_rfl) ?_
    refine brS_of (fun d => h1 d) fun d => ?_
    obtain ⟨hs, w, h⟩ := h2 d
    exact ⟨⟨hs, w, fun S' _ w' k' _ _ _ => h _ S' rfl w' k'⟩, hs, w, fun S' _ w' k' _ _ _ => h _ S' rfl w' k'⟩
  exact ⟨aCu_close, ⟨frame C0.ok s_release _, trivial⟩, key ⟨root, lo, hi, place, ek, ev, closed⟩ ⟨us, gn, rl, fr, nd, ct, rd⟩ h.1 h.2⟩
theorem s_tgt : SoundT C0 107 tTgt := by
  refine .of Try.func107 (by decide) rfl fun args H K h hB => ?_
  unfold tTgt at h
  split at h <;> try exact h.elim
  rename_i kd key n l
  have kk : ∀ l : List Ent, l.length ≤ 1000000 → (∀ x, x = tgtE l key n → K (.one (.at (vI x))) [.row false EC.ent l] []) → vc C0 aTgt Try.f107 [.agg [vI kd, vI key, vI n], .at (.slc 0)] [.row false EC.ent l] (normK 1 K) := fun l h1 h => by
    refine Eq.mp (show (brS ((↑l.length : Int) == 0)
  ((K (SV.one (TV.at (At.val (Value.int IntKind.i64 (key))))) [(Chunk.row false (EC.ent) (l))] []))
  ((brS (n.tmod 4 == 0)
    ((K (SV.one (TV.at (At.val (Value.int IntKind.i64 (key))))) [(Chunk.row false (EC.ent) (l))] []))
    (((0 < (↑l.length : Int)) ∧
    ((↑l.length : Int) ≤ 9223372036854775807) ∧
    (∀ x : Int,
      (((x) = (n % (↑l.length : Int))) →
      ((0 ≤ x) ∧
      (x < (↑l.length : Int)) ∧
      (K (SV.one (TV.at (At.val (Value.int IntKind.i64 ((l.getD x.toNat (0, 0)).fst))))) [(Chunk.row false (EC.ent) (l))] []))))))))) = _ by kernel_rfl) ?_
    refine brS_of (fun c => h _ ?_) fun c => brS_of (fun d => h _ ?_) fun d => ?_
    · have c : l.length = 0 := by have : (l.length : Int) = 0 := by simpa using c
                                  omega
      unfold tgtE; rw [if_pos (.inl c)]
    · have d : n.tmod 4 = 0 := by simpa using d
      unfold tgtE; rw [if_pos (.inr d)]
    · have c : l.length ≠ 0 := by
        have : (l.length : Int) ≠ 0 := by simpa using c
        omega
      have d : n.tmod 4 ≠ 0 := by simpa using d
      refine ⟨by omega, by omega, fun x ex => ?_⟩
      have m1 := Int.emod_nonneg n (show (l.length : Int) ≠ 0 by omega)
      have m2 := Int.emod_lt_of_pos n (show 0 < (l.length : Int) by omega)
      refine ⟨by omega, by omega, h _ ?_⟩
      unfold tgtE; rw [if_neg (fun z => z.elim c d), ex]
  exact ⟨aTgt, ⟨frame C0.ok s_mod _, trivial⟩, kk l h.1 h.2⟩
end Go.Proofs.Ytacdmmomkngpkaa.Sx
