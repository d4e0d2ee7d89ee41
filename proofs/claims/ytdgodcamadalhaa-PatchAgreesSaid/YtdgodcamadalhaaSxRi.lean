/- The reference's differences of lists. -/
import Derived.Test.YtdgodcamadalhaaSxRh
import Derived.Test.YtdgodcamadalhaaPatC
namespace Go.Proofs.Ytdgodcamadalhaa.Sx
open Go

def difD (k : Int) (a b : Option Int) : List Chg := match a with
  | none => [⟨1, k, 0, b.getD 0⟩]
  | some v => match b with
    | none => [⟨2, k, v, 0⟩]
    | some w => if v = w then [] else [⟨3, k, v, w⟩]
def dif1 (l m : List Ent) (k : Int) : List Chg := difD k (getE l k) (getE m k)
theorem difD_1 {k : Int} {a b : Option Int} (h : (!a.isSome) = true) : [⟨1, k, 0, b.getD 0⟩] = difD k a b := by cases a <;> simp_all [difD]
theorem difD_2 {k : Int} {a b : Option Int} (h : (!a.isSome) = false) (h2 : (!b.isSome) = true) : [⟨2, k, a.getD 0, 0⟩] = difD k a b := by cases a <;> cases b <;> simp_all [difD]
theorem difD_3 {k : Int} {a b : Option Int} (h : (!a.isSome) = false) (h2 : (!b.isSome) = false) (h3 : (a.getD 0 != b.getD 0) = true) : [⟨3, k, a.getD 0, b.getD 0⟩] = difD k a b := by cases a <;> cases b <;> simp_all [difD]
theorem difD_4 {k : Int} {a b : Option Int} (h : (!a.isSome) = false) (h2 : (!b.isSome) = false) (h3 : (a.getD 0 != b.getD 0) = false) : [] = difD k a b := by cases a <;> cases b <;> simp_all [difD]
def difE (l m : List Ent) : List Chg := (keys3 l m []).flatMap (dif1 l m)
theorem dif1_len (l m : List Ent) (k : Int) : (dif1 l m k).length ≤ 1 := by
  unfold dif1 difD; repeat' split
  all_goals simp
theorem flatMap1_len {α β : Type} {f : α → List β} (h : ∀ x, (f x).length ≤ 1) (l : List α) : (l.flatMap f).length ≤ l.length := by
  induction l with
  | nil => simp
  | cons x l ih => have := h x; rw [List.flatMap_cons, List.length_append, List.length_cons]; omega
theorem difE_len (l m : List Ent) : (difE l m).length ≤ l.length + m.length := by
  have h1 := flatMap1_len (dif1_len l m) (keys3 l m [])
  have h2 := keys3_len l m []
  unfold difE
  rw [List.length_nil] at h2
  omega
theorem dif1_mk {l m : List Ent} {k : Int} (h : (getE l k).isSome = true ∨ (getE m k).isSome = true) : dif1 l m k = (mkChg k (getE l k) (getE m k)).toList := by
  unfold dif1 difD
  cases h1 : getE l k <;> cases h2 : getE m k <;> simp_all [mkChg]
  split <;> simp_all
theorem flatMap_congr' {α β : Type} {f g : α → List β} {l : List α} (h : ∀ x ∈ l, f x = g x) : l.flatMap f = l.flatMap g := by
  induction l with
  | nil => rfl
  | cons x l ih => rw [List.flatMap_cons, List.flatMap_cons, h x (by simp), ih fun y hy => h y (by simp [hy])]
theorem difE_btw {l m : List Ent} (hl : Asc l) (hm : Asc m) : difE l m = btw l m := by
  have hk := keys3_srt l m []
  have e : difE l m = (keys3 l m []).flatMap fun k => (mkChg k (getE l k) (getE m k)).toList := by
    unfold difE
    refine flatMap_congr' fun k hk => ?_
    rcases (keys3_mem l m [] k).1 hk with h | h | h
    · exact dif1_mk (.inl h)
    · exact dif1_mk (.inr h)
    · simp [getE] at h
  have hf : ∀ (x : Int) (y : Chg), mkChg x (getE l x) (getE m x) = some y → y.key = id x := fun x y h => (mkChg_some h).1
  refine Srt.ext (key := Chg.key) ?_ (btw_srt hl hm) fun k => ?_
  · rw [e]; exact flatOpt_srt (ka := id) (kb := Chg.key) _ hf hk
  · rw [e, flatOpt_fnd (ka := id) (kb := Chg.key) _ hf hk, btw_fnd hl hm, fnd_id]
    split
    · rfl
    · rename_i hn
      rw [keys3_mem] at hn
      have h1 : getE l k = none := by cases h : getE l k <;> simp_all
      have h2 : getE m k = none := by cases h : getE m k <;> simp_all
      rw [h1, h2]; rfl

structure XDif (l m : List Ent) where
  i : Nat
  h : i ≤ (keys3 l m []).length
noncomputable def aDif (l m : List Ent) : Ann C0 := { Γ := [(68, frameT [] tKeys), (30, frameT [] tGet)], inv := fun k => match k with
  | 4 => some { X := XDif l m, sl := [7, 6, 5], tf := fun x => [vi .i64 x.i, .one (.at (.slc 2)), .one (.at (.slc 3))], hf := fun x => [.row false EC.ent l, .row false EC.ent m, .row true EC.i64 (keys3 l m []), .row true EC.chg (((keys3 l m []).take x.i).flatMap (dif1 l m))], μ := fun x => (keys3 l m []).length - x.i }
  | _ => none }
def tDif : Tfm C0 := fun args H K => match args, H with
  | [.at (.slc 0), .at (.slc 1)], [.row false .ent l, .row false .ent m] => l.length + m.length ≤ 1000000 ∧ K (.one (.at (.slc 2))) [.row false EC.ent l, .row false EC.ent m, .row true EC.chg (difE l m)] []
  | _, _ => False
theorem wrap_next {i n : Nat} (h1 : i < n) (h2 : n ≤ 1000000) : IntKind.i64.wrap ((i : Int) + 1) = ((i + 1 : Nat) : Int) := by rw [wrap_in (by omega) (by omega)]; simp
theorem flat_snoc {α β : Type} (f : α → List β) {l : List α} {i : Nat} {x : α} (h : l[i]? = some x) : (l.take (i + 1)).flatMap f = (l.take i).flatMap f ++ f x := by
  rw [take_snoc h]; simp
theorem flat_len1 {α β : Type} {f : α → List β} (h : ∀ x, (f x).length ≤ 1) (l : List α) (i : Nat) : ((l.take i).flatMap f).length ≤ i :=
  Nat.le_trans (flatMap1_len h _) (List.length_take_le _ _)
theorem vc_dif (l m : List Ent) (K : KT) (hsm : l.length + m.length ≤ 1000000) (h : K (.one (.at (.slc 2))) [.row false EC.ent l, .row false EC.ent m, .row true EC.chg (difE l m)] []) :
    vc C0 (aDif l m) Try.f58 [.at (.slc 0), .at (.slc 1)] [.row false EC.ent l, .row false EC.ent m] (normK 2 K) := by
  refine Eq.mp (show ((l.length + m.length + ([] : List Ent).length ≤ 1000000) ∧
(∃ x : XDif l m,
  (True ∧
  (True ∧
  True ∧
  True ∧
  True ∧
  ((Value.int IntKind.i64 0) = (Value.int IntKind.i64 ((↑x.i : Int)))) ∧
  True) ∧
  ((l) = (l)) ∧
  ((m) = (m)) ∧
  ((keys3 l m []) = (keys3 l m [])) ∧
  ([] = (List.flatMap (dif1 l m) (List.take x.i (keys3 l m [])))) ∧
  True)) ∧
(∀ x : XDif l m,
  (True →
  (brS (decide ((↑x.i : Int) < (↑(keys3 l m []).length : Int)))
    (((0 ≤ (↑x.i : Int)) ∧
    ((↑x.i : Int) < (↑(keys3 l m []).length : Int)) ∧
    (∀ x1 : Option Int,
      (((x1) = (getE l (iA (keys3 l m []) x.i))) →
      (∀ x2 : Option Int,
        (((x2) = (getE m (iA (keys3 l m []) x.i))) →
        (brS (!x1.isSome)
          (((((List.flatMap (dif1 l m) (List.take x.i (keys3 l m []))).length + [{ kind := 1, key := iA (keys3 l m []) x.i, old := 0, new := x2.getD 0 : Chg }].length) * bytesOf C0 EC.chg ≤ 140737488355328) ∧
          (∃ x' : XDif l m,
            (True ∧
            ((True ∧
            True ∧
            True ∧
            True ∧
            ((Value.int IntKind.i64 (IntKind.i64.wrap ((↑x.i : Int) + 1))) = (Value.int IntKind.i64 ((↑x'.i : Int)))) ∧
            True) ∧
            ((l) = (l)) ∧
            ((m) = (m)) ∧
            ((keys3 l m []) = (keys3 l m [])) ∧
            ((List.flatMap (dif1 l m) (List.take x.i (keys3 l m [])) ++ [{ kind := 1, key := iA (keys3 l m []) x.i, old := 0, new := x2.getD 0 : Chg }]) = (List.flatMap (dif1 l m) (List.take x'.i (keys3 l m [])))) ∧
            True) ∧
            ((keys3 l m []).length - x'.i < (keys3 l m []).length - x.i)))))
          ((brS (!x2.isSome)
            (((((List.flatMap (dif1 l m) (List.take x.i (keys3 l m []))).length + [{ kind := 2, key := iA (keys3 l m []) x.i, old := x1.getD 0, new := 0 : Chg }].length) * bytesOf C0 EC.chg ≤ 140737488355328) ∧
            (∃ x' : XDif l m,
              (True ∧
              ((True ∧
              True ∧
              True ∧
              True ∧
              ((Value.int IntKind.i64 (IntKind.i64.wrap ((↑x.i : Int) + 1))) = (Value.int IntKind.i64 ((↑x'.i : Int)))) ∧
              True) ∧
              ((l) = (l)) ∧
              ((m) = (m)) ∧
              ((keys3 l m []) = (keys3 l m [])) ∧
              ((List.flatMap (dif1 l m) (List.take x.i (keys3 l m [])) ++ [{ kind := 2, key := iA (keys3 l m []) x.i, old := x1.getD 0, new := 0 : Chg }]) = (List.flatMap (dif1 l m) (List.take x'.i (keys3 l m [])))) ∧
              True) ∧
              ((keys3 l m []).length - x'.i < (keys3 l m []).length - x.i)))))
            ((brS (x1.getD 0 != x2.getD 0)
              (((((List.flatMap (dif1 l m) (List.take x.i (keys3 l m []))).length + [{ kind := 3, key := iA (keys3 l m []) x.i, old := x1.getD 0, new := x2.getD 0 : Chg }].length) * bytesOf C0 EC.chg ≤ 140737488355328) ∧
              (∃ x' : XDif l m,
                (True ∧
                ((True ∧
                True ∧
                True ∧
                True ∧
                ((Value.int IntKind.i64 (IntKind.i64.wrap ((↑x.i : Int) + 1))) = (Value.int IntKind.i64 ((↑x'.i : Int)))) ∧
                True) ∧
                ((l) = (l)) ∧
                ((m) = (m)) ∧
                ((keys3 l m []) = (keys3 l m [])) ∧
                ((List.flatMap (dif1 l m) (List.take x.i (keys3 l m [])) ++ [{ kind := 3, key := iA (keys3 l m []) x.i, old := x1.getD 0, new := x2.getD 0 : Chg }]) = (List.flatMap (dif1 l m) (List.take x'.i (keys3 l m [])))) ∧
                True) ∧
                ((keys3 l m []).length - x'.i < (keys3 l m []).length - x.i)))))
              ((∃ x' : XDif l m,
                (True ∧
                ((True ∧
                True ∧
                True ∧
                True ∧
                ((Value.int IntKind.i64 (IntKind.i64.wrap ((↑x.i : Int) + 1))) = (Value.int IntKind.i64 ((↑x'.i : Int)))) ∧
                True) ∧
                ((l) = (l)) ∧
                ((m) = (m)) ∧
                ((keys3 l m []) = (keys3 l m [])) ∧
                ((List.flatMap (dif1 l m) (List.take x.i (keys3 l m []))) = (List.flatMap (dif1 l m) (List.take x'.i (keys3 l m [])))) ∧
                True) ∧
                ((keys3 l m []).length - x'.i < (keys3 l m []).length - x.i)))))))))))))))
    ((K (SV.one (TV.at (At.slc 2))) [(Chunk.row false (EC.ent) (l)), (Chunk.row false (EC.ent) (m)), (Chunk.row true (EC.chg) (List.flatMap (dif1 l m) (List.take x.i (keys3 l m []))))] [])))))) = _ by kernel_rfl) ?_
  have hk := keys3_len l m []
  rw [List.length_nil] at hk
  refine ⟨by simpa using hsm, ⟨⟨0, Nat.zero_le _⟩, by simp⟩, fun x _ => brS_of (fun hi => ?_) fun hi => ?_⟩
  · have hi : x.i < (keys3 l m []).length := by simpa using hi
    have hs := flat_snoc (dif1 l m) (iA_get hi)
    have hlen := flat_len1 (dif1_len l m) (keys3 l m []) x.i
    have go : ∀ d, d = dif1 l m (iA (keys3 l m []) x.i) → (((keys3 l m []).take x.i).flatMap (dif1 l m)) ++ d = ((keys3 l m []).take (x.i + 1)).flatMap (dif1 l m) := fun d hd => by rw [hd, hs]
    simp only [wrap_next hi (by omega), bytes_chg]
    refine ⟨by omega, by omega, fun x1 e1 x2 e2 => brS_of (fun h1 => ⟨?_, ⟨x.i + 1, by omega⟩, ?_⟩) fun h1 => brS_of (fun h2 => ⟨?_, ⟨x.i + 1, by omega⟩, ?_⟩) fun h2 => brS_of (fun h3 => ⟨?_, ⟨x.i + 1, by omega⟩, ?_⟩) fun h3 => ⟨⟨x.i + 1, by omega⟩, ?_⟩⟩
    all_goals try (simp only [List.length_singleton]; omega)
    all_goals refine ⟨trivial, ⟨⟨trivial, trivial, trivial, trivial, rfl, trivial⟩, trivial, trivial, trivial, ?_, trivial⟩, by show _ - (x.i + 1) < _; omega⟩
    · exact go _ (by rw [dif1, ← e1, ← e2]; exact difD_1 h1)
    · exact go _ (by rw [dif1, ← e1, ← e2]; exact difD_2 h1 h2)
    · exact go _ (by rw [dif1, ← e1, ← e2]; exact difD_3 h1 h2 h3)
    · have := go [] (by rw [dif1, ← e1, ← e2]; exact difD_4 h1 h2 h3)
      rw [List.append_nil] at this
      exact this
  · have hi : x.i = (keys3 l m []).length := by have := x.h; simp at hi; omega
    have h2 : ∀ z : List Chg, z = difE l m → K (.one (.at (.slc 2))) [.row false EC.ent l, .row false EC.ent m, .row true EC.chg z] [] := fun z hz => by subst hz; exact h
    exact h2 _ (by rw [hi]; exact congrArg (List.flatMap (dif1 l m)) (List.take_length (l := keys3 l m [])))
theorem s_dif : SoundT C0 58 tDif := by
  refine .of Try.func58 (by decide) rfl fun args H K h hB => ?_
  unfold tDif at h
  split at h <;> try exact h.elim
  rename_i l m
  exact ⟨aDif l m, ⟨frame C0.ok s_keys _, frame C0.ok s_get _, trivial⟩, vc_dif l m K h.1 h.2⟩

def tBtw19 : Tfm C0 := fun args H K => match args, H with
  | [.at (.slc 0), .at (.slc 1)], [.row false .ent l, .row false .ent m] => l.length + m.length ≤ 1000000 ∧
    (ascB l = true → ascB m = true → K (.tup [.at (.slc 2), .at (vI 0)]) [.row false EC.ent l, .row false EC.ent m, .row true EC.chg (difE l m)] []) ∧
    (ascB l = false ∨ ascB m = false → K (.tup [.at (.slc 2), .at (vI 1)]) [.row false EC.ent l, .row false EC.ent m, .row true EC.chg []] [])
  | _, _ => False
noncomputable def aBtw19 : Ann C0 := { Γ := [(57, frameT [] tAsc), (58, frameT [] tDif)] }
theorem vc_btw19 (l m : List Ent) (K : KT) (hsm : l.length + m.length ≤ 1000000)
    (h1 : ascB l = true → ascB m = true → K (.tup [.at (.slc 2), .at (vI 0)]) [.row false EC.ent l, .row false EC.ent m, .row true EC.chg (difE l m)] [])
    (h2 : ascB l = false ∨ ascB m = false → K (.tup [.at (.slc 2), .at (vI 1)]) [.row false EC.ent l, .row false EC.ent m, .row true EC.chg []] []) :
    vc C0 aBtw19 Try.f24 [.at (.slc 0), .at (.slc 1)] [.row false EC.ent l, .row false EC.ent m] (normK 2 K) := by
  refine Eq.mp (show (brS (!ascB l)
  ((K (SV.tup [(TV.at (At.slc 2)), (TV.at (At.val (Value.int IntKind.i64 1)))]) [(Chunk.row false (EC.ent) (l)), (Chunk.row false (EC.ent) (m)), (Chunk.row true (EC.chg) [])] []))
  ((brS (!ascB m)
    ((K (SV.tup [(TV.at (At.slc 2)), (TV.at (At.val (Value.int IntKind.i64 1)))]) [(Chunk.row false (EC.ent) (l)), (Chunk.row false (EC.ent) (m)), (Chunk.row true (EC.chg) [])] []))
    (((l.length + m.length ≤ 1000000) ∧
    (K (SV.tup [(TV.at (At.slc 2)), (TV.at (At.val (Value.int IntKind.i64 0)))]) [(Chunk.row false (EC.ent) (l)), (Chunk.row false (EC.ent) (m)), (Chunk.row true (EC.chg) (difE l m))] [])))))) = _ by kernel_rfl) ?_
  refine brS_of (fun e1 => h2 (.inl (by simpa using e1))) fun e1 => brS_of (fun e2 => h2 (.inr (by simpa using e2))) fun e2 => ⟨hsm, h1 (by simpa using e1) (by simpa using e2)⟩
theorem s_btw19 : SoundT C0 24 tBtw19 := by
  refine .of Try.func24 (by decide) rfl fun args H K h hB => ?_
  unfold tBtw19 at h
  split at h <;> try exact h.elim
  rename_i l m
  exact ⟨aBtw19, ⟨frame C0.ok s_asc9 _, frame C0.ok s_dif _, trivial⟩, vc_btw19 l m K h.1 h.2.1 h.2.2⟩
end Go.Proofs.Ytdgodcamadalhaa.Sx
