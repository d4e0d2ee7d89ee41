/- The rule of the frame: what a function does with the chunks that it is handed, it does beside others. No program in sight. -/
import Derived.Test.YtacdmmomkngpkaaSxM
namespace Go.Proofs.Ytacdmmomkngpkaa.Sx
open Go

section
variable {C : Ctx}
variable {H H' H1 : List (Chunk C)} {σ σ' σ1 : Nat → Value} {φ φ' φ1 : Nat → Nat → Prop} {w w' : World}

def At.roots (own : Bool) : At → List Nat
  | .ptr n _ => [n]
  | .fn _ cs => cs
  | .slc n => match own with
    | true => [n]
    | false => []
  | _ => []
def TV.roots (own : Bool) : TV → List Nat
  | .at a => a.roots own
  | .agg l => l.flatMap (At.roots own)
def rootsA : List Bool → List TV → List Nat
  | _, [] => []
  | [], x :: l => x.roots false ++ rootsA [] l
  | m :: ms, x :: l => x.roots m ++ rootsA ms l

/-- An argument under the names of the callee; what is lent to it. -/
def At.loc (own : Bool) (Tn : List Nat) (a : At) (Ln : List Nat) : At × List Nat := match own, a with
  | false, .slc n => (.slc (Tn.length + Ln.length), Ln ++ [n])
  | false, .eptr n i sz off => (.eptr (Tn.length + Ln.length) i sz off, Ln ++ [n])
  | _, a => (a.ren (fun n => idxOf n Tn), Ln)
def locAts (own : Bool) (Tn : List Nat) : List At → List Nat → List At × List Nat
  | [], Ln => ([], Ln)
  | a :: l, Ln => let p := a.loc own Tn Ln; let q := locAts own Tn l p.2; (p.1 :: q.1, q.2)
def TV.loc (own : Bool) (Tn : List Nat) (x : TV) (Ln : List Nat) : TV × List Nat := match x with
  | .at a => let p := a.loc own Tn Ln; (.at p.1, p.2)
  | .agg l => let p := locAts own Tn l Ln; (.agg p.1, p.2)
def locTs (Tn : List Nat) : List Bool → List TV → List Nat → List TV × List Nat
  | _, [], Ln => ([], Ln)
  | [], x :: l, Ln => let p := x.loc false Tn Ln; let q := locTs Tn [] l p.2; (p.1 :: q.1, q.2)
  | m :: ms, x :: l, Ln => let p := x.loc m Tn Ln; let q := locTs Tn ms l p.2; (p.1 :: q.1, q.2)

def Chunk.lent {C : Ctx} : Chunk C → Chunk C
  | .row _ e l => .row false e l
  | _ => .gone
def locH (Tn Ln : List Nat) (H : List (Chunk C)) : List (Chunk C) := pickH Tn H ++ Ln.map fun n => (H.getD n .gone).lent

def okLent (Tn Ln : List Nat) (H : List (Chunk C)) : Bool := Ln.all fun n => !(isOwn H n) || !(Tn.contains n)
def isRow0 : Chunk C → Bool
  | .row false _ _ => true
  | _ => false
/-- No new row that is read alone. -/
def okOut (kt n0 : Nat) (Hl H1 : List (Chunk C)) (ts : List Nat) : Bool :=
  ((List.range kt).all fun k => !(isRow0 (H1.getD k .gone)) || (isRow0 (Hl.getD k .gone) || (isOwn Hl k && !(ts.contains k)))) && (H1.drop n0).all fun c => !(isRow0 c)

def backN (L : List Nat) (h0 : Nat) (j : Nat) : Option Nat := match L[j]? with
  | some n => some n
  | none => some (h0 + (j - L.length))
def killsH (ks : List Nat) (H : List (Chunk C)) : List (Chunk C) := ks.foldl (fun H n => H.map (Chunk.kill n)) H
def backH (Tn L ts : List Nat) (H H1 : List (Chunk C)) : List (Chunk C) :=
  ((List.range H.length).map fun n => match idxOf n Tn with
    | some k => (H1.getD k .gone).ren (backN L H.length)
    | none => (killsH (ts.filter (isOwn H)) H).getD n .gone) ++ (H1.drop L.length).map (Chunk.ren (backN L H.length))

/-- A function beside other chunks. ms: the arguments whose rows are handed over for good. -/
def frameT (ms : List Bool) (t : Tfm C) : Tfm C := fun args H K =>
  let Tn := closeN H 6 (dedup [] (rootsA ms args))
  let p := locTs Tn ms args []
  let L := Tn ++ p.2
  let Hl := locH Tn p.2 H
  if okLent Tn p.2 H then t p.1 Hl fun r H1 ts => if okOut Tn.length L.length Hl H1 ts then K (r.ren (backN L H.length)) (backH Tn L (ts.filterMap (Tn[·]?)) H H1) (ts.filterMap (Tn[·]?)) else False else False

theorem killsH_length : ∀ (ks : List Nat) {H : List (Chunk C)}, (killsH ks H).length = H.length := by
  intro ks
  induction ks with
  | nil => intro H; rfl
  | cons k ks ih => intro H; show (killsH ks (H.map (Chunk.kill k))).length = _; rw [ih]; simp
theorem Sat.kills : ∀ (ks : List Nat) {H : List (Chunk C)}, Sat C σ φ w H → Sat C σ φ w (killsH ks H) := by
  intro ks
  induction ks with
  | nil => intro H h; exact h
  | cons k ks ih => intro H h; exact ih (h.kill k)
theorem killsH_get : ∀ (ks : List Nat) {H : List (Chunk C)} {n : Nat} {c : Chunk C}, (killsH ks H)[n]? = some c → ∀ m ∈ c.names, m ∉ ks := by
  intro ks
  induction ks with
  | nil => intro H n c _ m _; simp
  | cons k ks ih =>
    intro H n c h m hm
    have h' : (killsH ks (H.map (Chunk.kill k)))[n]? = some c := h
    have h1 := ih h' m hm
    have aux : ∀ (ks : List Nat) {H : List (Chunk C)} {c : Chunk C}, (killsH ks H)[n]? = some c → ∃ d, H[n]? = some d ∧ ∀ m ∈ c.names, m ∈ d.names := by
      intro ks
      induction ks with
      | nil => intro H c h; exact ⟨c, h, fun m hm => hm⟩
      | cons k ks ih =>
        intro H c h
        have h' : (killsH ks (H.map (Chunk.kill k)))[n]? = some c := h
        obtain ⟨d, hd, hm⟩ := ih h'
        rw [List.getElem?_map, Option.map_eq_some_iff] at hd
        obtain ⟨d0, h0, rfl⟩ := hd
        exact ⟨d0, h0, fun m hmm => (Chunk.kill_names m (hm m hmm)).1⟩
    obtain ⟨d, hd, hmd⟩ := aux ks h'
    rw [List.getElem?_map, Option.map_eq_some_iff] at hd
    obtain ⟨d0, h0, rfl⟩ := hd
    simp only [List.mem_cons, not_or]
    exact ⟨(Chunk.kill_names m (hmd m hm)).2, h1⟩
theorem killsH_own : ∀ (ks : List Nat) {H : List (Chunk C)} {n : Nat}, isOwn (killsH ks H) n = isOwn H n := by
  intro ks
  induction ks with
  | nil => intro H n; rfl
  | cons k ks ih => intro H n; show isOwn (killsH ks (H.map (Chunk.kill k))) n = _; rw [ih, isOwn_kill]
theorem rdb_kill {n k b : Nat} : Rdb (H.map (Chunk.kill n)) σ k b ↔ Rdb H σ k b := by
  unfold Rdb
  rw [List.getElem?_map]
  cases H[k]? with
  | none => simp
  | some c => cases c <;> simp [Chunk.kill]
theorem killsH_rdb : ∀ (ks : List Nat) {H : List (Chunk C)} {n b : Nat}, Rdb (killsH ks H) σ n b ↔ Rdb H σ n b := by
  intro ks
  induction ks with
  | nil => intro H n b; exact Iff.rfl
  | cons k ks ih => intro H n b; show Rdb (killsH ks (H.map (Chunk.kill k))) σ n b ↔ _; rw [ih, rdb_kill]

theorem At.loc_spec {own : Bool} {Tn : List Nat} {a : At} {Ln : List Nat} : ∃ x, (a.loc own Tn Ln).2 = Ln ++ x ∧ (∀ n ∈ x, n ∈ a.names) ∧ (∀ m ∈ (a.loc own Tn Ln).1.names, m < (Tn ++ (a.loc own Tn Ln).2).length) ∧
    ∀ (σ σ' : Nat → Value) (y : List Nat), (∀ k n, (Tn ++ (Ln ++ x ++ y))[k]? = some n → σ' k = σ n) → ∀ v, a.rel σ v → (a.loc own Tn Ln).1.rel σ' v := by
  have gen : ∃ x, Ln = Ln ++ x ∧ (∀ n ∈ x, n ∈ a.names) ∧ (∀ m ∈ (a.ren (fun n => idxOf n Tn)).names, m < (Tn ++ Ln).length) ∧
      ∀ (σ σ' : Nat → Value) (y : List Nat), (∀ k n, (Tn ++ (Ln ++ x ++ y))[k]? = some n → σ' k = σ n) → ∀ v, a.rel σ v → (a.ren (fun n => idxOf n Tn)).rel σ' v := by
    refine ⟨[], by simp, by simp, fun m hm => ?_, fun σ σ' y hσ v hv => At.ren_rel (fun n m hm => hσ m n ?_) hv⟩
    · obtain ⟨n, _, e⟩ := At.ren_names m hm
      have := (List.getElem?_eq_some_iff.1 (idxOf_spec e)).1
      simp; omega
    · have := idxOf_spec hm
      rw [List.getElem?_append_left (List.getElem?_eq_some_iff.1 this).1]
      exact this
  have hlast : ∀ (n : Nat) (y : List Nat), (Tn ++ (Ln ++ [n] ++ y))[Tn.length + Ln.length]? = some n := fun n y => by
    rw [List.getElem?_append_right (by omega), List.append_assoc, List.getElem?_append_right (by omega)]
    simp
  cases own with
  | true => cases a <;> exact gen
  | false =>
    cases a with
    | slc n =>
      exact ⟨[n], rfl, fun m hm => hm, fun m hm => by simp [At.loc, At.names] at hm ⊢; omega, fun σ σ' y hσ v hv => by
        show v = σ' (Tn.length + Ln.length)
        rw [hσ _ _ (hlast n y)]; exact hv⟩
    | eptr n i sz off =>
      exact ⟨[n], rfl, fun m hm => hm, fun m hm => by simp [At.loc, At.names] at hm ⊢; omega, fun σ σ' y hσ v hv => by
        obtain ⟨b, o, len, cap, h1, h2⟩ := hv
        exact ⟨b, o, len, cap, (hσ _ _ (hlast n y)).trans h1, h2⟩⟩
    | _ => exact gen

theorem locAts_spec {own : Bool} {Tn : List Nat} : ∀ (l : List At) (Ln : List Nat), ∃ x, (locAts own Tn l Ln).2 = Ln ++ x ∧ (∀ n ∈ x, n ∈ l.flatMap At.names) ∧ (∀ m ∈ (locAts own Tn l Ln).1.flatMap At.names, m < (Tn ++ (locAts own Tn l Ln).2).length) ∧
    ∀ (σ σ' : Nat → Value) (y : List Nat), (∀ k n, (Tn ++ (Ln ++ x ++ y))[k]? = some n → σ' k = σ n) → ∀ vs, Rels (At.rel σ) l vs → Rels (At.rel σ') (locAts own Tn l Ln).1 vs := by
  intro l
  induction l with
  | nil => intro Ln; exact ⟨[], by simp [locAts], by simp, by simp [locAts], fun σ σ' y _ vs h => ⟨h.1, fun i a b ha => by simp [locAts] at ha⟩⟩
  | cons a l ih =>
    intro Ln
    obtain ⟨x, h1, h2, h3, h4⟩ := At.loc_spec (own := own) (Tn := Tn) (a := a) (Ln := Ln)
    obtain ⟨x', h1', h2', h3', h4'⟩ := ih (a.loc own Tn Ln).2
    refine ⟨x ++ x', h1'.trans (by rw [h1, List.append_assoc]), fun n hn => ?_, fun m hm => ?_, fun σ σ' y hσ vs hr => ?_⟩
    · rw [List.flatMap_cons]
      rcases List.mem_append.1 hn with hn | hn
      · exact List.mem_append_left _ (h2 n hn)
      · exact List.mem_append_right _ (h2' n hn)
    · simp only [locAts, List.flatMap_cons] at hm ⊢
      rcases List.mem_append.1 hm with hm | hm
      · have := h3 m hm
        rw [h1']
        simp only [List.length_append] at this ⊢
        omega
      · exact h3' m hm
    · match vs, hr with
      | [], hr => exact absurd hr.1 (by simp)
      | v :: vs, hr =>
        refine Rels.cons (h4 σ σ' (x' ++ y) (fun k n hk => hσ k n (by simpa [List.append_assoc] using hk)) v (hr.2 0 a v rfl rfl)) ?_
        exact h4' σ σ' y (fun k n hk => hσ k n (by rw [h1] at hk; simpa [List.append_assoc] using hk)) vs ⟨by simpa using hr.1, fun i b u hb hu => hr.2 (i + 1) b u (by simpa using hb) (by simpa using hu)⟩

theorem TV.loc_spec {own : Bool} {Tn : List Nat} (x : TV) (Ln : List Nat) : ∃ z, (x.loc own Tn Ln).2 = Ln ++ z ∧ (∀ n ∈ z, n ∈ x.names) ∧ (∀ m ∈ (x.loc own Tn Ln).1.names, m < (Tn ++ (x.loc own Tn Ln).2).length) ∧
    ∀ (σ σ' : Nat → Value) (y : List Nat), (∀ k n, (Tn ++ (Ln ++ z ++ y))[k]? = some n → σ' k = σ n) → ∀ v, x.rel σ v → (x.loc own Tn Ln).1.rel σ' v := by
  cases x with
  | «at» a => exact At.loc_spec
  | agg l =>
    obtain ⟨z, h1, h2, h3, h4⟩ := locAts_spec (own := own) (Tn := Tn) l Ln
    exact ⟨z, h1, h2, h3, fun σ σ' y hσ v ⟨cs, e, hr⟩ => ⟨cs, e, h4 σ σ' y hσ cs hr⟩⟩

theorem locTs_cons {Tn : List Nat} (ms : List Bool) (x : TV) (l : List TV) (Ln : List Nat) : ∃ m ms', locTs Tn ms (x :: l) Ln = ((x.loc m Tn Ln).1 :: (locTs Tn ms' l (x.loc m Tn Ln).2).1, (locTs Tn ms' l (x.loc m Tn Ln).2).2) := by
  cases ms with
  | nil => exact ⟨false, [], rfl⟩
  | cons m ms => exact ⟨m, ms, rfl⟩

theorem locTs_spec {Tn : List Nat} : ∀ (l : List TV) (ms : List Bool) (Ln : List Nat), ∃ x, (locTs Tn ms l Ln).2 = Ln ++ x ∧ (∀ n ∈ x, ∃ a ∈ l, n ∈ a.names) ∧ (∀ a ∈ (locTs Tn ms l Ln).1, ∀ m ∈ a.names, m < (Tn ++ (locTs Tn ms l Ln).2).length) ∧
    ∀ (σ σ' : Nat → Value) (y : List Nat), (∀ k n, (Tn ++ (Ln ++ x ++ y))[k]? = some n → σ' k = σ n) → ∀ vs, Rels (TV.rel σ) l vs → Rels (TV.rel σ') (locTs Tn ms l Ln).1 vs := by
  intro l
  induction l with
  | nil => intro ms Ln; exact ⟨[], by cases ms <;> simp [locTs], by simp, by cases ms <;> simp [locTs], fun σ σ' y _ vs h => ⟨by cases ms <;> simpa [locTs] using h.1, fun i a b ha => by cases ms <;> simp [locTs] at ha⟩⟩
  | cons a l ih =>
    intro ms Ln
    obtain ⟨m, ms', e⟩ := locTs_cons (Tn := Tn) ms a l Ln
    rw [e]
    obtain ⟨x, h1, h2, h3, h4⟩ := TV.loc_spec (own := m) (Tn := Tn) a Ln
    obtain ⟨x', h1', h2', h3', h4'⟩ := ih ms' (a.loc m Tn Ln).2
    refine ⟨x ++ x', h1'.trans (by rw [h1, List.append_assoc]), fun n hn => ?_, fun b hb k hk => ?_, fun σ σ' y hσ vs hr => ?_⟩
    · rcases List.mem_append.1 hn with hn | hn
      · exact ⟨a, by simp, h2 n hn⟩
      · obtain ⟨b, hb, hbn⟩ := h2' n hn
        exact ⟨b, by simp [hb], hbn⟩
    · rcases List.mem_cons.1 hb with rfl | hb
      · have := h3 k hk
        simp only [h1']
        simp only [List.length_append] at this ⊢
        omega
      · exact h3' b hb k hk
    · match vs, hr with
      | [], hr => exact absurd hr.1 (by simp)
      | v :: vs, hr =>
        refine Rels.cons (h4 σ σ' (x' ++ y) (fun k n hk => hσ k n (by simpa [List.append_assoc] using hk)) v (hr.2 0 a v rfl rfl)) ?_
        exact h4' σ σ' y (fun k n hk => hσ k n (by rw [h1] at hk; simpa [List.append_assoc] using hk)) vs ⟨by simpa using hr.1, fun i b u hb hu => hr.2 (i + 1) b u (by simpa using hb) (by simpa using hu)⟩

theorem At.roots_names {own : Bool} {a : At} : ∀ n ∈ a.roots own, n ∈ a.names := by
  cases a <;> cases own <;> simp [At.roots, At.names]
theorem TV.roots_names {own : Bool} {x : TV} : ∀ n ∈ x.roots own, n ∈ x.names := by
  cases x with
  | «at» a => exact At.roots_names
  | agg l =>
    intro n hn
    obtain ⟨a, ha, h⟩ := List.mem_flatMap.1 hn
    exact List.mem_flatMap.2 ⟨a, ha, At.roots_names n h⟩
theorem rootsA_names : ∀ (l : List TV) (ms : List Bool), ∀ n ∈ rootsA ms l, ∃ x ∈ l, n ∈ x.names := by
  intro l
  induction l with
  | nil => intro ms n hn; cases ms <;> simp [rootsA] at hn
  | cons x l ih =>
    intro ms n hn
    cases ms with
    | nil =>
      rcases List.mem_append.1 hn with hn | hn
      · exact ⟨x, by simp, TV.roots_names n hn⟩
      · obtain ⟨y, hy, h⟩ := ih _ n hn; exact ⟨y, by simp [hy], h⟩
    | cons m ms =>
      rcases List.mem_append.1 hn with hn | hn
      · exact ⟨x, by simp, TV.roots_names n hn⟩
      · obtain ⟨y, hy, h⟩ := ih _ n hn; exact ⟨y, by simp [hy], h⟩

/-- The chunks that the callee sees. -/
theorem Sat.loc (hC : C.OK) (h : Sat C σ φ w H) {Tn Ln : List Nat} (hnd : Tn.Nodup) (hT : ∀ n ∈ Tn, n < H.length) (hL : ∀ n ∈ Ln, n < H.length) (hok : okLent Tn Ln H = true) :
    Sat C (fun k => σ ((Tn ++ Ln).getD k 0)) (fun k b => k < Tn.length ∧ φ ((Tn ++ Ln).getD k 0) b) w (locH Tn Ln H) := by
  have hp := h.pick hnd hT
  have hlen : (pickH Tn H).length = Tn.length := by simp [pickH]
  have hgl : ∀ k, k < Tn.length → (Tn ++ Ln).getD k 0 = Tn.getD k 0 := fun k hk => by simp [List.getD_eq_getElem?_getD, List.getElem?_append_left hk]
  have hgr : ∀ {k n : Nat}, Tn.length ≤ k → Ln[k - Tn.length]? = some n → (Tn ++ Ln).getD k 0 = n := fun {k n} hk hn => by simp [List.getD_eq_getElem?_getD, List.getElem?_append_right hk, hn]
  have hφ : ∀ k, (fun b => k < Tn.length ∧ φ ((Tn ++ Ln).getD k 0) b) = fun b => k < Tn.length ∧ φ (Tn.getD k 0) b := fun k => funext fun b => propext ⟨fun hh => ⟨hh.1, by rw [← hgl k hh.1]; exact hh.2⟩, fun hh => ⟨hh.1, by rw [hgl k hh.1]; exact hh.2⟩⟩
  have hget : ∀ {k : Nat} {c : Chunk C}, Tn.length ≤ k → (locH Tn Ln H)[k]? = some c → ∃ n c0, Ln[k - Tn.length]? = some n ∧ H[n]? = some c0 ∧ c = c0.lent := fun {k c} hk hc => by
    unfold locH at hc
    rw [List.getElem?_append_right (by rw [hlen]; exact hk), hlen, List.getElem?_map, Option.map_eq_some_iff] at hc
    obtain ⟨n, hn, e⟩ := hc
    exact ⟨n, _, hn, getD_some (hL n (List.mem_of_getElem? hn)), e.symm⟩
  have hgetl : ∀ {k : Nat}, k < Tn.length → (locH Tn Ln H)[k]? = (pickH Tn H)[k]? := fun {k} hk => by
    unfold locH
    rw [List.getElem?_append_left (by rw [hlen]; exact hk)]
  refine ⟨fun k c hc => ?_, fun k m b hk hm => ?_, fun k b hb => h.bd _ b hb.2, fun k e l hl hpos b hb m hm => ?_, fun k hk b hb => ?_, fun k c hc m hm => ?_⟩
  · rw [hφ k]
    rcases Nat.lt_or_ge k Tn.length with hk | hk
    · rw [hgetl hk] at hc
      have hh := hp.holds k c hc
      rw [hgl k hk]
      match c with
      | .gone => trivial
      | .box cells =>
        obtain ⟨b, t, cs, h1, h2, h3, h4⟩ := hh
        refine ⟨b, t, cs, h1, h2, h3, h4.mono fun a v ha hr => At.rel_of hr fun m hm => ?_⟩
        have := hp.cl k _ hc m (List.mem_flatMap.2 ⟨a, ha, hm⟩)
        exact congrArg σ (hgl m (by rw [← hlen]; exact this))
      | .row true e l => exact hh
      | .row false e l => exact hh
      | .abs x => exact hh
    · obtain ⟨n, c0, h1, h2, rfl⟩ := hget hk hc
      have hh := h.holds n c0 h2
      rw [hgr hk h1]
      have hno : ∀ b, ¬ (k < Tn.length ∧ φ (Tn.getD k 0) b) := fun b hb => by omega
      match c0 with
      | .gone => trivial
      | .box cells => trivial
      | .row own e l => exact ⟨hh.rd hC, hno⟩
      | .abs x => trivial
  · rw [hgl k hk.1] at hk
    rw [hgl m hm.1] at hm
    exact hp.dis k m b hk hm
  · rw [hgl m hm.1] at hm
    rcases Nat.lt_or_ge k Tn.length with hk | hk
    · rw [hgetl hk] at hl
      rw [hgl k hk] at hb
      exact hp.imm k e l hl hpos b hb m hm
    · obtain ⟨n, c0, h1, h2, h3⟩ := hget hk hl
      rw [hgr hk h1] at hb
      match c0, h3 with
      | .row own e' l', h3 =>
        simp only [Chunk.lent, Chunk.row.injEq] at h3
        obtain ⟨_, rfl, h3⟩ := h3
        obtain rfl := eq_of_heq h3
        cases own with
        | false => exact h.imm n _ _ h2 hpos b hb _ hm.2
        | true =>
          have hh := h.holds n _ h2
          have hn : φ n b := (hh.2 b).2 hb
          have := h.dis _ _ b hm.2 hn
          have hmem : n ∈ Tn := by
            rw [← this]
            exact List.mem_of_getElem? (getD_some (d := 0) hm.1)
          have hok' := List.all_eq_true.1 hok n (List.mem_of_getElem? h1)
          simp [isOwn, h2, hmem] at hok'
  · simp [locH, pickH] at hk
    have := hb.1
    omega
  · have hle : (locH Tn Ln H).length = Tn.length + Ln.length := by simp [locH, pickH]
    rcases Nat.lt_or_ge k Tn.length with hk | hk
    · rw [hgetl hk] at hc
      have := hp.cl k c hc m hm
      rw [hlen] at this
      omega
    · obtain ⟨n, c0, h1, h2, rfl⟩ := hget hk hc
      cases c0 <;> simp [Chunk.lent, Chunk.names] at hm
end
end Go.Proofs.Ytacdmmomkngpkaa.Sx
