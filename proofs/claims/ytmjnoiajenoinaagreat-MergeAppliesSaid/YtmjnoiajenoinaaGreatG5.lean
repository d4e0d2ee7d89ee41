/- A part of the proof. -/
import Derived.Test.YtmjnoiajenoinaaGreatG4
import Derived.Test.YtmjnoiajenoinaaGreatG1
import Derived.Test.YtmjnoiajenoinaaGreatProg
import Derived.Test.YtmjnoiajenoinaaGreatChecked
import Derived.Conc.MuLone
section
/- The rule of the frame: what a function does with the chunks that it is handed, it does beside others. No program in sight. -/
namespace Go.Proofs.YtmjnoiajenoinaaGreat.Sx
open Go

section
variable {C : Ctx}
variable {H H' H1 : List (Chunk C)} {σ σ' σ1 : Nat ->Value} {φ φ' φ1 : Nat ->Nat ->Prop} {w w' : World}

def At.roots (own : Bool) : At ->List Nat
  | .ptr n _ => [n]
  | .fn _ cs => cs
  | .slc n => match own with
    | true => [n]
    | false => []
  | _ => []
def TV.roots (own : Bool) : TV ->List Nat
  | .at a => a.roots own
  | .agg l => l.flatMap (At.roots own)
def rootsA : List Bool ->List TV ->List Nat
  | _, [] => []
  | [], x :: l => x.roots false ++ rootsA [] l
  | m :: ms, x :: l => x.roots m ++ rootsA ms l

/-- An argument under the names of the callee; what is lent to it. -/
def At.loc (own : Bool) (Tn : List Nat) (a : At) (Ln : List Nat) : At × List Nat := match own, a with
  | false, .slc n => (.slc (Tn.length + Ln.length), Ln ++ [n])
  | false, .eptr n i sz off => (.eptr (Tn.length + Ln.length) i sz off, Ln ++ [n])
  | _, a => (a.ren (fun n => idxOf n Tn), Ln)
def locAts (own : Bool) (Tn : List Nat) : List At ->List Nat ->List At × List Nat
  | [], Ln => ([], Ln)
  | a :: l, Ln => let p := a.loc own Tn Ln; let q := locAts own Tn l p.2; (p.1 :: q.1, q.2)
def TV.loc (own : Bool) (Tn : List Nat) (x : TV) (Ln : List Nat) : TV × List Nat := match x with
  | .at a => let p := a.loc own Tn Ln; (.at p.1, p.2)
  | .agg l => let p := locAts own Tn l Ln; (.agg p.1, p.2)
def locTs (Tn : List Nat) : List Bool ->List TV ->List Nat ->List TV × List Nat
  | _, [], Ln => ([], Ln)
  | [], x :: l, Ln => let p := x.loc false Tn Ln; let q := locTs Tn [] l p.2; (p.1 :: q.1, q.2)
  | m :: ms, x :: l, Ln => let p := x.loc m Tn Ln; let q := locTs Tn ms l p.2; (p.1 :: q.1, q.2)

def Chunk.lent {C : Ctx} : Chunk C ->Chunk C
  | .row _ e l => .row false e l
  | _ => .gone
def locH (Tn Ln : List Nat) (H : List (Chunk C)) : List (Chunk C) := pickH Tn H ++ Ln.map fun n => (H.getD n .gone).lent

def okLent (Tn Ln : List Nat) (H : List (Chunk C)) : Bool := Ln.all fun n => !(isOwn H n) || !(Tn.contains n)
def isRow0 : Chunk C ->Bool
  | .row false _ _ => true
  | _ => false
def isRows : Chunk C ->Bool
  | .rows _ _ _ => true
  | _ => false
/-- No new row that is read alone. -/
def okOut (kt n0 : Nat) (Hl H1 : List (Chunk C)) (ts : List Nat) : Bool :=
  ((List.range kt).all fun k => !(isRow0 (H1.getD k .gone)) || (isRow0 (Hl.getD k .gone) || (isOwn Hl k && !(ts.contains k)))) && ((H1.drop n0).all (fun c => !(isRow0 c)) && H1.all fun c => !(isRows c))

def backN (L : List Nat) (h0 : Nat) (j : Nat) : Option Nat := match L[j]? with
  | some n => some n
  | none => some (h0 + (j - L.length))
def killsH (ks : List Nat) (H : List (Chunk C)) : List (Chunk C) := ks.foldl (fun H n => H.map (Chunk.kill n)) H
def backH (Tn L ts : List Nat) (H H1 : List (Chunk C)) : List (Chunk C) :=
  ((List.range H.length).map fun n => match idxOf n Tn with
    | some k => (H1.getD k .gone).ren (backN L H.length)
    | none => (killsH (ts.filter (isOwn H)) H).getD n .gone) ++ (H1.drop L.length).map (Chunk.ren (backN L H.length))

/-- A function beside other chunks. ms: the arguments whose rows are handed over for good. -/
def frameT (ms : List Bool) (t : Tfm C) : Tfm C := fun args H K =>
  let Tn := closeN H 6 (dedup [] (rootsA ms args))
  let p := locTs Tn ms args []
  let L := Tn ++ p.2
  let Hl := locH Tn p.2 H
  if okLent Tn p.2 H then t p.1 Hl fun r H1 ts => if okOut Tn.length L.length Hl H1 ts then K (r.ren (backN L H.length)) (backH Tn L (ts.filterMap (Tn[·]?)) H H1) (ts.filterMap (Tn[·]?)) else False else False

theorem killsH_length : ∀ (ks : List Nat) {H : List (Chunk C)}, (killsH ks H).length = H.length := by
  intro ks
  induction ks with
  | nil => intro H; rfl
  | cons k ks ih => intro H; show (killsH ks (H.map (Chunk.kill k))).length = _; rw [ih]; simp
theorem Sat.kills : ∀ (ks : List Nat) {H : List (Chunk C)}, Sat C σ φ w H ->Sat C σ φ w (killsH ks H) := by
  intro ks
  induction ks with
  | nil => intro H h; exact h
  | cons k ks ih => intro H h; exact ih (h.kill k)
theorem killsH_get : ∀ (ks : List Nat) {H : List (Chunk C)} {n : Nat} {c : Chunk C}, (killsH ks H)[n]? = some c ->∀ m ∈ c.names, m ∉ ks := by
  intro ks
  induction ks with
  | nil => intro H n c _ m _; simp
  | cons k ks ih =>
    intro H n c h m hm
    have h' : (killsH ks (H.map (Chunk.kill k)))[n]? = some c := h
    have h1 := ih h' m hm
    have aux : ∀ (ks : List Nat) {H : List (Chunk C)} {c : Chunk C}, (killsH ks H)[n]? = some c ->∃ d, H[n]? = some d /\∀ m ∈ c.names, m ∈ d.names := by
      intro ks
      induction ks with
      | nil => intro H c h; exact ⟨c, h, fun m hm => hm⟩
      | cons k ks ih =>
        intro H c h
        have h' : (killsH ks (H.map (Chunk.kill k)))[n]? = some c := h
        obtain ⟨d, hd, hm⟩ := ih h'
        rw [List.getElem?_map, Option.map_eq_some_iff] at hd
        obtain ⟨d0, h0, rfl⟩ := hd
        exact ⟨d0, h0, fun m hmm => (Chunk.kill_names m (hm m hmm)).1⟩
    obtain ⟨d, hd, hmd⟩ := aux ks h'
    rw [List.getElem?_map, Option.map_eq_some_iff] at hd
    obtain ⟨d0, h0, rfl⟩ := hd
    simp only [List.mem_cons, not_or]
    exact ⟨(Chunk.kill_names m (hmd m hm)).2, h1⟩
theorem killsH_own : ∀ (ks : List Nat) {H : List (Chunk C)} {n : Nat}, isOwn (killsH ks H) n = isOwn H n := by
  intro ks
  induction ks with
  | nil => intro H n; rfl
  | cons k ks ih => intro H n; show isOwn (killsH ks (H.map (Chunk.kill k))) n = _; rw [ih, isOwn_kill]
theorem rdb_kill {n k b : Nat} : Rdb (H.map (Chunk.kill n)) σ k b ↔ Rdb H σ k b := by
  unfold Rdb
  rw [List.getElem?_map]
  cases H[k]? with
  | none => simp
  | some c => cases c <;> simp [Chunk.kill]
theorem killsH_rdb : ∀ (ks : List Nat) {H : List (Chunk C)} {n b : Nat}, Rdb (killsH ks H) σ n b ↔ Rdb H σ n b := by
  intro ks
  induction ks with
  | nil => intro H n b; exact Iff.rfl
  | cons k ks ih => intro H n b; show Rdb (killsH ks (H.map (Chunk.kill k))) σ n b ↔ _; rw [ih, rdb_kill]

theorem At.loc_spec {own : Bool} {Tn : List Nat} {a : At} {Ln : List Nat} : ∃ x, (a.loc own Tn Ln).2 = Ln ++ x /\(∀ n ∈ x, n ∈ a.names) /\(∀ m ∈ (a.loc own Tn Ln).1.names, m < (Tn ++ (a.loc own Tn Ln).2).length) ∧
    ∀ (σ σ' : Nat ->Value) (y : List Nat), (∀ k n, (Tn ++ (Ln ++ x ++ y))[k]? = some n ->σ' k = σ n) ->∀ v, a.rel σ v ->(a.loc own Tn Ln).1.rel σ' v := by
  have gen : ∃ x, Ln = Ln ++ x /\(∀ n ∈ x, n ∈ a.names) /\(∀ m ∈ (a.ren (fun n => idxOf n Tn)).names, m < (Tn ++ Ln).length) ∧
      ∀ (σ σ' : Nat ->Value) (y : List Nat), (∀ k n, (Tn ++ (Ln ++ x ++ y))[k]? = some n ->σ' k = σ n) ->∀ v, a.rel σ v ->(a.ren (fun n => idxOf n Tn)).rel σ' v := by
    refine ⟨[], by simp, by simp, fun m hm => ?_, fun σ σ' y hσ v hv => At.ren_rel (fun n m hm => hσ m n ?_) hv⟩
    · obtain ⟨n, _, e⟩ := At.ren_names m hm
      have := (List.getElem?_eq_some_iff.1 (idxOf_spec e)).1
      simp; omega
    · have := idxOf_spec hm
      rw [List.getElem?_append_left (List.getElem?_eq_some_iff.1 this).1]
      exact this
  have hlast : ∀ (n : Nat) (y : List Nat), (Tn ++ (Ln ++ [n] ++ y))[Tn.length + Ln.length]? = some n := fun n y => by
    rw [List.getElem?_append_right (by omega), List.append_assoc, List.getElem?_append_right (by omega)]
    simp
  cases own with
  | true => cases a <;> exact gen
  | false =>
    cases a with
    | slc n =>
      exact ⟨[n], rfl, fun m hm => hm, fun m hm => by simp [At.loc, At.names] at hm ⊢; omega, fun σ σ' y hσ v hv => by
        show v = σ' (Tn.length + Ln.length)
        rw [hσ _ _ (hlast n y)]; exact hv⟩
    | eptr n i sz off =>
      exact ⟨[n], rfl, fun m hm => hm, fun m hm => by simp [At.loc, At.names] at hm ⊢; omega, fun σ σ' y hσ v hv => by
        obtain ⟨b, o, len, cap, h1, h2⟩ := hv
        exact ⟨b, o, len, cap, (hσ _ _ (hlast n y)).trans h1, h2⟩⟩
    | _ => exact gen

theorem locAts_spec {own : Bool} {Tn : List Nat} : ∀ (l : List At) (Ln : List Nat), ∃ x, (locAts own Tn l Ln).2 = Ln ++ x /\(∀ n ∈ x, n ∈ l.flatMap At.names) /\(∀ m ∈ (locAts own Tn l Ln).1.flatMap At.names, m < (Tn ++ (locAts own Tn l Ln).2).length) ∧
    ∀ (σ σ' : Nat ->Value) (y : List Nat), (∀ k n, (Tn ++ (Ln ++ x ++ y))[k]? = some n ->σ' k = σ n) ->∀ vs, Rels (At.rel σ) l vs ->Rels (At.rel σ') (locAts own Tn l Ln).1 vs := by
  intro l
  induction l with
  | nil => intro Ln; exact ⟨[], by simp [locAts], by simp, by simp [locAts], fun σ σ' y _ vs h => ⟨h.1, fun i a b ha => by simp [locAts] at ha⟩⟩
  | cons a l ih =>
    intro Ln
    obtain ⟨x, h1, h2, h3, h4⟩ := At.loc_spec (own := own) (Tn := Tn) (a := a) (Ln := Ln)
    obtain ⟨x', h1', h2', h3', h4'⟩ := ih (a.loc own Tn Ln).2
    refine ⟨x ++ x', h1'.trans (by rw [h1, List.append_assoc]), fun n hn => ?_, fun m hm => ?_, fun σ σ' y hσ vs hr => ?_⟩
    · rw [List.flatMap_cons]
      rcases List.mem_append.1 hn with hn | hn
      · exact List.mem_append_left _ (h2 n hn)
      · exact List.mem_append_right _ (h2' n hn)
    · simp only [locAts, List.flatMap_cons] at hm ⊢
      rcases List.mem_append.1 hm with hm | hm
      · have := h3 m hm
        rw [h1']
        simp only [List.length_append] at this ⊢
        omega
      · exact h3' m hm
    · match vs, hr with
      | [], hr => exact absurd hr.1 (by simp)
      | v :: vs, hr =>
        refine Rels.cons (h4 σ σ' (x' ++ y) (fun k n hk => hσ k n (by simpa [List.append_assoc] using hk)) v (hr.2 0 a v rfl rfl)) ?_
        exact h4' σ σ' y (fun k n hk => hσ k n (by rw [h1] at hk; simpa [List.append_assoc] using hk)) vs ⟨by simpa using hr.1, fun i b u hb hu => hr.2 (i + 1) b u (by simpa using hb) (by simpa using hu)⟩

theorem TV.loc_spec {own : Bool} {Tn : List Nat} (x : TV) (Ln : List Nat) : ∃ z, (x.loc own Tn Ln).2 = Ln ++ z /\(∀ n ∈ z, n ∈ x.names) /\(∀ m ∈ (x.loc own Tn Ln).1.names, m < (Tn ++ (x.loc own Tn Ln).2).length) ∧
    ∀ (σ σ' : Nat ->Value) (y : List Nat), (∀ k n, (Tn ++ (Ln ++ z ++ y))[k]? = some n ->σ' k = σ n) ->∀ v, x.rel σ v ->(x.loc own Tn Ln).1.rel σ' v := by
  cases x with
  | «at» a => exact At.loc_spec
  | agg l =>
    obtain ⟨z, h1, h2, h3, h4⟩ := locAts_spec (own := own) (Tn := Tn) l Ln
    exact ⟨z, h1, h2, h3, fun σ σ' y hσ v ⟨cs, e, hr⟩ => ⟨cs, e, h4 σ σ' y hσ cs hr⟩⟩

theorem locTs_cons {Tn : List Nat} (ms : List Bool) (x : TV) (l : List TV) (Ln : List Nat) : ∃ m ms', locTs Tn ms (x :: l) Ln = ((x.loc m Tn Ln).1 :: (locTs Tn ms' l (x.loc m Tn Ln).2).1, (locTs Tn ms' l (x.loc m Tn Ln).2).2) := by
  cases ms with
  | nil => exact ⟨false, [], rfl⟩
  | cons m ms => exact ⟨m, ms, rfl⟩

theorem locTs_spec {Tn : List Nat} : ∀ (l : List TV) (ms : List Bool) (Ln : List Nat), ∃ x, (locTs Tn ms l Ln).2 = Ln ++ x /\(∀ n ∈ x, ∃ a ∈ l, n ∈ a.names) /\(∀ a ∈ (locTs Tn ms l Ln).1, ∀ m ∈ a.names, m < (Tn ++ (locTs Tn ms l Ln).2).length) ∧
    ∀ (σ σ' : Nat ->Value) (y : List Nat), (∀ k n, (Tn ++ (Ln ++ x ++ y))[k]? = some n ->σ' k = σ n) ->∀ vs, Rels (TV.rel σ) l vs ->Rels (TV.rel σ') (locTs Tn ms l Ln).1 vs := by
  intro l
  induction l with
  | nil => intro ms Ln; exact ⟨[], by cases ms <;> simp [locTs], by simp, by cases ms <;> simp [locTs], fun σ σ' y _ vs h => ⟨by cases ms <;> simpa [locTs] using h.1, fun i a b ha => by cases ms <;> simp [locTs] at ha⟩⟩
  | cons a l ih =>
    intro ms Ln
    obtain ⟨m, ms', e⟩ := locTs_cons (Tn := Tn) ms a l Ln
    rw [e]
    obtain ⟨x, h1, h2, h3, h4⟩ := TV.loc_spec (own := m) (Tn := Tn) a Ln
    obtain ⟨x', h1', h2', h3', h4'⟩ := ih ms' (a.loc m Tn Ln).2
    refine ⟨x ++ x', h1'.trans (by rw [h1, List.append_assoc]), fun n hn => ?_, fun b hb k hk => ?_, fun σ σ' y hσ vs hr => ?_⟩
    · rcases List.mem_append.1 hn with hn | hn
      · exact ⟨a, by simp, h2 n hn⟩
      · obtain ⟨b, hb, hbn⟩ := h2' n hn
        exact ⟨b, by simp [hb], hbn⟩
    · rcases List.mem_cons.1 hb with rfl | hb
      · have := h3 k hk
        simp only [h1']
        simp only [List.length_append] at this ⊢
        omega
      · exact h3' b hb k hk
    · match vs, hr with
      | [], hr => exact absurd hr.1 (by simp)
      | v :: vs, hr =>
        refine Rels.cons (h4 σ σ' (x' ++ y) (fun k n hk => hσ k n (by simpa [List.append_assoc] using hk)) v (hr.2 0 a v rfl rfl)) ?_
        exact h4' σ σ' y (fun k n hk => hσ k n (by rw [h1] at hk; simpa [List.append_assoc] using hk)) vs ⟨by simpa using hr.1, fun i b u hb hu => hr.2 (i + 1) b u (by simpa using hb) (by simpa using hu)⟩

theorem At.roots_names {own : Bool} {a : At} : ∀ n ∈ a.roots own, n ∈ a.names := by
  cases a <;> cases own <;> simp [At.roots, At.names]
theorem TV.roots_names {own : Bool} {x : TV} : ∀ n ∈ x.roots own, n ∈ x.names := by
  cases x with
  | «at» a => exact At.roots_names
  | agg l =>
    intro n hn
    obtain ⟨a, ha, h⟩ := List.mem_flatMap.1 hn
    exact List.mem_flatMap.2 ⟨a, ha, At.roots_names n h⟩
theorem rootsA_names : ∀ (l : List TV) (ms : List Bool), ∀ n ∈ rootsA ms l, ∃ x ∈ l, n ∈ x.names := by
  intro l
  induction l with
  | nil => intro ms n hn; cases ms <;> simp [rootsA] at hn
  | cons x l ih =>
    intro ms n hn
    cases ms with
    | nil =>
      rcases List.mem_append.1 hn with hn | hn
      · exact ⟨x, by simp, TV.roots_names n hn⟩
      · obtain ⟨y, hy, h⟩ := ih _ n hn; exact ⟨y, by simp [hy], h⟩
    | cons m ms =>
      rcases List.mem_append.1 hn with hn | hn
      · exact ⟨x, by simp, TV.roots_names n hn⟩
      · obtain ⟨y, hy, h⟩ := ih _ n hn; exact ⟨y, by simp [hy], h⟩

/-- The chunks that the callee sees. -/
theorem Sat.loc (hC : C.OK) (h : Sat C σ φ w H) {Tn Ln : List Nat} (hnd : Tn.Nodup) (hT : ∀ n ∈ Tn, n < H.length) (hL : ∀ n ∈ Ln, n < H.length) (hok : okLent Tn Ln H = true) :
    Sat C (fun k => σ ((Tn ++ Ln).getD k 0)) (fun k b => k < Tn.length /\φ ((Tn ++ Ln).getD k 0) b) w (locH Tn Ln H) := by
  have hp := h.pick hnd hT
  have hlen : (pickH Tn H).length = Tn.length := by simp [pickH]
  have hgl : ∀ k, k < Tn.length ->(Tn ++ Ln).getD k 0 = Tn.getD k 0 := fun k hk => by simp [List.getD_eq_getElem?_getD, List.getElem?_append_left hk]
  have hgr : ∀ {k n : Nat}, Tn.length <=k ->Ln[k - Tn.length]? = some n ->(Tn ++ Ln).getD k 0 = n := fun {k n} hk hn => by simp [List.getD_eq_getElem?_getD, List.getElem?_append_right hk, hn]
  have hφ : ∀ k, (fun b => k < Tn.length /\φ ((Tn ++ Ln).getD k 0) b) = fun b => k < Tn.length /\φ (Tn.getD k 0) b := fun k => funext fun b => propext ⟨fun hh => ⟨hh.1, by rw [← hgl k hh.1]; exact hh.2⟩, fun hh => ⟨hh.1, by rw [hgl k hh.1]; exact hh.2⟩⟩
  have hget : ∀ {k : Nat} {c : Chunk C}, Tn.length <=k ->(locH Tn Ln H)[k]? = some c ->∃ n c0, Ln[k - Tn.length]? = some n /\H[n]? = some c0 /\c = c0.lent := fun {k c} hk hc => by
    unfold locH at hc
    rw [List.getElem?_append_right (by rw [hlen]; exact hk), hlen, List.getElem?_map, Option.map_eq_some_iff] at hc
    obtain ⟨n, hn, e⟩ := hc
    exact ⟨n, _, hn, getD_some (hL n (List.mem_of_getElem? hn)), e.symm⟩
  have hgetl : ∀ {k : Nat}, k < Tn.length ->(locH Tn Ln H)[k]? = (pickH Tn H)[k]? := fun {k} hk => by
    unfold locH
    rw [List.getElem?_append_left (by rw [hlen]; exact hk)]
  refine ⟨fun k c hc => ?_, fun k m b hk hm => ?_, fun k b hb => h.bd _ b hb.2, fun k c hl b hb m hm => ?_, fun k hk b hb => ?_, fun k c hc m hm => ?_⟩
  · rw [hφ k]
    rcases Nat.lt_or_ge k Tn.length with hk | hk
    · rw [hgetl hk] at hc
      have hh := hp.holds k c hc
      rw [hgl k hk]
      match c with
      | .gone => trivial
      | .box cells =>
        obtain ⟨b, t, cs, h1, h2, h3, h4⟩ := hh
        refine ⟨b, t, cs, h1, h2, h3, h4.mono fun a v ha hr => At.rel_of hr fun m hm => ?_⟩
        have := hp.cl k _ hc m (List.mem_flatMap.2 ⟨a, ha, hm⟩)
        exact congrArg σ (hgl m (by rw [← hlen]; exact this))
      | .row true e l => exact hh
      | .row false e l => exact hh
      | .abs x => exact hh
      | .map kk vk l => exact hh
      | .rows _ _ _ => exact hh
    · obtain ⟨n, c0, h1, h2, rfl⟩ := hget hk hc
      have hh := h.holds n c0 h2
      rw [hgr hk h1]
      have hno : ∀ b, ¬ (k < Tn.length /\φ (Tn.getD k 0) b) := fun b hb => by omega
      match c0 with
      | .gone => trivial
      | .box cells => trivial
      | .row own e l => exact ⟨hh.rd hC, hno⟩
      | .abs x => trivial
      | .map kk vk l => trivial
      | .rows _ _ _ => trivial
  · rw [hgl k hk.1] at hk
    rw [hgl m hm.1] at hm
    exact hp.dis k m b hk hm
  · rw [hgl m hm.1] at hm
    rcases Nat.lt_or_ge k Tn.length with hk | hk
    · rw [hgetl hk] at hl
      rw [hgl k hk] at hb
      exact hp.imm k c hl b hb m hm
    · obtain ⟨n, c0, h1, h2, rfl⟩ := hget hk hl
      rw [hgr hk h1] at hb
      match c0 with
      | .gone | .box _ | .abs _ | .map _ _ _ | .rows _ _ _ => exact hb.elim
      | .row own e' l' =>
        obtain ⟨hpos, hb⟩ := hb
        cases own with
        | false => exact h.immr n _ _ h2 hpos b hb _ hm.2
        | true =>
          have hh := h.holds n _ h2
          have hn : φ n b := (hh.2 b).2 hb
          have := h.dis _ _ b hm.2 hn
          have hmem : n ∈ Tn := by
            rw [← this]
            exact List.mem_of_getElem? (getD_some (d := 0) hm.1)
          have hok' := List.all_eq_true.1 hok n (List.mem_of_getElem? h1)
          simp [isOwn, h2, hmem] at hok'
  · simp [locH, pickH] at hk
    have := hb.1
    omega
  · have hle : (locH Tn Ln H).length = Tn.length + Ln.length := by simp [locH, pickH]
    rcases Nat.lt_or_ge k Tn.length with hk | hk
    · rw [hgetl hk] at hc
      have := hp.cl k c hc m hm
      rw [hlen] at this
      omega
    · obtain ⟨n, c0, h1, h2, rfl⟩ := hget hk hc
      cases c0 <;> simp [Chunk.lent, Chunk.names] at hm
end
end Go.Proofs.YtmjnoiajenoinaaGreat.Sx
end
section
/- The rule of the frame, end. No program in sight. -/
namespace Go.Proofs.YtmjnoiajenoinaaGreat.Sx
open Go

section
variable {C : Ctx}
variable {H H' H1 : List (Chunk C)} {σ σ' σ1 : Nat ->Value} {φ φ' φ1 : Nat ->Nat ->Prop} {w w' : World}

def backσ (Tn L : List Nat) (h0 : Nat) (σ σ1 : Nat ->Value) (n : Nat) : Value := if n < h0 then (match idxOf n Tn with | some k => σ1 k | none => σ n) else σ1 (n - h0 + L.length)
def backφ (Tn L : List Nat) (h0 : Nat) (φ φ1 : Nat ->Nat ->Prop) (n b : Nat) : Prop := if n < h0 then (match idxOf n Tn with | some k => φ1 k b | none => φ n b) else φ1 (n - h0 + L.length) b

theorem locH_get {Tn Ln : List Nat} {k n : Nat} (hT : ∀ n ∈ Tn, n < H.length) (h : Tn[k]? = some n) : (locH Tn Ln H)[k]? = (H[n]?).map (Chunk.ren fun n => idxOf n Tn) := by
  have hk := (List.getElem?_eq_some_iff.1 h).1
  unfold locH
  rw [List.getElem?_append_left (by simpa [pickH] using hk)]
  unfold pickH
  rw [List.getElem?_map, h, getD_some (d := .gone) (hT n (List.mem_of_getElem? h))]
  rfl
theorem frame_out (hC : C.OK) (h : Sat C σ φ w H) {Tn Ln : List Nat} (hnd : Tn.Nodup) (hT : ∀ n ∈ Tn, n < H.length) (hL : ∀ n ∈ Ln, n < H.length) (hok : okLent Tn Ln H = true) {ts : List Nat} {r : SV} {v : Value}
    (g : COut C (locH Tn Ln H) (fun k => σ ((Tn ++ Ln).getD k 0)) (fun k b => k < Tn.length /\φ ((Tn ++ Ln).getD k 0) b) w ts r v H1 σ1 φ1 w')
    (hoo : okOut Tn.length (Tn ++ Ln).length (locH Tn Ln H) H1 ts = true) :
    COut C H σ φ w (ts.filterMap (Tn[·]?)) (r.ren (backN (Tn ++ Ln) H.length)) v (backH Tn (Tn ++ Ln) (ts.filterMap (Tn[·]?)) H H1) (backσ Tn (Tn ++ Ln) H.length σ σ1) (backφ Tn (Tn ++ Ln) H.length φ φ1) w' := by
  have hl0 : (locH Tn Ln H).length = (Tn ++ Ln).length := by simp [locH, pickH]
  have hn0 : (Tn ++ Ln).length <=H1.length := hl0 ▸ g.len
  have htl : Tn.length <=(Tn ++ Ln).length := by simp
  have hgl : ∀ {k n : Nat}, Tn[k]? = some n ->(Tn ++ Ln).getD k 0 = n := fun {k n} hk => by
    simp [List.getD_eq_getElem?_getD, List.getElem?_append_left (List.getElem?_eq_some_iff.1 hk).1, hk]
  have hts : ∀ {k n : Nat}, Tn[k]? = some n ->n ∉ ts.filterMap (Tn[·]?) ->k ∉ ts := fun {k n} hk hn hh => hn (List.mem_filterMap.2 ⟨k, hh, hk⟩)
  have hown : ∀ {k n : Nat}, Tn[k]? = some n ->isOwn (locH Tn Ln H) k = isOwn H n := fun {k n} hk => isOwn_ren (locH_get hT hk)
  have hks : ∀ {k n : Nat}, Tn[k]? = some n ->k < (locH Tn Ln H).length := fun {k n} hk => by
    have := (List.getElem?_eq_some_iff.1 hk).1; omega
  have hsame : ∀ {k n : Nat}, Tn[k]? = some n ->isOwn H n = false ∨ n ∉ ts.filterMap (Tn[·]?) ->σ1 k = σ n := fun {k n} hk ho => by
    have := g.agree k (hks hk) (ho.imp (fun e => (hown hk).trans e) (hts hk))
    rw [this, hgl hk]
  have hblen : (backH Tn (Tn ++ Ln) (ts.filterMap (Tn[·]?)) H H1).length = H.length + (H1.length - (Tn ++ Ln).length) := by simp [backH]
  have hbin : ∀ {n k : Nat}, idxOf n Tn = some k ->(backH Tn (Tn ++ Ln) (ts.filterMap (Tn[·]?)) H H1)[n]? = (H1[k]?).map (Chunk.ren (backN (Tn ++ Ln) H.length)) := fun {n k} hk => by
    have hn := hT n (List.mem_of_getElem? (idxOf_spec hk))
    have := hks (idxOf_spec hk)
    unfold backH
    rw [List.getElem?_append_left (by simpa using hn), List.getElem?_map, List.getElem?_range hn]
    simp only [Option.map_some, hk]
    rw [getD_some (d := .gone) (l := H1) (i := k) (by omega)]
    rfl
  have hbno : ∀ {n : Nat}, n < H.length ->idxOf n Tn = none ->(backH Tn (Tn ++ Ln) (ts.filterMap (Tn[·]?)) H H1)[n]? = (killsH ((ts.filterMap (Tn[·]?)).filter (isOwn H)) H)[n]? := fun {n} hn hk => by
    unfold backH
    rw [List.getElem?_append_left (by simpa using hn), List.getElem?_map, List.getElem?_range hn]
    simp only [Option.map_some, hk]
    rw [← getD_some (by rw [killsH_length]; exact hn)]
  have hbnew : ∀ {n : Nat}, H.length <=n ->(backH Tn (Tn ++ Ln) (ts.filterMap (Tn[·]?)) H H1)[n]? = (H1[n - H.length + (Tn ++ Ln).length]?).map (Chunk.ren (backN (Tn ++ Ln) H.length)) := fun {n} hn => by
    unfold backH
    rw [List.getElem?_append_right (by simpa using hn), List.getElem?_map, List.getElem?_drop]
    simp only [List.length_map, List.length_range, Nat.add_comm]
  -- the source of a name that was handed over or is new
  have src : ∀ n, (n ∈ Tn ∨ H.length <=n) ->∃ k, backσ Tn (Tn ++ Ln) H.length σ σ1 n = σ1 k /\(∀ b, backφ Tn (Tn ++ Ln) H.length φ φ1 n b ↔ φ1 k b) ∧
      (backH Tn (Tn ++ Ln) (ts.filterMap (Tn[·]?)) H H1)[n]? = (H1[k]?).map (Chunk.ren (backN (Tn ++ Ln) H.length)) /\((Tn[k]? = some n /\n < H.length) ∨ ((Tn ++ Ln).length <=k /\n = H.length + (k - (Tn ++ Ln).length))) := by
    intro n hn
    by_cases hlt : n < H.length
    · have hmem : n ∈ Tn := hn.resolve_right (by omega)
      cases hi : idxOf n Tn with
      | none => exact absurd hmem (idxOf_none hi)
      | some k => exact ⟨k, by simp [backσ, hlt, hi], fun b => by simp [backφ, hlt, hi], hbin hi, .inl ⟨idxOf_spec hi, hlt⟩⟩
    · exact ⟨n - H.length + (Tn ++ Ln).length, by simp only [backσ, if_neg hlt], fun b => by simp only [backφ, if_neg hlt], hbnew (by omega), .inr ⟨by omega, by omega⟩⟩
  have hno : ∀ n, ¬ (n ∈ Tn ∨ H.length <=n) ->n < H.length /\idxOf n Tn = none := fun n hn => by
    have h1 : n ∉ Tn := fun e => hn (.inl e)
    refine ⟨by have : ¬ H.length <=n := fun e => hn (.inr e); omega, ?_⟩
    cases hi : idxOf n Tn with
    | none => rfl
    | some k => exact absurd (List.mem_of_getElem? (idxOf_spec hi)) h1
  have hρ : ∀ j m, backN (Tn ++ Ln) H.length j = some m ->backσ Tn (Tn ++ Ln) H.length σ σ1 m = σ1 j := by
    intro j m hjm
    unfold backN at hjm
    split at hjm
    · rename_i n hn
      simp only [Option.some.injEq] at hjm
      subst hjm
      rcases Nat.lt_or_ge j Tn.length with hj | hj
      · rw [List.getElem?_append_left hj] at hn
        simp [backσ, hT n (List.mem_of_getElem? hn), idxOf_nodup hnd hn]
      · have hjl := (List.getElem?_eq_some_iff.1 hn).1
        have hn' := hn
        rw [List.getElem?_append_right hj] at hn
        have hnl := hL n (List.mem_of_getElem? hn)
        have hlent : isOwn (locH Tn Ln H) j = false := by
          unfold isOwn locH
          rw [List.getElem?_append_right (by simpa [pickH] using hj)]
          simp only [pickH, List.length_map, List.getElem?_map, hn, Option.map_some]
          cases H.getD n .gone <;> rfl
        have hj1 : σ1 j = σ n := by
          rw [g.agree j (by omega) (.inl hlent)]
          simp [List.getD_eq_getElem?_getD, hn']
        rw [hj1]
        unfold backσ
        rw [if_pos hnl]
        split
        · rename_i k hk
          refine hsame (idxOf_spec hk) (.inl ?_)
          have := List.all_eq_true.1 hok n (List.mem_of_getElem? hn)
          have hmem := List.mem_of_getElem? (idxOf_spec hk)
          simpa [hmem] using this
        · rfl
    · rename_i hj
      simp only [Option.some.injEq] at hjm
      subst hjm
      have : (Tn ++ Ln).length <=j := List.getElem?_eq_none_iff.1 hj
      unfold backσ
      rw [if_neg (by omega)]
      congr 1
      omega
  have hren : ∀ j m, backN (Tn ++ Ln) H.length j = some m ->j < H1.length ->m < H.length + (H1.length - (Tn ++ Ln).length) := by
    intro j m hjm hj
    unfold backN at hjm
    split at hjm
    · rename_i n hn
      simp only [Option.some.injEq] at hjm
      subst hjm
      rcases List.mem_append.1 (List.mem_of_getElem? hn) with hn | hn
      · have := hT n hn; omega
      · have := hL n hn; omega
    · rename_i hj'
      simp only [Option.some.injEq] at hjm
      subst hjm
      have : (Tn ++ Ln).length <=j := List.getElem?_eq_none_iff.1 hj'
      omega
  have hfrl : ∀ b, b < w.heap.size ->(∀ n, (n ∈ Tn ∨ H.length <=n) ->¬ φ n b) ->w'.heap[b]? = w.heap[b]? := fun b hb hno => g.adv.fr b hb fun k hk => by
    have := getD_some (d := 0) hk.1
    rw [hgl this] at hk
    exact hno _ (.inl (List.mem_of_getElem? this)) hk.2
  have hold' : ∀ n, ¬ (n ∈ Tn ∨ H.length <=n) ->backσ Tn (Tn ++ Ln) H.length σ σ1 n = σ n /\∀ b, backφ Tn (Tn ++ Ln) H.length φ φ1 n b ↔ φ n b := fun n hn => by
    obtain ⟨h1, h2⟩ := hno n hn
    exact ⟨by simp [backσ, h1, h2], fun b => by simp [backφ, h1, h2]⟩
  have hgrow : ∀ n b, (n ∈ Tn ∨ H.length <=n) ->backφ Tn (Tn ++ Ln) H.length φ φ1 n b ->(∃ m, (m ∈ Tn ∨ H.length <=m) /\φ m b) ∨ w.heap.size <=b := fun n b hn hb => by
    obtain ⟨k, _, h2, _⟩ := src n hn
    rcases g.adv.grow k b ((h2 b).1 hb) with ⟨m, hm⟩ | hle
    · have := getD_some (d := 0) hm.1
      rw [hgl this] at hm
      exact .inl ⟨_, .inl (List.mem_of_getElem? this), hm.2⟩
    · exact .inr hle
  have hagree : ∀ n, n < H.length ->isOwn H n = false ∨ n ∉ ts.filterMap (Tn[·]?) ->backσ Tn (Tn ++ Ln) H.length σ σ1 n = σ n := fun n hn ho => by
    unfold backσ
    rw [if_pos hn]
    split
    · rename_i k hk; exact hsame (idxOf_spec hk) ho
    · rfl
  obtain ⟨hoo1, hoo23⟩ := Bool.and_eq_true_iff.1 hoo
  obtain ⟨hoo2, hoo3⟩ := Bool.and_eq_true_iff.1 hoo23
  have hsat : Sat C (backσ Tn (Tn ++ Ln) H.length σ σ1) (backφ Tn (Tn ++ Ln) H.length φ φ1) w' (backH Tn (Tn ++ Ln) (ts.filterMap (Tn[·]?)) H H1) := by
    refine (h.kills ((ts.filterMap (Tn[·]?)).filter (isOwn H))).step hC (fun n => n ∈ Tn ∨ H.length <=n) g.adv.size hfrl (fun n hn => ⟨hbno (hno n hn).1 (hno n hn).2, hold' n hn⟩) (fun n c hn hc m hm => ?_) (fun n c hn hc => ?_)
      hgrow (fun n m b hn hm hb hb' => ?_) (fun n b hn hb => ?_) (fun n c hn hc b hb m hm => ?_) (fun n hn b hb => ?_) (by rw [killsH_length, hblen]; omega) (fun n c hn hc m hm => ?_)
    · have hlt := (h.kills ((ts.filterMap (Tn[·]?)).filter (isOwn H))).cl n c hc m hm
      rw [killsH_length] at hlt
      refine hagree m hlt ?_
      have := killsH_get _ hc m hm
      rw [List.mem_filter] at this
      by_cases hm' : m ∈ ts.filterMap (Tn[·]?)
      · refine .inl ?_
        cases hx : isOwn H m with
        | false => rfl
        | true => exact absurd ⟨hm', hx⟩ this
      · exact .inr hm'
    · obtain ⟨k, h1, h2, h3, _⟩ := src n hn
      rw [h3, Option.map_eq_some_iff] at hc
      obtain ⟨c0, hc0, rfl⟩ := hc
      rw [h1, show backφ Tn (Tn ++ Ln) H.length φ φ1 n = φ1 k from funext fun b => propext (h2 b)]
      exact (g.sat.holds k c0 hc0).ren hρ
    · obtain ⟨k, _, h2, _, h4⟩ := src n hn
      obtain ⟨k', _, h2', _, h4'⟩ := src m hm
      have := g.sat.dis k k' b ((h2 b).1 hb) ((h2' b).1 hb')
      subst this
      rcases h4 with ⟨h4, _⟩ | ⟨h4, h5⟩ <;> rcases h4' with ⟨h4', _⟩ | ⟨h4', h5'⟩
      · exact Option.some.inj (h4.symm.trans h4')
      · have := (List.getElem?_eq_some_iff.1 h4).1; omega
      · have := (List.getElem?_eq_some_iff.1 h4').1; omega
      · omega
    · obtain ⟨k, _, h2, _⟩ := src n hn
      exact g.sat.bd k b ((h2 b).1 hb)
    · obtain ⟨k, h1, h2, h3, h4⟩ := src n hn
      rw [h3, Option.map_eq_some_iff] at hc
      obtain ⟨c0, hc0, rfl⟩ := hc
      rw [h1] at hb
      have hb := Ro.ren.1 hb
      match c0, hb with
      | .rows _ _ _, _ =>
        have := List.all_eq_true.1 hoo3 _ (List.mem_of_getElem? hc0)
        simp [isRows] at this
      | .gone, hb | .box _, hb | .abs _, hb | .map _ _ _, hb | .row true _ _, hb => exact hb.elim
      | .row false e l, hb =>
      obtain ⟨hpos, hb⟩ := hb
      by_cases hmS : m ∈ Tn ∨ H.length <=m
      · obtain ⟨k', _, h2', _⟩ := src m hmS
        exact g.sat.immr k e l hc0 hpos b hb k' ((h2' b).1 hm)
      · have hm2 := ((hold' m hmS).2 b).1 hm
        rcases h4 with ⟨h4, hlt⟩ | ⟨h4, _⟩
        · have hk := (List.getElem?_eq_some_iff.1 h4).1
          have hkk := List.all_eq_true.1 hoo1 k (List.mem_range.2 hk)
          have e1 : isRow0 (H1.getD k .gone) = true := by
            have : H1.getD k .gone = .row false e l := by simp [List.getD_eq_getElem?_getD, hc0]
            rw [this]; rfl
          rw [e1] at hkk
          simp only [Bool.not_true, Bool.false_or, Bool.or_eq_true, Bool.and_eq_true] at hkk
          have hHn := getD_some (d := .gone) hlt
          have hHl := locH_get (Ln := Ln) hT h4
          rw [hHn] at hHl
          have hgd : (locH Tn Ln H).getD k .gone = (H.getD n .gone).ren (fun n => idxOf n Tn) := by
            rw [List.getD_eq_getElem?_getD, hHl]; rfl
          rcases hkk with hkk | ⟨hk1, hk2⟩
          · rw [hgd] at hkk
            generalize H.getD n .gone = c at *
            match c, hkk, hHn with
            | .row false e' l', _, hHn =>
              have hnown : isOwn H n = false := by simp [isOwn, hHn]
              have hσ := hsame h4 (.inl hnown)
              rw [hσ] at hb
              refine h.immr n e' l' hHn ?_ b hb m hm2
              have i1 := (g.sat.holds k _ hc0).1
              have i2 := (h.holds n _ hHn).1
              obtain ⟨A, c, e1, _⟩ := i1
              obtain ⟨A', c', e2, _⟩ := i2
              rw [hσ, e2] at e1
              simp only [Value.slice.injEq] at e1
              omega
          · have hk2' : k ∉ ts := by simpa using hk2
            rw [hown h4] at hk1
            have hφn : ∀ b, φ n b ↔ (σ n).ownBlock = some b := by
              rcases isOwn_some.1 hk1 with ⟨e', l', hHo⟩ | ⟨a', e', l', hHo⟩
              · exact (h.holds n _ hHo).2
              · exact (h.holds n _ hHo).2.2
            have hσ : σ1 k = σ n := by
              rw [g.agree k (hks h4) (.inr hk2'), hgl h4]
            rw [hσ] at hb
            have := (hφn b).2 hb
            have := h.dis m n b hm2 this
            subst this
            exact hmS (.inl (List.mem_of_getElem? h4))
        · have hmem : Chunk.row false e l ∈ H1.drop (Tn ++ Ln).length := by
            refine List.mem_of_getElem? (i := k - (Tn ++ Ln).length) ?_
            rw [List.getElem?_drop]
            rw [show (Tn ++ Ln).length + (k - (Tn ++ Ln).length) = k by omega]
            exact hc0
          have := List.all_eq_true.1 hoo2 _ hmem
          simp [isRow0] at this
    · rw [hblen] at hn
      unfold backφ at hb
      rw [if_neg (by omega)] at hb
      exact g.sat.out _ (by omega) b hb
    · obtain ⟨k, h1, h2, h3, h4⟩ := src n hn
      rw [h3, Option.map_eq_some_iff] at hc
      obtain ⟨c0, hc0, rfl⟩ := hc
      obtain ⟨j, hj, e⟩ := Chunk.ren_names m hm
      rw [hblen]
      exact hren j m e (g.sat.cl k c0 hc0 j hj)
  refine ⟨SV.ren_rel hρ g.rel, fun m hm => ?_, hsat, ⟨g.adv.os, g.adv.tape, g.adv.output, g.adv.size, fun k hk hn => hfrl k hk fun n _ => hn n, fun n b hb => ?_⟩, by rw [hblen]; omega, hagree, fun n hn ho => ?_, fun n hn hnt => ?_⟩
  · obtain ⟨j, hj, e⟩ := SV.ren_names m hm
    rw [hblen]
    exact hren j m e (g.rcl j hj)
  · by_cases hS : n ∈ Tn ∨ H.length <=n
    · rcases hgrow n b hS hb with ⟨m, _, hm⟩ | hle
      · exact .inl ⟨m, hm⟩
      · exact .inr hle
    · exact .inl ⟨n, ((hold' n hS).2 b).1 hb⟩
  · cases hi : idxOf n Tn with
    | some k =>
      rw [isOwn_ren (hbin hi)] at ho
      have := g.own k (hks (idxOf_spec hi)) ho
      rw [hown (idxOf_spec hi)] at this
      exact this
    | none =>
      have := hbno hn hi
      unfold isOwn at ho
      rw [this] at ho
      exact killsH_own ((ts.filterMap (Tn[·]?)).filter (isOwn H)) ▸ ho
  · cases hi : idxOf n Tn with
    | some k =>
      obtain ⟨h1, h2⟩ := g.touch k (hks (idxOf_spec hi)) (hts (idxOf_spec hi) hnt)
      have hl : ∀ b, Rdb (locH Tn Ln H) (fun k => σ ((Tn ++ Ln).getD k 0)) k b ↔ Rdb H σ n b := fun b => Rdb.same (by simp only [hgl (idxOf_spec hi)]) (locH_get hT (idxOf_spec hi))
      refine ⟨fun b => ?_, fun b hb hlt => h2 b ((hl b).2 hb) hlt⟩
      rw [← hl b, ← h1 b]
      exact Rdb.same (by simp [backσ, hn, hi]) (hbin hi)
    | none =>
      have hS : ¬ (n ∈ Tn ∨ H.length <=n) := fun hh => by
        rcases hh with hh | hh
        · exact idxOf_none hi hh
        · omega
      refine ⟨fun b => ?_, fun b hb hlt => hfrl b hlt fun m hm hφ => hS (by rw [rdb_apart h hb hφ]; exact hm)⟩
      rw [← killsH_rdb ((ts.filterMap (Tn[·]?)).filter (isOwn H)) (σ := σ)]
      unfold Rdb
      rw [hbno hn hi, (hold' n hS).1]

theorem frame (hC : C.OK) {f : FuncId} {t : Tfm C} (ht : SoundT C f t) (ms : List Bool) : SoundT C f (frameT ms t) where
  enter := ht.enter
  call args H K hk := by
    intro σ φ w vs hs hr hn
    unfold frameT at hk
    simp only at hk
    split at hk <;> try (exact hk.elim)
    rename_i hok
    obtain ⟨d1, ⟨_, _⟩, d3⟩ := dedup_spec (rootsA ms args) [] List.nodup_nil
    obtain ⟨c1, _, c3⟩ := closeN_spec hs.cl 6 _ d1 fun n hn' => by
      rcases d3 n hn' with h | h
      · cases h
      · obtain ⟨x, hx, hxn⟩ := rootsA_names args ms n h
        exact hn x hx n hxn
    generalize closeN H 6 (dedup [] (rootsA ms args)) = Tn at *
    obtain ⟨x, l1, l2, l3, l4⟩ := locTs_spec (Tn := Tn) args ms []
    have hx : (locTs Tn ms args []).2 = x := by simpa using l1
    rw [hx] at hk hok l3
    have hL : ∀ n ∈ x, n < H.length := fun n hnx => by
      obtain ⟨a, ha, han⟩ := l2 n hnx
      exact hn a ha n han
    have hsl := hs.loc hC c1 c3 hL hok
    have hrl := l4 σ (fun k => σ ((Tn ++ x).getD k 0)) [] (fun k n hkn => by
      have : (Tn ++ x)[k]? = some n := by simpa using hkn
      simp [List.getD_eq_getElem?_getD, this]) vs hr
    refine Calls.mono (ht.call _ _ _ hk _ _ w vs hsl hrl fun a ha m hm => ?_) fun e w' hh => ?_
    · have := l3 a ha m hm
      simpa [locH, pickH] using this
    · cases e with
      | panicked ch => exact hh.elim
      | outgrown => exact hh.elim
      | returned v =>
        obtain ⟨r, H1, ts, σ1, φ1, hout, hK⟩ := hh
        split at hK <;> try (exact hK.elim)
        rename_i hoo
        exact ⟨_, _, _, _, _, frame_out hC hs c1 c3 hL hok hout hoo, hK⟩
/-- Every row is of a length that the machine bears. -/
def RowB (H : List (Chunk C)) : Prop := ∀ (n : Nat) own e l, H[n]? = some (.row own e l) ->l.length <=maxLen

theorem CallOK.rowB (hC : C.OK) {f : FuncId} {args : List TV} {K : SV ->List (Chunk C) ->List Nat ->Prop} (h : RowB H ->CallOK C f args H K) : CallOK C f args H K := by
  intro σ φ w vs hs hr hn
  refine h (fun n own e l hl => ?_) σ φ w vs hs hr hn
  obtain ⟨A, c, _, hrd⟩ := (hs.holds n _ hl).rd hC
  exact Nat.le_trans hrd.cap hrd.max
end
end Go.Proofs.YtmjnoiajenoinaaGreat.Sx
end
section
/- The kinds of elements of the arena's programs, and the logic over them. -/
namespace Go.Proofs.YtmjnoiajenoinaaGreat.Sx
open Go

structure SlotT where
  alloc : Bool
  count : Int
  gen : Int
  node : NodeT
  deriving DecidableEq
structure FindT where
  kind : Int
  slot : Int
  want : Int
  have_ : Int
  deriving DecidableEq
structure ItemT where
  index : Int
  size : Int
  key : Int
  value : Int
  single : Bool
  deriving DecidableEq
structure PStepT where
  index : Int
  open_ : Bool
  deriving DecidableEq
structure LStepT where
  drop : Bool
  key : Int
  value : Int
  left : Int
  right : Int
  deriving DecidableEq
structure MoveT where
  kind : Int
  key : Int
  at_ : Int
  deriving DecidableEq
structure EdtT where
  del : Bool
  at_ : Int
  ent : Ent
  deriving DecidableEq
structure EduT where
  del : Bool
  ent : Ent
  deriving DecidableEq

inductive EC where
  | ent
  | i64
  | int
  | u32
  | bool
  | node
  | chg
  | slot
  | find
  | item
  | edm
  | hent
  deriving DecidableEq

def EC.α : EC ->Type
  | .ent => Ent
  | .i64 => Int
  | .int => Int
  | .u32 => Int
  | .bool => Bool
  | .node => NodeT
  | .chg => Chg
  | .slot => SlotT
  | .find => FindT
  | .item => ItemT
  | .edm => EdtT
  | .hent => Unit

def EC.enc : (e : EC) ->e.α ->List Value
  | .ent, x => [.int .i64 x.1, .int .i64 x.2]
  | .i64, x => [.int .i64 x]
  | .int, x => [.int .i64 x]
  | .u32, x => [.int .u32 x]
  | .bool, x => [.bool x]
  | .node, x => [.int .i64 x.key, .int .i64 x.value, .int .u32 x.left, .int .u32 x.right, .int .i64 x.size, .int .i64 x.sum, .int .i64 x.min, .int .i64 x.max]
  | .chg, x => [.int .i64 x.kind, .int .i64 x.key, .int .i64 x.old, .int .i64 x.new]
  | .slot, x => [.bool x.alloc, .int .i64 x.count, .int .u32 x.gen, .int .i64 x.node.key, .int .i64 x.node.value, .int .u32 x.node.left, .int .u32 x.node.right, .int .i64 x.node.size, .int .i64 x.node.sum, .int .i64 x.node.min, .int .i64 x.node.max]
  | .find, x => [.int .i64 x.kind, .int .u32 x.slot, .int .i64 x.want, .int .i64 x.have_]
  | .item, x => [.int .u32 x.index, .int .i64 x.size, .int .i64 x.key, .int .i64 x.value, .bool x.single]
  | .edm, x => [.bool x.del, .int .i64 x.at_, .int .i64 x.ent.1, .int .i64 x.ent.2]
  | .hent, _ => [.slice none 0 0]

def dcd_ent : List Value ->Option Ent := fun l => match l with | [.int .i64 x0, .int .i64 x1] => some (x0, x1) | _ => none
def dcd_i64 : List Value ->Option Int := fun l => match l with | [.int .i64 x0] => some x0 | _ => none
def dcd_int : List Value ->Option Int := fun l => match l with | [.int .i64 x0] => some x0 | _ => none
def dcd_u32 : List Value ->Option Int := fun l => match l with | [.int .u32 x0] => some x0 | _ => none
def dcd_bool : List Value ->Option Bool := fun l => match l with | [.bool x0] => some x0 | _ => none
def dcd_node : List Value ->Option NodeT := fun l => match l with | [.int .i64 x0, .int .i64 x1, .int .u32 x2, .int .u32 x3, .int .i64 x4, .int .i64 x5, .int .i64 x6, .int .i64 x7] => some ⟨x0, x1, x2, x3, x4, x5, x6, x7⟩ | _ => none
def dcd_chg : List Value ->Option Chg := fun l => match l with | [.int .i64 x0, .int .i64 x1, .int .i64 x2, .int .i64 x3] => some ⟨x0, x1, x2, x3⟩ | _ => none
def dcd_slot : List Value ->Option SlotT := fun l => match l with | [.bool x0, .int .i64 x1, .int .u32 x2, .int .i64 x3, .int .i64 x4, .int .u32 x5, .int .u32 x6, .int .i64 x7, .int .i64 x8, .int .i64 x9, .int .i64 x10] => some ⟨x0, x1, x2, ⟨x3, x4, x5, x6, x7, x8, x9, x10⟩⟩ | _ => none
def dcd_find : List Value ->Option FindT := fun l => match l with | [.int .i64 x0, .int .u32 x1, .int .i64 x2, .int .i64 x3] => some ⟨x0, x1, x2, x3⟩ | _ => none
def dcd_item : List Value ->Option ItemT := fun l => match l with | [.int .u32 x0, .int .i64 x1, .int .i64 x2, .int .i64 x3, .bool x4] => some ⟨x0, x1, x2, x3, x4⟩ | _ => none
def dcd_edm : List Value ->Option EdtT := fun l => match l with | [.bool x0, .int .i64 x1, .int .i64 x2, .int .i64 x3] => some ⟨x0, x1, (x2, x3)⟩ | _ => none
def dcd_hent : List Value ->Option Unit := fun _ => none
def EC.dcd : (e : EC) ->List Value ->Option e.α
  | .ent => dcd_ent
  | .i64 => dcd_i64
  | .int => dcd_int
  | .u32 => dcd_u32
  | .bool => dcd_bool
  | .node => dcd_node
  | .chg => dcd_chg
  | .slot => dcd_slot
  | .find => dcd_find
  | .item => dcd_item
  | .edm => dcd_edm
  | .hent => dcd_hent

def EC.dft : (e : EC) ->e.α
  | .ent => ((0 : Int), (0 : Int))
  | .i64 => (0 : Int)
  | .int => (0 : Int)
  | .u32 => (0 : Int)
  | .bool => false
  | .node => ⟨0, 0, 0, 0, 0, 0, 0, 0⟩
  | .chg => ⟨0, 0, 0, 0⟩
  | .slot => ⟨false, 0, 0, ⟨0, 0, 0, 0, 0, 0, 0, 0⟩⟩
  | .find => ⟨0, 0, 0, 0⟩
  | .item => ⟨0, 0, 0, 0, false⟩
  | .edm => ⟨false, 0, (0, 0)⟩
  | .hent => ()

def EC.sz : EC ->Nat
  | .ent => 2
  | .i64 => 1
  | .int => 1
  | .u32 => 1
  | .bool => 1
  | .node => 8
  | .chg => 4
  | .slot => 11
  | .find => 4
  | .item => 5
  | .edm => 4
  | .hent => 1

def EC.tid : EC ->TypeId
  | .ent => 56
  | .i64 => 2
  | .int => 3
  | .u32 => 29
  | .bool => 4
  | .node => 85
  | .chg => 72
  | .slot => 87
  | .find => 163
  | .item => 179
  | .edm => 120
  | .hent => 22

def EC.byT (t : TypeId) : Option EC :=
  if t = 56 then some .ent else
  if t = 2 then some .i64 else
  if t = 3 then some .int else
  if t = 29 then some .u32 else
  if t = 4 then some .bool else
  if t = 85 then some .node else
  if t = 72 then some .chg else
  if t = 87 then some .slot else
  if t = 163 then some .find else
  if t = 179 then some .item else
  if t = 120 then some .edm else
  if t = 22 then some .hent else
  none

def EC.lst (e : EC) : Option EC :=
  if e = .hent then some .ent else
  none
noncomputable def C0 : Ctx where
  P := Tryz.prog
  EC := EC
  deq := inferInstance
  α := EC.α
  enc := EC.enc
  dcd := EC.dcd
  dft := EC.dft
  sz := EC.sz
  tid := EC.tid
  byT := EC.byT
  lst := EC.lst
  X := Empty
  I := fun _ _ _ _ => False

theorem dcd_ent_spec {cs : List Value} {x : Ent} (h : dcd_ent cs = some x) : EC.enc .ent x = cs := by unfold dcd_ent at h; split at h <;> simp at h; subst h; rfl
theorem dcd_i64_spec {cs : List Value} {x : Int} (h : dcd_i64 cs = some x) : EC.enc .i64 x = cs := by unfold dcd_i64 at h; split at h <;> simp at h; subst h; rfl
theorem dcd_int_spec {cs : List Value} {x : Int} (h : dcd_int cs = some x) : EC.enc .int x = cs := by unfold dcd_int at h; split at h <;> simp at h; subst h; rfl
theorem dcd_u32_spec {cs : List Value} {x : Int} (h : dcd_u32 cs = some x) : EC.enc .u32 x = cs := by unfold dcd_u32 at h; split at h <;> simp at h; subst h; rfl
theorem dcd_bool_spec {cs : List Value} {x : Bool} (h : dcd_bool cs = some x) : EC.enc .bool x = cs := by unfold dcd_bool at h; split at h <;> simp at h; subst h; rfl
theorem dcd_node_spec {cs : List Value} {x : NodeT} (h : dcd_node cs = some x) : EC.enc .node x = cs := by unfold dcd_node at h; split at h <;> simp at h; subst h; rfl
theorem dcd_chg_spec {cs : List Value} {x : Chg} (h : dcd_chg cs = some x) : EC.enc .chg x = cs := by unfold dcd_chg at h; split at h <;> simp at h; subst h; rfl
theorem dcd_slot_spec {cs : List Value} {x : SlotT} (h : dcd_slot cs = some x) : EC.enc .slot x = cs := by unfold dcd_slot at h; split at h <;> simp at h; subst h; rfl
theorem dcd_find_spec {cs : List Value} {x : FindT} (h : dcd_find cs = some x) : EC.enc .find x = cs := by unfold dcd_find at h; split at h <;> simp at h; subst h; rfl
theorem dcd_item_spec {cs : List Value} {x : ItemT} (h : dcd_item cs = some x) : EC.enc .item x = cs := by unfold dcd_item at h; split at h <;> simp at h; subst h; rfl
theorem dcd_edm_spec {cs : List Value} {x : EdtT} (h : dcd_edm cs = some x) : EC.enc .edm x = cs := by unfold dcd_edm at h; split at h <;> simp at h; subst h; rfl
theorem dcd_hent_spec {cs : List Value} {x : Unit} (h : dcd_hent cs = some x) : EC.enc .hent x = cs := by cases h
theorem byT_spec {t : TypeId} {e : EC} (h : EC.byT t = some e) : t = e.tid := by
  unfold EC.byT at h
  by_cases h_ent : t = 56; (rw [if_pos h_ent] at h; cases h; exact h_ent); rw [if_neg h_ent] at h
  by_cases h_i64 : t = 2; (rw [if_pos h_i64] at h; cases h; exact h_i64); rw [if_neg h_i64] at h
  by_cases h_int : t = 3; (rw [if_pos h_int] at h; cases h; exact h_int); rw [if_neg h_int] at h
  by_cases h_u32 : t = 29; (rw [if_pos h_u32] at h; cases h; exact h_u32); rw [if_neg h_u32] at h
  by_cases h_bool : t = 4; (rw [if_pos h_bool] at h; cases h; exact h_bool); rw [if_neg h_bool] at h
  by_cases h_node : t = 85; (rw [if_pos h_node] at h; cases h; exact h_node); rw [if_neg h_node] at h
  by_cases h_chg : t = 72; (rw [if_pos h_chg] at h; cases h; exact h_chg); rw [if_neg h_chg] at h
  by_cases h_slot : t = 87; (rw [if_pos h_slot] at h; cases h; exact h_slot); rw [if_neg h_slot] at h
  by_cases h_find : t = 163; (rw [if_pos h_find] at h; cases h; exact h_find); rw [if_neg h_find] at h
  by_cases h_item : t = 179; (rw [if_pos h_item] at h; cases h; exact h_item); rw [if_neg h_item] at h
  by_cases h_edm : t = 120; (rw [if_pos h_edm] at h; cases h; exact h_edm); rw [if_neg h_edm] at h
  by_cases h_hent : t = 22; (rw [if_pos h_hent] at h; cases h; exact h_hent); rw [if_neg h_hent] at h
  cases h
theorem info_of {P : Program} {t : TypeId} {z : Value} {n b : Nat} {l : List Value} (h : (P.info? t).map (fun i => (i.zero, i.size, i.bytes)) = some (some z, n, b)) (hz : z.cells.toList = l) (hb : 0 < b) :
    ∃ i z, P.info? t = some i /\i.zero = some z /\i.size = n /\z.cells.toList = l /\0 < i.bytes := by
  rw [Option.map_eq_some_iff] at h
  obtain ⟨i, h1, h2⟩ := h
  simp only [Prod.mk.injEq] at h2
  exact ⟨i, z, h1, h2.1, h2.2.1, hz, h2.2.2 ▸ hb⟩

theorem lst_spec {h e : EC} (hl : EC.lst h = some e) : h.sz = 1 := by
  unfold EC.lst at hl
  by_cases h_hent : h = .hent; (rw [h_hent]; rfl); rw [if_neg h_hent] at hl
  cases hl
theorem C0.ok : C0.OK where
  len e x := by cases e <;> rfl
  one e x := by
    have h : ∀ u ∈ EC.enc e x, u.oneCell' = true := by cases e <;> (intro u hu; simp [EC.enc] at hu; (first | (repeat (rcases hu with rfl | hu; exact rfl)); done | (repeat (rcases hu with rfl | hu; exact rfl)); (subst hu; rfl)))
    exact h
  dcd e cs x h := by
    cases e with
    | ent => exact dcd_ent_spec h
    | i64 => exact dcd_i64_spec h
    | int => exact dcd_int_spec h
    | u32 => exact dcd_u32_spec h
    | bool => exact dcd_bool_spec h
    | node => exact dcd_node_spec h
    | chg => exact dcd_chg_spec h
    | slot => exact dcd_slot_spec h
    | find => exact dcd_find_spec h
    | item => exact dcd_item_spec h
    | edm => exact dcd_edm_spec h
    | hent => exact dcd_hent_spec h
  pos e := by cases e <;> decide
  info e := by
    cases e with
    | ent => exact info_of (z := .agg #[.int .i64 0, .int .i64 0]) (n := 2) (b := 16) (by kernel_rfl) rfl (by decide)
    | i64 => exact info_of (z := .int .i64 0) (n := 1) (b := 8) (by kernel_rfl) rfl (by decide)
    | int => exact info_of (z := .int .i64 0) (n := 1) (b := 8) (by kernel_rfl) rfl (by decide)
    | u32 => exact info_of (z := .int .u32 0) (n := 1) (b := 4) (by kernel_rfl) rfl (by decide)
    | bool => exact info_of (z := .bool false) (n := 1) (b := 1) (by kernel_rfl) rfl (by decide)
    | node => exact info_of (z := .agg #[.int .i64 0, .int .i64 0, .int .u32 0, .int .u32 0, .int .i64 0, .int .i64 0, .int .i64 0, .int .i64 0]) (n := 8) (b := 56) (by kernel_rfl) rfl (by decide)
    | chg => exact info_of (z := .agg #[.int .i64 0, .int .i64 0, .int .i64 0, .int .i64 0]) (n := 4) (b := 32) (by kernel_rfl) rfl (by decide)
    | slot => exact info_of (z := .agg #[.bool false, .int .i64 0, .int .u32 0, .int .i64 0, .int .i64 0, .int .u32 0, .int .u32 0, .int .i64 0, .int .i64 0, .int .i64 0, .int .i64 0]) (n := 11) (b := 80) (by kernel_rfl) rfl (by decide)
    | find => exact info_of (z := .agg #[.int .i64 0, .int .u32 0, .int .i64 0, .int .i64 0]) (n := 4) (b := 32) (by kernel_rfl) rfl (by decide)
    | item => exact info_of (z := .agg #[.int .u32 0, .int .i64 0, .int .i64 0, .int .i64 0, .bool false]) (n := 5) (b := 40) (by kernel_rfl) rfl (by decide)
    | edm => exact info_of (z := .agg #[.bool false, .int .i64 0, .int .i64 0, .int .i64 0]) (n := 4) (b := 32) (by kernel_rfl) rfl (by decide)
    | hent => exact info_of (z := .slice none 0 0) (n := 1) (b := 24) (by kernel_rfl) rfl (by decide)
  byT t e h := by
    exact byT_spec h
  lst h e hl := lst_spec hl
  local_ x := x.elim
  mixed := Tryz.checked.mixed

theorem enter_of {f : FuncId} {fn : Func} {c : Code} (hf : Tryz.prog.funcs[f]? = some fn) (hname : (fn.name == "runtime.NumGoroutine") = false) (hb : fn.body = some c) (args : Array Value) (w : World) :
    (callFunc f args).run C0.P w = .ok (.enter f args) w := MuLone.run_callFunc_enter hf hname hb args w

abbrev vI (x : Int) : At := .val (.int .i64 x)
abbrev vU (x : Int) : At := .val (.int .u32 x)
abbrev vU64 (x : Int) : At := .val (.int .u64 x)
abbrev vB (b : Bool) : At := .val (.bool b)
abbrev KT := SV ->List (Chunk C0) ->List Nat ->Prop
/-- A contract out of a run. -/
theorem SoundT.of {f : FuncId} {fn : Func} {c : Code} {t : Tfm C0} (hf : Tryz.prog.funcs[f]? = some fn) (hname : (fn.name == "runtime.NumGoroutine") = false) (hb : fn.body = some c)
    (h : ∀ args H K, t args H K ->RowB H ->∃ A : Ann C0, GOK C0 A.Γ /\vc C0 A fn args H (normK H.length K)) : SoundT C0 f t :=
  ⟨enter_of hf hname hb, fun args H K hk => by
    refine CallOK.rowB C0.ok fun hB => ?_
    obtain ⟨A, hG, hv⟩ := h args H K hk hB
    exact CallOK.norm (call_of_vc C0.ok hG hf hv)⟩
/-- The same names touched, whichever way a run takes. -/
def wideK (W0 : List Nat) (K : KT) : KT := fun r H ts => if ts.all W0.contains then K r H W0 else False
theorem CallOK.wide {f : FuncId} {args : List TV} {H : List (Chunk C0)} {K : KT} (W0 : List Nat) (h : CallOK C0 f args H (wideK W0 K)) : CallOK C0 f args H K := by
  intro σ φ w vs hs hr hn
  refine Calls.mono (h σ φ w vs hs hr hn) fun e w' hh => ?_
  cases e with
  | panicked ch => exact hh.elim
  | outgrown => exact hh.elim
  | returned v =>
    obtain ⟨r, H', ts, σ', φ', hout, hK⟩ := hh
    unfold wideK at hK
    split at hK <;> try exact hK.elim
    rename_i hsub
    have hts : ∀ n, n ∉ W0 ->n ∉ ts := fun n hn ht => hn (by simpa using List.all_eq_true.1 hsub n ht)
    exact ⟨r, H', W0, σ', φ', ⟨hout.rel, hout.rcl, hout.sat, hout.adv, hout.len, fun n hn ho => hout.agree n hn (ho.imp id (hts n)), hout.own, fun n hn ht => hout.touch n hn (hts n ht)⟩, hK⟩
theorem SoundT.ofW {f : FuncId} {fn : Func} {c : Code} {t : Tfm C0} (W0 : List Nat) (hf : Tryz.prog.funcs[f]? = some fn) (hname : (fn.name == "runtime.NumGoroutine") = false) (hb : fn.body = some c)
    (h : ∀ args H K, t args H K ->RowB H ->∃ A : Ann C0, GOK C0 A.Γ /\vc C0 A fn args H (normK H.length (wideK W0 K))) : SoundT C0 f t :=
  ⟨enter_of hf hname hb, fun args H K hk => by
    refine CallOK.wide W0 (CallOK.rowB C0.ok fun hB => ?_)
    obtain ⟨A, hG, hv⟩ := h args H K hk hB
    exact CallOK.norm (call_of_vc C0.ok hG hf hv)⟩

theorem SoundT.weak {f : FuncId} {t t' : Tfm C0} (h : SoundT C0 f t) (hw : ∀ args H K, t' args H K ->t args H K) : SoundT C0 f t' := ⟨h.enter, fun args H K hk => h.call args H K (hw args H K hk)⟩
noncomputable def A0 : Ann C0 := { Γ := [] }
theorem brS_of {b : Bool} {t f : Prop} (ht : b = true ->t) (hf : b = false ->f) : brS b t f := by cases b <;> simp_all [brS]
theorem bytes_ent : bytesOf C0 EC.ent = 16 := by kernel_rfl
theorem bytes_i64 : bytesOf C0 EC.i64 = 8 := by kernel_rfl
theorem bytes_int : bytesOf C0 EC.int = 8 := by kernel_rfl
theorem bytes_u32 : bytesOf C0 EC.u32 = 4 := by kernel_rfl
theorem bytes_bool : bytesOf C0 EC.bool = 1 := by kernel_rfl
theorem bytes_node : bytesOf C0 EC.node = 56 := by kernel_rfl
theorem bytes_chg : bytesOf C0 EC.chg = 32 := by kernel_rfl
theorem bytes_slot : bytesOf C0 EC.slot = 80 := by kernel_rfl
theorem bytes_item : bytesOf C0 EC.item = 40 := by kernel_rfl
end Go.Proofs.YtmjnoiajenoinaaGreat.Sx
end
section
/- The slots of an arena. -/
namespace Go.Proofs.YtmjnoiajenoinaaGreat.Sx
open Go

def relOK (rl : List Int) (n : Nat) : Prop := ∀ i ∈ rl, 0 <=i /\i < (n : Int)
def slM (H : List (Chunk C0)) (k : List Bool ->List Int ->List Int ->Int ->Prop) : Prop := match H with
  | [.box [.slc 1, .slc 2, .slc 3, .val (.int .u32 fr)], .row true .bool us, .row true .u32 gn, .row true .u32 rl] => k us gn rl fr
  | _ => False
abbrev slC (us : List Bool) (gn rl : List Int) (fr : Int) : List (Chunk C0) := [.box [.slc 1, .slc 2, .slc 3, vU fr], .row true EC.bool us, .row true EC.u32 gn, .row true EC.u32 rl]
def tSlCap : Tfm C0 := fun args H K => match args with
  | [.at (.ptr 0 0)] => slM H fun us gn rl fr => 1 <=us.length /\us.length <=65537 /\K (.one (.at (vI (us.length - 1)))) (slC us gn rl fr) []
  | _ => False
def tSlAllocated : Tfm C0 := fun args H K => match args with
  | [.at (.ptr 0 0), .at (.val (.int .u32 i))] => slM H fun us gn rl fr => 0 <=i /\i < 4294967296 /\us.length <=65537 /\K (.one (.at (vB (us.getD i.toNat false)))) (slC us gn rl fr) []
  | _ => False
def tSlGen : Tfm C0 := fun args H K => match args with
  | [.at (.ptr 0 0), .at (.val (.int .u32 i))] => slM H fun us gn rl fr => 0 <=i /\i < 4294967296 /\gn.length <=65537 /\K (.one (.at (vU (gn.getD i.toNat 0)))) (slC us gn rl fr) []
  | _ => False
noncomputable def aSlFree : Ann C0 := { Γ := [(70, frameT [] tSlCap)], quiet := [70] }
def tSlFree : Tfm C0 := fun args H K => match args with
  | [.at (.ptr 0 0)] => slM H fun us gn rl fr => 1 <=us.length /\us.length <=65537 /\rl.length <=65537 /\0 <=fr /\fr <=65537 /\K (.one (.at (vI (rl.length + (us.length - 1) - fr)))) (slC us gn rl fr) []
  | _ => False
noncomputable def aSlAlloc : Ann C0 := { trunc := fun n => n == 30, Γ := [(68, frameT [] tSlFree)] }
def tSlAlloc : Tfm C0 := fun args H K => match args with
  | [.at (.ptr 0 0)] => slM H fun us gn rl fr => 1 <=us.length /\us.length <=65537 /\rl.length <=65537 /\0 <=fr /\fr <=65537 /\gn.length = us.length /\relOK rl us.length /\0 <=(rl.length : Int) + (us.length - 1) - fr ∧
    ((rl.length : Int) + (us.length - 1) - fr = 0 ->K (.tup [.at (vU 0), .at (vI 2)]) (slC us gn rl fr) [0, 1, 2, 3]) ∧
    (0 < (rl.length : Int) + (us.length - 1) - fr ->∀ i rl' fr', (i, rl', fr') = fresh3 rl fr ->K (.tup [.at (vU i), .at (vI 0)]) (slC (us.set i.toNat true) (gn.set i.toNat (IntKind.u32.wrap (gn.getD i.toNat 0 + 1))) rl' fr') [0, 1, 2, 3])
  | _ => False
noncomputable def aSlRelease : Ann C0 := { Γ := [(32, frameT [] tSlAllocated)] }
def tSlRelease : Tfm C0 := fun args H K => match args with
  | [.at (.ptr 0 0), .at (.val (.int .u32 i))] => slM H fun us gn rl fr => 0 <=i /\i < 4294967296 /\us.length <=65537 /\rl.length <=65537 /\us.getD i.toNat false = true /\K (.one (.at (vI 0))) (slC (us.set i.toNat false) gn (rl ++ [i]) fr) [0, 1, 3]
  | _ => False
theorem vc_slCap (us : List Bool) (gn rl : List Int) (fr : Int) (K : KT) (h1 : 1 <=us.length) (h2 : us.length <=65537) (h : K (.one (.at (vI (us.length - 1)))) (slC us gn rl fr) []) :
    vc C0 A0 Tryz.f70 [.at (.ptr 0 0)] (slC us gn rl fr) (normK 4 K) := by
  refine Eq.mp (show (K (SV.one (TV.at (At.val (Value.int .i64 (IntKind.i64.wrap ((↑us.length : Int) - 1)))))) [(Chunk.box [(At.slc 1), (At.slc 2), (At.slc 3), (At.val (Value.int .u32 (fr)))]), (Chunk.row true (EC.bool) (us)), (Chunk.row true (EC.u32) (gn)), (Chunk.row true (EC.u32) (rl))] []) = _ by kernel_rfl) ?_
  rw [wrap_id (by omega) (by omega)]
  exact h
theorem s_slCap : SoundT C0 70 tSlCap := by
  refine .of Tryz.func70 (by decide) rfl fun args H K h hB => ?_
  unfold tSlCap at h
  split at h <;> try exact h.elim
  unfold slM at h
  split at h <;> try exact h.elim
  rename_i fr us gn rl
  exact ⟨A0, trivial, vc_slCap us gn rl _ K h.1 h.2.1 h.2.2⟩
theorem vc_slAllocated (us : List Bool) (gn rl : List Int) (fr i : Int) (K : KT) (h1 : 0 <=i) (h2 : i < 4294967296) (h3 : us.length <=65537) (h : K (.one (.at (vB (us.getD i.toNat false)))) (slC us gn rl fr) []) :
    vc C0 A0 Tryz.f32 [.at (.ptr 0 0), .at (vU i)] (slC us gn rl fr) (normK 4 K) := by
  refine Eq.mp (show (brS (decide (IntKind.i64.wrap i < (↑us.length : Int))) (((0<=i)/\(i < (↑us.length : Int))/\(K (SV.one (TV.at (At.val (Value.bool (us.getD i.toNat false))))) [(Chunk.box [(At.slc 1), (At.slc 2), (At.slc 3), (At.val (Value.int .u32 (fr)))]), (Chunk.row true (EC.bool) (us)), (Chunk.row true (EC.u32) (gn)), (Chunk.row true (EC.u32) (rl))] []))) ((K (SV.one (TV.at (At.val (Value.bool false)))) [(Chunk.box [(At.slc 1), (At.slc 2), (At.slc 3), (At.val (Value.int .u32 (fr)))]), (Chunk.row true (EC.bool) (us)), (Chunk.row true (EC.u32) (gn)), (Chunk.row true (EC.u32) (rl))] []))) = _ by kernel_rfl) ?_
  rw [wrap_id (by omega) (by omega)]
  refine brS_of (fun c => ⟨h1, by simpa using c, h⟩) fun c => ?_
  have e : us.getD i.toNat false = false := by
    have c : ¬ i < (us.length : Int) := by simpa using c
    rw [List.getD_eq_getElem?_getD, List.getElem?_eq_none (by omega)]; rfl
  rw [e] at h
  exact h
theorem s_slAllocated : SoundT C0 32 tSlAllocated := by
  refine .of Tryz.func32 (by decide) rfl fun args H K h hB => ?_
  unfold tSlAllocated at h
  split at h <;> try exact h.elim
  unfold slM at h
  split at h <;> try exact h.elim
  rename_i i _ fr us gn rl
  exact ⟨A0, trivial, vc_slAllocated us gn rl fr i K h.1 h.2.1 h.2.2.1 h.2.2.2⟩
theorem vc_slGen (us : List Bool) (gn rl : List Int) (fr i : Int) (K : KT) (h1 : 0 <=i) (h2 : i < 4294967296) (h3 : gn.length <=65537) (h : K (.one (.at (vU (gn.getD i.toNat 0)))) (slC us gn rl fr) []) :
    vc C0 A0 Tryz.f71 [.at (.ptr 0 0), .at (vU i)] (slC us gn rl fr) (normK 4 K) := by
  refine Eq.mp (show (brS (decide (IntKind.i64.wrap i ≥ (↑gn.length : Int))) ((K (SV.one (TV.at (At.val (Value.int .u32 0)))) [(Chunk.box [(At.slc 1), (At.slc 2), (At.slc 3), (At.val (Value.int .u32 (fr)))]), (Chunk.row true (EC.bool) (us)), (Chunk.row true (EC.u32) (gn)), (Chunk.row true (EC.u32) (rl))] [])) (((0<=i)/\(i < (↑gn.length : Int))/\(K (SV.one (TV.at (At.val (Value.int .u32 (gn.getD i.toNat 0))))) [(Chunk.box [(At.slc 1), (At.slc 2), (At.slc 3), (At.val (Value.int .u32 (fr)))]), (Chunk.row true (EC.bool) (us)), (Chunk.row true (EC.u32) (gn)), (Chunk.row true (EC.u32) (rl))] [])))) = _ by kernel_rfl) ?_
  rw [wrap_id (by omega) (by omega)]
  refine brS_of (fun c => ?_) fun c => ⟨h1, by simp at c; omega, h⟩
  have e : gn.getD i.toNat 0 = 0 := by
    have c : (gn.length : Int) <=i := by simpa using c
    rw [List.getD_eq_getElem?_getD, List.getElem?_eq_none (by omega)]; rfl
  rw [e] at h
  exact h
theorem s_slGen : SoundT C0 71 tSlGen := by
  refine .of Tryz.func71 (by decide) rfl fun args H K h hB => ?_
  unfold tSlGen at h
  split at h <;> try exact h.elim
  unfold slM at h
  split at h <;> try exact h.elim
  rename_i i _ fr us gn rl
  exact ⟨A0, trivial, vc_slGen us gn rl fr i K h.1 h.2.1 h.2.2.1 h.2.2.2⟩
theorem vc_slFree (us : List Bool) (gn rl : List Int) (fr : Int) (K : KT) (h1 : 1 <=us.length) (h2 : us.length <=65537) (h3 : rl.length <=65537) (h4 : 0 <=fr) (h5 : fr <=65537) (h : K (.one (.at (vI (rl.length + (us.length - 1) - fr)))) (slC us gn rl fr) []) :
    vc C0 aSlFree Tryz.f68 [.at (.ptr 0 0)] (slC us gn rl fr) (normK 4 K) := by
  refine Eq.mp (show ((1<=us.length) ∧
(us.length<=65537) ∧
(K (SV.one (TV.at (At.val (Value.int .i64 (IntKind.i64.wrap (IntKind.i64.wrap ((↑rl.length : Int) + ((↑us.length : Int) - 1)) - IntKind.i64.wrap fr)))))) [(Chunk.box [(At.slc 1), (At.slc 2), (At.slc 3), (At.val (Value.int .u32 (fr)))]), (Chunk.row true (EC.bool) (us)), (Chunk.row true (EC.u32) (gn)), (Chunk.row true (EC.u32) (rl))] [])) = _ by kernel_rfl) ?_
  refine ⟨h1, h2, ?_⟩
  rw [wrap_id (x := fr) (by omega) (by omega), wrap_id (x := (rl.length : Int) + ((us.length : Int) - 1)) (by omega) (by omega), wrap_id (by omega) (by omega)]
  exact h
theorem s_slFree : SoundT C0 68 tSlFree := by
  refine .of Tryz.func68 (by decide) rfl fun args H K h hB => ?_
  unfold tSlFree at h
  split at h <;> try exact h.elim
  unfold slM at h
  split at h <;> try exact h.elim
  rename_i fr us gn rl
  exact ⟨aSlFree, ⟨frame C0.ok s_slCap _, trivial⟩, vc_slFree us gn rl fr K h.1 h.2.1 h.2.2.1 h.2.2.2.1 h.2.2.2.2.1 h.2.2.2.2.2⟩
theorem wrap_u32 {x : Int} (h1 : 0 <=x) (h2 : x < 4294967296) : IntKind.u32.wrap x = x := by
  unfold IntKind.wrap
  simp [IntKind.signed, IntKind.bits]
  omega
theorem vc_slAlloc (us : List Bool) (gn rl : List Int) (fr : Int) (K : KT) (h1 : 1 <=us.length) (h2 : us.length <=65537) (h3 : rl.length <=65537) (h4 : 0 <=fr) (h5 : fr <=65537) (h6 : gn.length = us.length) (h7 : relOK rl us.length)
    (h8 : 0 <=(rl.length : Int) + (us.length - 1) - fr)
    (ha : (rl.length : Int) + (us.length - 1) - fr = 0 ->K (.tup [.at (vU 0), .at (vI 2)]) (slC us gn rl fr) [0, 1, 2, 3])
    (hb : 0 < (rl.length : Int) + (us.length - 1) - fr ->∀ i rl' fr', (i, rl', fr') = fresh3 rl fr ->K (.tup [.at (vU i), .at (vI 0)]) (slC (us.set i.toNat true) (gn.set i.toNat (IntKind.u32.wrap (gn.getD i.toNat 0 + 1))) rl' fr') [0, 1, 2, 3]) :
    vc C0 aSlAlloc Tryz.f69 [.at (.ptr 0 0)] (slC us gn rl fr) (normK 4 (wideK [0, 1, 2, 3] K)) := by
  refine Eq.mp (show ((1<=us.length) ∧
(us.length<=65537) ∧
(rl.length<=65537) ∧
(0<=fr) ∧
(fr<=65537) ∧
(brS ((↑rl.length : Int) + ((↑us.length : Int) - 1) - fr == 0) ((K (SV.tup [(TV.at (At.val (Value.int .u32 0))), (TV.at (At.val (Value.int .i64 2)))]) [(Chunk.box [(At.slc 1), (At.slc 2), (At.slc 3), (At.val (Value.int .u32 (fr)))]), (Chunk.row true (EC.bool) (us)), (Chunk.row true (EC.u32) (gn)), (Chunk.row true (EC.u32) (rl))] [0, 1, 2, 3])) ((brS (decide (IntKind.i64.wrap ((↑rl.length : Int) - 1) ≥ 0)) (((0<=IntKind.i64.wrap ((↑rl.length : Int) - 1))/\(IntKind.i64.wrap ((↑rl.length : Int) - 1) < (↑rl.length : Int))/\(0<=IntKind.i64.wrap ((↑rl.length : Int) - 1))/\(IntKind.i64.wrap ((↑rl.length : Int) - 1)<=(↑rl.length : Int))/\(0<=rl.getD (IntKind.i64.wrap ((↑rl.length : Int) - 1)).toNat 0)/\(rl.getD (IntKind.i64.wrap ((↑rl.length : Int) - 1)).toNat 0 < (↑us.length : Int))/\(0<=rl.getD (IntKind.i64.wrap ((↑rl.length : Int) - 1)).toNat 0)/\(rl.getD (IntKind.i64.wrap ((↑rl.length : Int) - 1)).toNat 0 < (↑gn.length : Int))/\(0<=rl.getD (IntKind.i64.wrap ((↑rl.length : Int) - 1)).toNat 0)/\(rl.getD (IntKind.i64.wrap ((↑rl.length : Int) - 1)).toNat 0 < (↑gn.length : Int)) ∧
    (K (SV.tup [(TV.at (At.val (Value.int .u32 (rl.getD (IntKind.i64.wrap ((↑rl.length : Int) - 1)).toNat 0)))), (TV.at (At.val (Value.int .i64 0)))]) [(Chunk.box [(At.slc 1), (At.slc 2), (At.slc 3), (At.val (Value.int .u32 (fr)))]), (Chunk.row true (EC.bool) (us.set (rl.getD (IntKind.i64.wrap ((↑rl.length : Int) - 1)).toNat 0).toNat true)), (Chunk.row true (EC.u32) (gn.set (rl.getD (IntKind.i64.wrap ((↑rl.length : Int) - 1)).toNat 0).toNat (IntKind.u32.wrap (gn.getD (rl.getD (IntKind.i64.wrap ((↑rl.length : Int) - 1)).toNat 0).toNat 0 + 1)))), (Chunk.row true (EC.u32) (List.take (IntKind.i64.wrap ((↑rl.length : Int) - 1)).toNat rl))] [0, 1, 2, 3]))) (((0<=IntKind.u32.wrap (fr + 1))/\(IntKind.u32.wrap (fr + 1) < (↑us.length : Int))/\(0<=IntKind.u32.wrap (fr + 1))/\(IntKind.u32.wrap (fr + 1) < (↑gn.length : Int))/\(0<=IntKind.u32.wrap (fr + 1))/\(IntKind.u32.wrap (fr + 1) < (↑gn.length : Int))/\(K (SV.tup [(TV.at (At.val (Value.int .u32 (IntKind.u32.wrap (fr + 1))))), (TV.at (At.val (Value.int .i64 0)))]) [(Chunk.box [(At.slc 1), (At.slc 2), (At.slc 3), (At.val (Value.int .u32 (IntKind.u32.wrap (fr + 1))))]), (Chunk.row true (EC.bool) (us.set (IntKind.u32.wrap (fr + 1)).toNat true)), (Chunk.row true (EC.u32) (gn.set (IntKind.u32.wrap (fr + 1)).toNat (IntKind.u32.wrap (gn.getD (IntKind.u32.wrap (fr + 1)).toNat 0 + 1)))), (Chunk.row true (EC.u32) (rl))] [0, 1, 2, 3]))))))) = _ by kernel_rfl) ?_
  rw [wrap_id (x := (rl.length : Int) - 1) (by omega) (by omega), wrap_u32 (x := fr + 1) (by omega) (by omega)]
  refine ⟨h1, h2, h3, h4, h5, brS_of (fun c => ha (by simpa using c)) fun c => ?_⟩
  have c : ¬ (rl.length : Int) + (us.length - 1) - fr = 0 := by simpa using c
  have hb := hb (by omega)
  refine brS_of (fun d => ?_) fun d => ?_
  · have d : 0 <=(rl.length : Int) - 1 := by simpa using d
    have e : ((rl.length : Int) - 1).toNat = rl.length - 1 := by omega
    rw [e]
    have hm : rl.getD (rl.length - 1) 0 ∈ rl := by
      have : rl.length - 1 < rl.length := by omega
      rw [List.getD_eq_getElem?_getD, List.getElem?_eq_getElem this]
      exact List.getElem_mem this
    have hr := h7 _ hm
    exact ⟨by omega, by omega, by omega, by omega, hr.1, hr.2, hr.1, by omega, hr.1, by omega, hb _ _ _ (by unfold fresh3; rw [if_pos (by omega)]; rfl)⟩
  · have d : ¬ 0 <=(rl.length : Int) - 1 := by simpa using d
    exact ⟨by omega, by omega, by omega, by omega, by omega, by omega, hb _ _ _ (by unfold fresh3; rw [if_neg (by omega)])⟩
theorem s_slAlloc : SoundT C0 69 tSlAlloc := by
  refine .ofW [0, 1, 2, 3] Tryz.func69 (by decide) rfl fun args H K h hB => ?_
  unfold tSlAlloc at h
  split at h <;> try exact h.elim
  unfold slM at h
  split at h <;> try exact h.elim
  rename_i fr us gn rl
  exact ⟨aSlAlloc, ⟨frame C0.ok s_slFree _, trivial⟩, vc_slAlloc us gn rl fr K h.1 h.2.1 h.2.2.1 h.2.2.2.1 h.2.2.2.2.1 h.2.2.2.2.2.1 h.2.2.2.2.2.2.1 h.2.2.2.2.2.2.2.1 h.2.2.2.2.2.2.2.2.1 h.2.2.2.2.2.2.2.2.2⟩
theorem vc_slRelease (us : List Bool) (gn rl : List Int) (fr i : Int) (K : KT) (h1 : 0 <=i) (h2 : i < 4294967296) (h3 : us.length <=65537) (h4 : rl.length <=65537) (h5 : us.getD i.toNat false = true) (h : K (.one (.at (vI 0))) (slC (us.set i.toNat false) gn (rl ++ [i]) fr) [0, 1, 3]) :
    vc C0 aSlRelease Tryz.f91 [.at (.ptr 0 0), .at (vU i)] (slC us gn rl fr) (normK 4 K) := by
  refine Eq.mp (show ((0<=i) ∧
(i < 4294967296) ∧
(us.length<=65537) ∧
(brS (!us.getD i.toNat false) ((K (SV.one (TV.at (At.val (Value.int .i64 3)))) [(Chunk.box [(At.slc 1), (At.slc 2), (At.slc 3), (At.val (Value.int .u32 (fr)))]), (Chunk.row true (EC.bool) (us)), (Chunk.row true (EC.u32) (gn)), (Chunk.row true (EC.u32) (rl))] [])) (((0<=i)/\(i < (↑us.length : Int))/\((rl.length + [i].length) * bytesOf C0 EC.u32<=140737488355328)/\(K (SV.one (TV.at (At.val (Value.int .i64 0)))) [(Chunk.box [(At.slc 1), (At.slc 2), (At.slc 3), (At.val (Value.int .u32 (fr)))]), (Chunk.row true (EC.bool) (us.set i.toNat false)), (Chunk.row true (EC.u32) (gn)), (Chunk.row true (EC.u32) (rl ++ [i]))] [0, 1, 3]))))) = _ by kernel_rfl) ?_
  simp only [bytes_u32]
  refine ⟨h1, h2, h3, brS_of (fun c => ?_) fun c => ⟨h1, ?_, ?_, h⟩⟩
  · rw [h5] at c; cases c
  · rcases Nat.lt_or_ge i.toNat us.length with hh | hh
    · omega
    · rw [List.getD_eq_getElem?_getD, List.getElem?_eq_none hh] at h5; cases h5
  · simp; omega
theorem s_slRelease : SoundT C0 91 tSlRelease := by
  refine .of Tryz.func91 (by decide) rfl fun args H K h hB => ?_
  unfold tSlRelease at h
  split at h <;> try exact h.elim
  unfold slM at h
  split at h <;> try exact h.elim
  rename_i i _ fr us gn rl
  exact ⟨aSlRelease, ⟨frame C0.ok s_slAllocated _, trivial⟩, vc_slRelease us gn rl fr i K h.1 h.2.1 h.2.2.1 h.2.2.2.1 h.2.2.2.2.1 h.2.2.2.2.2⟩
end Go.Proofs.YtmjnoiajenoinaaGreat.Sx
end
section
/- The arena's functions. -/
namespace Go.Proofs.YtmjnoiajenoinaaGreat.Sx
open Go

abbrev chS (S : Arn) : List (Chunk C0) := [.box [.ptr 1 0, .slc 2, .slc 3, vU64 S.reads], .box [.slc 4, .slc 5, .slc 6, vU S.fresh], .row true EC.node S.nodes, .row true EC.int S.counts, .row true EC.bool S.used, .row true EC.u32 S.gen, .row true EC.u32 S.rel]
def arM (H : List (Chunk C0)) (k : Arn ->Prop) : Prop := match H with
  | [.box [.ptr 1 0, .slc 2, .slc 3, .val (.int .u64 rd)], .box [.slc 4, .slc 5, .slc 6, .val (.int .u32 fr)], .row true .node nd, .row true .int ct, .row true .bool us, .row true .u32 gn, .row true .u32 rl] => k ⟨us, gn, rl, fr, nd, ct, rd⟩
  | _ => False
def arMr (H : List (Chunk C0)) (k : Arn ->List (Chunk C0) ->Prop) : Prop := match H with
  | .box [.ptr 1 0, .slc 2, .slc 3, .val (.int .u64 rd)] :: .box [.slc 4, .slc 5, .slc 6, .val (.int .u32 fr)] :: .row true .node nd :: .row true .int ct :: .row true .bool us :: .row true .u32 gn :: .row true .u32 rl :: rest => k ⟨us, gn, rl, fr, nd, ct, rd⟩ rest
  | _ => False
abbrev nodeA (n : NodeT) : TV := .agg [vI n.key, vI n.value, vU n.left, vU n.right, vI n.size, vI n.sum, vI n.min, vI n.max]
abbrev W7 : List Nat := [0, 1, 2, 3, 4, 5, 6]
def inU (i : Int) : Prop := 0 <=i /\i < 4294967296
def exW (S : Arn) : Prop := ∃ hs, Wf S hs
def live (S : Arn) (i : Int) : Prop := i = 0 ∨ S.us i = true

noncomputable def aFree : Ann C0 := { Γ := [(68, frameT [] tSlFree)] }
def tFree : Tfm C0 := fun args H K => match args with
  | [.at (.ptr 0 0)] => arM H fun S => exW S /\K (.one (.at (vI S.free))) (chS S) []
  | _ => False
noncomputable def aCap : Ann C0 := { Γ := [(70, frameT [] tSlCap)] }
def tCap : Tfm C0 := fun args H K => match args with
  | [.at (.ptr 0 0)] => arM H fun S => exW S /\K (.one (.at (vI S.cap))) (chS S) []
  | _ => False
noncomputable def aAlc : Ann C0 := { Γ := [(32, frameT [] tSlAllocated)] }
def tNode : Tfm C0 := fun args H K => match args with
  | [.at (.ptr 0 0), .at (.val (.int .u32 i))] => arM H fun S => inU i /\exW S /\S.reads < 4000000000000000000 /\∀ S', S' = rdS S (S.us i).toNat ->K (.tup [nodeA (S.nd i), .at (vB (S.us i))]) (chS S') [0]
  | _ => False
def tSize : Tfm C0 := fun args H K => match args with
  | [.at (.ptr 0 0), .at (.val (.int .u32 i))] => arM H fun S => inU i /\exW S /\S.reads < 4000000000000000000 /\∀ S', S' = rdS S (S.us i).toNat ->K (.one (.at (vI (S.nd i).size))) (chS S') [0]
  | _ => False
def tCount : Tfm C0 := fun args H K => match args with
  | [.at (.ptr 0 0), .at (.val (.int .u32 i))] => arM H fun S => inU i /\exW S /\K (.one (.at (vI (if S.us i then S.ct i else 0)))) (chS S) []
  | _ => False
noncomputable def aGen : Ann C0 := { Γ := [(71, frameT [] tSlGen)] }
def tGen : Tfm C0 := fun args H K => match args with
  | [.at (.ptr 0 0), .at (.val (.int .u32 i))] => arM H fun S => inU i /\exW S /\K (.one (.at (vU (S.gn i)))) (chS S) []
  | _ => False
def tRetain : Tfm C0 := fun args H K => match args with
  | [.at (.ptr 0 0), .at (.val (.int .u32 i))] => arM H fun S => inU i /\exW S /\(i = 0 ->K (.one (.at (vI 0))) (chS S) [3]) /\(i ≠ 0 ->S.us i = false ->K (.one (.at (vI 3))) (chS S) [3]) /\(S.us i = true ->∀ S', S' = retA S i ->K (.one (.at (vI 0))) (chS S') [3])
  | _ => False
def newUs (c : Int) : List Bool := List.replicate (c.toNat + 1) false
def newGn (c : Int) : List Int := List.replicate (c.toNat + 1) 0
noncomputable def aSlNew : Ann C0 := { Γ := [] }
def tSlNew : Tfm C0 := fun args H K => match args, H with
  | [.at (.val (.int .i64 c))], [] => (c < 1 ∨ 65536 < c ->K (.tup [.at (.val (.pointer none)), .at (vI 1)]) [] []) /\(1 <=c ->c <=65536 ->∀ (us : List Bool) (gn : List Int), us = newUs c ->gn = newGn c ->K (.tup [.at (.ptr 0 0), .at (vI 0)]) (slC us gn [] 0) [])
  | _, _ => False
noncomputable def aNew : Ann C0 := { Γ := [(54, frameT [] tSlNew)] }
def tNew : Tfm C0 := fun args H K => match args, H with
  | [.at (.val (.int .i64 c))], [] => (c < 1 ∨ 65536 < c ->K (.tup [.at (.val (.pointer none)), .at (vI 1)]) [] []) /\(1 <=c ->c <=65536 ->∀ S, S = newS c.toNat ->K (.tup [.at (.ptr 0 0), .at (vI 0)]) (chS S) [])
  | _, _ => False
theorem getD_false {l : List Bool} {i : Nat} (h : l.getD i false = true) : i < l.length := by
  rcases Nat.lt_or_ge i l.length with hh | hh
  · exact hh
  · rw [List.getD_eq_getElem?_getD, List.getElem?_eq_none hh] at h; cases h
theorem vc_free (S : Arn) (K : KT) (hw : exW S) (h : K (.one (.at (vI S.free))) (chS S) []) : vc C0 aFree Tryz.f28 [.at (.ptr 0 0)] (chS S) (normK 7 K) := by
  refine Eq.mp (show ((1<=S.used.length) ∧
(S.used.length<=65537) ∧
(S.rel.length<=65537) ∧
(0<=S.fresh) ∧
(S.fresh<=65537) ∧
(K (SV.one (TV.at (At.val (Value.int .i64 ((↑S.rel.length : Int) + ((↑S.used.length : Int) - 1) - S.fresh))))) [(Chunk.box [(At.ptr 1 0), (At.slc 2), (At.slc 3), (At.val (Value.int .u64 (S.reads)))]), (Chunk.box [(At.slc 4), (At.slc 5), (At.slc 6), (At.val (Value.int .u32 (S.fresh)))]), (Chunk.row true (EC.node) (S.nodes)), (Chunk.row true (EC.int) (S.counts)), (Chunk.row true (EC.bool) (S.used)), (Chunk.row true (EC.u32) (S.gen)), (Chunk.row true (EC.u32) (S.rel))] [])) = _ by kernel_rfl) ?_
  obtain ⟨hs, hw⟩ := hw
  have h1 := hw.n1; have h2 := hw.n2; have h3 := hw.fr; have h4 := hw.free_nonneg
  exact ⟨by omega, by omega, by omega, by omega, by omega, h⟩
theorem s_free : SoundT C0 28 tFree := by
  refine .of Tryz.func28 (by decide) rfl fun args H K h hB => ?_
  unfold tFree at h
  split at h <;> try exact h.elim
  unfold arM at h
  split at h <;> try exact h.elim
  rename_i rd fr nd ct us gn rl
  exact ⟨aFree, ⟨frame C0.ok s_slFree _, trivial⟩, vc_free ⟨us, gn, rl, fr, nd, ct, rd⟩ K h.1 h.2⟩
theorem vc_cap (S : Arn) (K : KT) (hw : exW S) (h : K (.one (.at (vI S.cap))) (chS S) []) : vc C0 aCap Tryz.f30 [.at (.ptr 0 0)] (chS S) (normK 7 K) := by
  refine Eq.mp (show ((1<=S.used.length) ∧
(S.used.length<=65537) ∧
(K (SV.one (TV.at (At.val (Value.int .i64 ((↑S.used.length : Int) - 1))))) [(Chunk.box [(At.ptr 1 0), (At.slc 2), (At.slc 3), (At.val (Value.int .u64 (S.reads)))]), (Chunk.box [(At.slc 4), (At.slc 5), (At.slc 6), (At.val (Value.int .u32 (S.fresh)))]), (Chunk.row true (EC.node) (S.nodes)), (Chunk.row true (EC.int) (S.counts)), (Chunk.row true (EC.bool) (S.used)), (Chunk.row true (EC.u32) (S.gen)), (Chunk.row true (EC.u32) (S.rel))] [])) = _ by kernel_rfl) ?_
  obtain ⟨hs, hw⟩ := hw
  have h1 := hw.n1; have h2 := hw.n2
  exact ⟨by omega, by omega, h⟩
theorem s_cap : SoundT C0 30 tCap := by
  refine .of Tryz.func30 (by decide) rfl fun args H K h hB => ?_
  unfold tCap at h
  split at h <;> try exact h.elim
  unfold arM at h
  split at h <;> try exact h.elim
  rename_i rd fr nd ct us gn rl
  exact ⟨aCap, ⟨frame C0.ok s_slCap _, trivial⟩, vc_cap ⟨us, gn, rl, fr, nd, ct, rd⟩ K h.1 h.2⟩
theorem wrap_u64 {x : Int} (h1 : 0 <=x) (h2 : x < 18446744073709551616) : IntKind.u64.wrap x = x := by
  unfold IntKind.wrap
  simp [IntKind.signed, IntKind.bits]
  omega
theorem vc_node (S : Arn) (i : Int) (K : KT) (hi : inU i) (hw : exW S) (hr : S.reads < 4000000000000000000) (h : ∀ S', S' = rdS S (S.us i).toNat ->K (.tup [nodeA (S.nd i), .at (vB (S.us i))]) (chS S') [0]) :
    vc C0 aAlc Tryz.f60 [.at (.ptr 0 0), .at (vU i)] (chS S) (normK 7 (wideK [0] K)) := by
  refine Eq.mp (show ((0<=i) ∧
(i < 4294967296) ∧
(S.used.length<=65537) ∧
(brS (!S.us i) ((K (SV.tup [(TV.agg [(At.val (Value.int .i64 0)), (At.val (Value.int .i64 0)), (At.val (Value.int .u32 0)), (At.val (Value.int .u32 0)), (At.val (Value.int .i64 0)), (At.val (Value.int .i64 0)), (At.val (Value.int .i64 0)), (At.val (Value.int .i64 0))]), (TV.at (At.val (Value.bool false)))]) [(Chunk.box [(At.ptr 1 0), (At.slc 2), (At.slc 3), (At.val (Value.int .u64 (S.reads)))]), (Chunk.box [(At.slc 4), (At.slc 5), (At.slc 6), (At.val (Value.int .u32 (S.fresh)))]), (Chunk.row true (EC.node) (S.nodes)), (Chunk.row true (EC.int) (S.counts)), (Chunk.row true (EC.bool) (S.used)), (Chunk.row true (EC.u32) (S.gen)), (Chunk.row true (EC.u32) (S.rel))] [0])) (((0<=i)/\(i < (↑S.nodes.length : Int)) ∧
    (K (SV.tup [(TV.agg [(At.val (Value.int .i64 ((S.nd i).key))), (At.val (Value.int .i64 ((S.nd i).value))), (At.val (Value.int .u32 ((S.nd i).left))), (At.val (Value.int .u32 ((S.nd i).right))), (At.val (Value.int .i64 ((S.nd i).size))), (At.val (Value.int .i64 ((S.nd i).sum))), (At.val (Value.int .i64 ((S.nd i).min))), (At.val (Value.int .i64 ((S.nd i).max)))]), (TV.at (At.val (Value.bool true)))]) [(Chunk.box [(At.ptr 1 0), (At.slc 2), (At.slc 3), (At.val (Value.int .u64 (IntKind.u64.wrap (S.reads + 1))))]), (Chunk.box [(At.slc 4), (At.slc 5), (At.slc 6), (At.val (Value.int .u32 (S.fresh)))]), (Chunk.row true (EC.node) (S.nodes)), (Chunk.row true (EC.int) (S.counts)), (Chunk.row true (EC.bool) (S.used)), (Chunk.row true (EC.u32) (S.gen)), (Chunk.row true (EC.u32) (S.rel))] [0]))))) = _ by kernel_rfl) ?_
  obtain ⟨hs, hw⟩ := hw
  have h2 := hw.n2; have h3 := hw.nnod; have h4 := hw.rds
  rw [wrap_u64 (by omega) (by omega)]
  refine ⟨hi.1, hi.2, by omega, brS_of (fun c => ?_) fun c => ?_⟩
  · have c : S.us i = false := by simpa using c
    have h5 := h _ rfl
    rw [hw.zero i c, c] at h5
    have e : rdS S (false.toNat) = S := by simp [rdS]
    rw [e] at h5
    exact h5
  · have c : S.us i = true := by simpa using c
    have hp := hw.pos c
    have h5 := h _ rfl
    rw [c] at h5
    exact ⟨hi.1, by omega, h5⟩
theorem s_node : SoundT C0 60 tNode := by
  refine .ofW [0] Tryz.func60 (by decide) rfl fun args H K h hB => ?_
  unfold tNode at h
  split at h <;> try exact h.elim
  unfold arM at h
  split at h <;> try exact h.elim
  rename_i i _ rd fr nd ct us gn rl
  exact ⟨aAlc, ⟨frame C0.ok s_slAllocated _, trivial⟩, vc_node ⟨us, gn, rl, fr, nd, ct, rd⟩ i K h.1 h.2.1 h.2.2.1 h.2.2.2⟩
theorem vc_size (S : Arn) (i : Int) (K : KT) (hi : inU i) (hw : exW S) (hr : S.reads < 4000000000000000000) (h : ∀ S', S' = rdS S (S.us i).toNat ->K (.one (.at (vI (S.nd i).size))) (chS S') [0]) :
    vc C0 aAlc Tryz.f20 [.at (.ptr 0 0), .at (vU i)] (chS S) (normK 7 (wideK [0] K)) := by
  refine Eq.mp (show ((0<=i) ∧
(i < 4294967296) ∧
(S.used.length<=65537) ∧
(brS (!S.us i) ((K (SV.one (TV.at (At.val (Value.int .i64 0)))) [(Chunk.box [(At.ptr 1 0), (At.slc 2), (At.slc 3), (At.val (Value.int .u64 (S.reads)))]), (Chunk.box [(At.slc 4), (At.slc 5), (At.slc 6), (At.val (Value.int .u32 (S.fresh)))]), (Chunk.row true (EC.node) (S.nodes)), (Chunk.row true (EC.int) (S.counts)), (Chunk.row true (EC.bool) (S.used)), (Chunk.row true (EC.u32) (S.gen)), (Chunk.row true (EC.u32) (S.rel))] [0])) (((0<=i)/\(i < (↑S.nodes.length : Int))/\(K (SV.one (TV.at (At.val (Value.int .i64 ((S.nd i).size))))) [(Chunk.box [(At.ptr 1 0), (At.slc 2), (At.slc 3), (At.val (Value.int .u64 (IntKind.u64.wrap (S.reads + 1))))]), (Chunk.box [(At.slc 4), (At.slc 5), (At.slc 6), (At.val (Value.int .u32 (S.fresh)))]), (Chunk.row true (EC.node) (S.nodes)), (Chunk.row true (EC.int) (S.counts)), (Chunk.row true (EC.bool) (S.used)), (Chunk.row true (EC.u32) (S.gen)), (Chunk.row true (EC.u32) (S.rel))] [0]))))) = _ by kernel_rfl) ?_
  obtain ⟨hs, hw⟩ := hw
  have h2 := hw.n2; have h3 := hw.nnod; have h4 := hw.rds
  rw [wrap_u64 (by omega) (by omega)]
  refine ⟨hi.1, hi.2, by omega, brS_of (fun c => ?_) fun c => ?_⟩
  · have c : S.us i = false := by simpa using c
    have h5 := h _ rfl
    rw [hw.zero i c, c] at h5
    have e : rdS S (false.toNat) = S := by simp [rdS]
    rw [e] at h5
    exact h5
  · have c : S.us i = true := by simpa using c
    have hp := hw.pos c
    have h5 := h _ rfl
    rw [c] at h5
    exact ⟨hi.1, by omega, h5⟩
theorem s_size : SoundT C0 20 tSize := by
  refine .ofW [0] Tryz.func20 (by decide) rfl fun args H K h hB => ?_
  unfold tSize at h
  split at h <;> try exact h.elim
  unfold arM at h
  split at h <;> try exact h.elim
  rename_i i _ rd fr nd ct us gn rl
  exact ⟨aAlc, ⟨frame C0.ok s_slAllocated _, trivial⟩, vc_size ⟨us, gn, rl, fr, nd, ct, rd⟩ i K h.1 h.2.1 h.2.2.1 h.2.2.2⟩
theorem vc_count (S : Arn) (i : Int) (K : KT) (hi : inU i) (hw : exW S) (h : K (.one (.at (vI (if S.us i then S.ct i else 0)))) (chS S) []) :
    vc C0 aAlc Tryz.f33 [.at (.ptr 0 0), .at (vU i)] (chS S) (normK 7 K) := by
  refine Eq.mp (show ((0<=i) ∧
(i < 4294967296) ∧
(S.used.length<=65537) ∧
(brS (!S.us i) ((K (SV.one (TV.at (At.val (Value.int .i64 0)))) [(Chunk.box [(At.ptr 1 0), (At.slc 2), (At.slc 3), (At.val (Value.int .u64 (S.reads)))]), (Chunk.box [(At.slc 4), (At.slc 5), (At.slc 6), (At.val (Value.int .u32 (S.fresh)))]), (Chunk.row true (EC.node) (S.nodes)), (Chunk.row true (EC.int) (S.counts)), (Chunk.row true (EC.bool) (S.used)), (Chunk.row true (EC.u32) (S.gen)), (Chunk.row true (EC.u32) (S.rel))] [])) (((0<=i)/\(i < (↑S.counts.length : Int))/\(K (SV.one (TV.at (At.val (Value.int .i64 (S.ct i))))) [(Chunk.box [(At.ptr 1 0), (At.slc 2), (At.slc 3), (At.val (Value.int .u64 (S.reads)))]), (Chunk.box [(At.slc 4), (At.slc 5), (At.slc 6), (At.val (Value.int .u32 (S.fresh)))]), (Chunk.row true (EC.node) (S.nodes)), (Chunk.row true (EC.int) (S.counts)), (Chunk.row true (EC.bool) (S.used)), (Chunk.row true (EC.u32) (S.gen)), (Chunk.row true (EC.u32) (S.rel))] []))))) = _ by kernel_rfl) ?_
  obtain ⟨hs, hw⟩ := hw
  have h2 := hw.n2; have h3 := hw.ncnt
  refine ⟨hi.1, hi.2, by omega, brS_of (fun c => ?_) fun c => ?_⟩
  · have c : S.us i = false := by simpa using c
    rw [c] at h
    exact h
  · have c : S.us i = true := by simpa using c
    have hp := hw.pos c
    rw [c] at h
    exact ⟨hi.1, by omega, h⟩
theorem s_count : SoundT C0 33 tCount := by
  refine .of Tryz.func33 (by decide) rfl fun args H K h hB => ?_
  unfold tCount at h
  split at h <;> try exact h.elim
  unfold arM at h
  split at h <;> try exact h.elim
  rename_i i _ rd fr nd ct us gn rl
  exact ⟨aAlc, ⟨frame C0.ok s_slAllocated _, trivial⟩, vc_count ⟨us, gn, rl, fr, nd, ct, rd⟩ i K h.1 h.2.1 h.2.2⟩
theorem vc_gen (S : Arn) (i : Int) (K : KT) (hi : inU i) (hw : exW S) (h : K (.one (.at (vU (S.gn i)))) (chS S) []) :
    vc C0 aGen Tryz.f34 [.at (.ptr 0 0), .at (vU i)] (chS S) (normK 7 K) := by
  refine Eq.mp (show ((0<=i) ∧
(i < 4294967296) ∧
(S.gen.length<=65537) ∧
(K (SV.one (TV.at (At.val (Value.int .u32 (S.gn i))))) [(Chunk.box [(At.ptr 1 0), (At.slc 2), (At.slc 3), (At.val (Value.int .u64 (S.reads)))]), (Chunk.box [(At.slc 4), (At.slc 5), (At.slc 6), (At.val (Value.int .u32 (S.fresh)))]), (Chunk.row true (EC.node) (S.nodes)), (Chunk.row true (EC.int) (S.counts)), (Chunk.row true (EC.bool) (S.used)), (Chunk.row true (EC.u32) (S.gen)), (Chunk.row true (EC.u32) (S.rel))] [])) = _ by kernel_rfl) ?_
  obtain ⟨hs, hw⟩ := hw
  have h2 := hw.n2; have h3 := hw.ngen
  exact ⟨hi.1, hi.2, by omega, h⟩
theorem s_gen : SoundT C0 34 tGen := by
  refine .of Tryz.func34 (by decide) rfl fun args H K h hB => ?_
  unfold tGen at h
  split at h <;> try exact h.elim
  unfold arM at h
  split at h <;> try exact h.elim
  rename_i i _ rd fr nd ct us gn rl
  exact ⟨aGen, ⟨frame C0.ok s_slGen _, trivial⟩, vc_gen ⟨us, gn, rl, fr, nd, ct, rd⟩ i K h.1 h.2.1 h.2.2⟩
theorem vc_retain (S : Arn) (i : Int) (K : KT) (hi : inU i) (hw : exW S) (h0 : i = 0 ->K (.one (.at (vI 0))) (chS S) [3]) (h1 : i ≠ 0 ->S.us i = false ->K (.one (.at (vI 3))) (chS S) [3]) (h : S.us i = true ->∀ S', S' = retA S i ->K (.one (.at (vI 0))) (chS S') [3]) :
    vc C0 aAlc Tryz.f62 [.at (.ptr 0 0), .at (vU i)] (chS S) (normK 7 (wideK [3] K)) := by
  refine Eq.mp (show (brS (i == 0) ((K (SV.one (TV.at (At.val (Value.int .i64 0)))) [(Chunk.box [(At.ptr 1 0), (At.slc 2), (At.slc 3), (At.val (Value.int .u64 (S.reads)))]), (Chunk.box [(At.slc 4), (At.slc 5), (At.slc 6), (At.val (Value.int .u32 (S.fresh)))]), (Chunk.row true (EC.node) (S.nodes)), (Chunk.row true (EC.int) (S.counts)), (Chunk.row true (EC.bool) (S.used)), (Chunk.row true (EC.u32) (S.gen)), (Chunk.row true (EC.u32) (S.rel))] [3])) (((0<=i)/\(i < 4294967296)/\(S.used.length<=65537)/\(brS (!S.us i) ((K (SV.one (TV.at (At.val (Value.int .i64 3)))) [(Chunk.box [(At.ptr 1 0), (At.slc 2), (At.slc 3), (At.val (Value.int .u64 (S.reads)))]), (Chunk.box [(At.slc 4), (At.slc 5), (At.slc 6), (At.val (Value.int .u32 (S.fresh)))]), (Chunk.row true (EC.node) (S.nodes)), (Chunk.row true (EC.int) (S.counts)), (Chunk.row true (EC.bool) (S.used)), (Chunk.row true (EC.u32) (S.gen)), (Chunk.row true (EC.u32) (S.rel))] [3])) (((0<=i)/\(i < (↑S.counts.length : Int))/\(0<=i)/\(i < (↑S.counts.length : Int)) ∧
    (K (SV.one (TV.at (At.val (Value.int .i64 0)))) [(Chunk.box [(At.ptr 1 0), (At.slc 2), (At.slc 3), (At.val (Value.int .u64 (S.reads)))]), (Chunk.box [(At.slc 4), (At.slc 5), (At.slc 6), (At.val (Value.int .u32 (S.fresh)))]), (Chunk.row true (EC.node) (S.nodes)), (Chunk.row true (EC.int) (S.counts.set i.toNat (IntKind.i64.wrap (S.ct i + 1)))), (Chunk.row true (EC.bool) (S.used)), (Chunk.row true (EC.u32) (S.gen)), (Chunk.row true (EC.u32) (S.rel))] [3]))))))) = _ by kernel_rfl) ?_
  obtain ⟨hs, hw⟩ := hw
  have h2 := hw.n2; have h3 := hw.ncnt
  refine brS_of (fun c => h0 (by simpa using c)) fun c => ⟨hi.1, hi.2, by omega, brS_of (fun d => ?_) fun d => ?_⟩
  · exact h1 (by simpa using c) (by simpa using d)
  · have d : S.us i = true := by simpa using d
    have hp := hw.pos d
    exact ⟨hi.1, by omega, hi.1, by omega, h d _ rfl⟩
theorem s_retain : SoundT C0 62 tRetain := by
  refine .ofW [3] Tryz.func62 (by decide) rfl fun args H K h hB => ?_
  unfold tRetain at h
  split at h <;> try exact h.elim
  unfold arM at h
  split at h <;> try exact h.elim
  rename_i i _ rd fr nd ct us gn rl
  exact ⟨aAlc, ⟨frame C0.ok s_slAllocated _, trivial⟩, vc_retain ⟨us, gn, rl, fr, nd, ct, rd⟩ i K h.1 h.2.1 h.2.2.1 h.2.2.2.1 h.2.2.2.2⟩
theorem vc_slNew (c : Int) (K : KT) (hb : c < 1 ∨ 65536 < c ->K (.tup [.at (.val (.pointer none)), .at (vI 1)]) [] []) (h : 1 <=c ->c <=65536 ->∀ (us : List Bool) (gn : List Int), us = newUs c ->gn = newGn c ->K (.tup [.at (.ptr 0 0), .at (vI 0)]) (slC us gn [] 0) []) :
    vc C0 aSlNew Tryz.f54 [.at (vI c)] [] (normK 0 K) := by
  refine Eq.mp (show (brS (decide (c < 1)) ((K (SV.tup [(TV.at (At.val (Value.pointer none))), (TV.at (At.val (Value.int .i64 1)))]) [] [])) ((brS (decide (c > 65536)) ((K (SV.tup [(TV.at (At.val (Value.pointer none))), (TV.at (At.val (Value.int .i64 1)))]) [] [])) ((((0<=IntKind.i64.wrap (c + 1))/\(IntKind.i64.wrap (c + 1)<=IntKind.i64.wrap (c + 1))/\(IntKind.i64.wrap (c + 1) * (↑(bytesOf C0 EC.bool) : Int)<=140737488355328)/\(0<=IntKind.i64.wrap (c + 1))/\(IntKind.i64.wrap (c + 1)<=IntKind.i64.wrap (c + 1))/\(IntKind.i64.wrap (c + 1) * (↑(bytesOf C0 EC.u32) : Int)<=140737488355328)/\(K (SV.tup [(TV.at (At.ptr 0 0)), (TV.at (At.val (Value.int .i64 0)))]) [(Chunk.box [(At.slc 1), (At.slc 2), (At.slc 3), (At.val (Value.int .u32 0))]), (Chunk.row true (EC.bool) (List.replicate (IntKind.i64.wrap (c + 1)).toNat false)), (Chunk.row true (EC.u32) (List.replicate (IntKind.i64.wrap (c + 1)).toNat (0 : Int))), (Chunk.row true (EC.u32) [])] []))/\(0<=IntKind.i64.wrap (c + 1))/\(IntKind.i64.wrap (c + 1)<=IntKind.i64.wrap (c + 1))/\(IntKind.i64.wrap (c + 1) * (↑(bytesOf C0 EC.u32) : Int)<=140737488355328)/\(0<=IntKind.i64.wrap (c + 1))/\(IntKind.i64.wrap (c + 1)<=IntKind.i64.wrap (c + 1))/\(IntKind.i64.wrap (c + 1) * (↑(bytesOf C0 EC.bool) : Int)<=140737488355328) ∧
    (K (SV.tup [(TV.at (At.ptr 0 0)), (TV.at (At.val (Value.int .i64 0)))]) [(Chunk.box [(At.slc 1), (At.slc 2), (At.slc 3), (At.val (Value.int .u32 0))]), (Chunk.row true (EC.bool) (List.replicate (IntKind.i64.wrap (c + 1)).toNat false)), (Chunk.row true (EC.u32) (List.replicate (IntKind.i64.wrap (c + 1)).toNat (0 : Int))), (Chunk.row true (EC.u32) [])] [])))))) = _ by kernel_rfl) ?_
  simp only [bytes_bool, bytes_u32]
  refine brS_of (fun d => hb (.inl (by simpa using d))) fun d => brS_of (fun e => hb (.inr (by simpa using e))) fun e => ?_
  have d : 1 <=c := by simp at d; omega
  have e : c <=65536 := by simp at e; omega
  have h := h d e _ _ rfl rfl
  unfold newUs newGn at h
  rw [wrap_id (x := c + 1) (by omega) (by omega), show (c + 1).toNat = c.toNat + 1 by omega]
  exact ⟨⟨by omega, by omega, by omega, by omega, by omega, by omega, h⟩, by omega, by omega, by omega, by omega, by omega, by omega, h⟩
theorem s_slNew : SoundT C0 54 tSlNew := by
  refine .of Tryz.func54 (by decide) rfl fun args H K h hB => ?_
  unfold tSlNew at h
  split at h <;> try exact h.elim
  rename_i c
  exact ⟨aSlNew, trivial, vc_slNew c K h.1 h.2⟩
theorem vc_new (c : Int) (K : KT) (hb : c < 1 ∨ 65536 < c ->K (.tup [.at (.val (.pointer none)), .at (vI 1)]) [] []) (h : 1 <=c ->c <=65536 ->∀ S, S = newS c.toNat ->K (.tup [.at (.ptr 0 0), .at (vI 0)]) (chS S) []) :
    vc C0 aNew Tryz.f16 [.at (vI c)] [] (normK 0 K) := by
  refine Eq.mp (show (((c < 1 ∨ 65536 < c) →
(K (SV.tup [(TV.at (At.val (Value.pointer none))), (TV.at (At.val (Value.int .i64 1)))]) [] [])) ∧
((1<=c) →
((c<=65536) →
(∀ us : List Bool, (∀ gn : List Int, (((us) = (newUs c))->(((gn) = (newGn c))->(((0<=IntKind.i64.wrap (c + 1))/\(IntKind.i64.wrap (c + 1)<=IntKind.i64.wrap (c + 1))/\(IntKind.i64.wrap (c + 1) * (↑(bytesOf C0 EC.node) : Int)<=140737488355328)/\(0<=IntKind.i64.wrap (c + 1))/\(IntKind.i64.wrap (c + 1)<=IntKind.i64.wrap (c + 1))/\(IntKind.i64.wrap (c + 1) * (↑(bytesOf C0 EC.int) : Int)<=140737488355328)/\(K (SV.tup [(TV.at (At.ptr 0 0)), (TV.at (At.val (Value.int .i64 0)))]) [(Chunk.box [(At.ptr 1 0), (At.slc 2), (At.slc 3), (At.val (Value.int .u64 0))]), (Chunk.box [(At.slc 4), (At.slc 5), (At.slc 6), (At.val (Value.int .u32 0))]), (Chunk.row true (EC.node) (List.replicate (IntKind.i64.wrap (c + 1)).toNat { key := 0, value := 0, left := 0, right := 0, size := 0, sum := 0, min := 0, max := 0 : NodeT })), (Chunk.row true (EC.int) (List.replicate (IntKind.i64.wrap (c + 1)).toNat (0 : Int))), (Chunk.row true (EC.bool) (us)), (Chunk.row true (EC.u32) (gn)), (Chunk.row true (EC.u32) [])] []))/\(0<=IntKind.i64.wrap (c + 1))/\(IntKind.i64.wrap (c + 1)<=IntKind.i64.wrap (c + 1))/\(IntKind.i64.wrap (c + 1) * (↑(bytesOf C0 EC.int) : Int)<=140737488355328)/\(0<=IntKind.i64.wrap (c + 1))/\(IntKind.i64.wrap (c + 1)<=IntKind.i64.wrap (c + 1)) ∧
    (IntKind.i64.wrap (c + 1) * (↑(bytesOf C0 EC.node) : Int)<=140737488355328)/\(K (SV.tup [(TV.at (At.ptr 0 0)), (TV.at (At.val (Value.int .i64 0)))]) [(Chunk.box [(At.ptr 1 0), (At.slc 2), (At.slc 3), (At.val (Value.int .u64 0))]), (Chunk.box [(At.slc 4), (At.slc 5), (At.slc 6), (At.val (Value.int .u32 0))]), (Chunk.row true (EC.node) (List.replicate (IntKind.i64.wrap (c + 1)).toNat { key := 0, value := 0, left := 0, right := 0, size := 0, sum := 0, min := 0, max := 0 : NodeT })), (Chunk.row true (EC.int) (List.replicate (IntKind.i64.wrap (c + 1)).toNat (0 : Int))), (Chunk.row true (EC.bool) (us)), (Chunk.row true (EC.u32) (gn)), (Chunk.row true (EC.u32) [])] []))))))))) = _ by kernel_rfl) ?_
  simp only [bytes_node, bytes_int]
  refine ⟨hb, fun d e us gn hu hg => ?_⟩
  have h := h d e _ rfl
  subst hu hg
  unfold newUs newGn
  rw [wrap_id (x := c + 1) (by omega) (by omega), show (c + 1).toNat = c.toNat + 1 by omega]
  exact ⟨⟨by omega, by omega, by omega, by omega, by omega, by omega, h⟩, by omega, by omega, by omega, by omega, by omega, by omega, h⟩
theorem s_new : SoundT C0 16 tNew := by
  refine .of Tryz.func16 (by decide) rfl fun args H K h hB => ?_
  unfold tNew at h
  split at h <;> try exact h.elim
  rename_i c
  exact ⟨aNew, ⟨frame C0.ok s_slNew _, trivial⟩, vc_new c K h.1 h.2⟩
end Go.Proofs.YtmjnoiajenoinaaGreat.Sx
end
section
/- The greatest height of a balanced tree, and few reads. -/
namespace Go.Proofs.YtmjnoiajenoinaaGreat.Sx
open Go

/-KEEP Wf exW inU wtsL-/
noncomputable def aWts : Ann C0 := { Γ := [], rounds := fun n => if n = 4 then 82 else 0 }
def tWts : Tfm C0 := fun args H K => match args, H with
  | [], [] => K (.one (.agg (wtsL.map fun n => vI n))) [] []
  | _, _ => False
def wC : Nat ->Int ->Prop ->Prop
  | 0, _, Q => Q
  | n + 1, h, Q => (0 <=IntKind.i64.wrap (h - 1)) /\(IntKind.i64.wrap (h - 1) < ((81 : Nat) : Int)) /\(0 <=IntKind.i64.wrap (h - 1)) /\(IntKind.i64.wrap (h - 1) < ((81 : Nat) : Int)) /\(0 <=h) /\(h < ((81 : Nat) : Int)) /\wC n (IntKind.i64.wrap (h + 1)) Q
theorem wC_of : ∀ (n : Nat) (h : Int) (Q : Prop), 1 <=h ->h + n <=81 ->Q ->wC n h Q
  | 0, _, _, _, _, q => q
  | n + 1, h, Q, h1, h2, q => by
    have e1 := wrap_id (x := h - 1) (by omega) (by omega)
    have e2 := wrap_id (x := h + 1) (by omega) (by omega)
    unfold wC
    rw [e1, e2]
    exact ⟨by omega, by omega, by omega, by omega, by omega, by omega, wC_of n (h + 1) Q (by omega) (by omega) q⟩
theorem s_wts : SoundT C0 92 tWts := by
  refine .of Tryz.func92 (by decide) rfl fun args H K h hB => ?_
  unfold tWts at h
  split at h <;> try exact h.elim
  refine ⟨aWts, trivial, Eq.mp (show ((0 : Int)<=0/\(0 : Int) < ((81 : Nat) : Int)/\wC 80 1 (K (.one (.agg (wtsL.map fun n => vI n))) [] [])) = _ by kernel_rfl) ?_⟩
  exact ⟨by decide, by decide, wC_of 80 1 _ (by decide) (by decide) h⟩
noncomputable def aMh : Ann C0 := { Γ := [(92, frameT [] tWts)], rounds := fun n => if n = 5 then 82 else 0 }
def mhC (k : Int) (Q : Int ->Prop) : List Int ->Int ->Prop
  | [], h => Q h
  | w :: l, h => (0 <=IntKind.i64.wrap (h + 1)) /\(IntKind.i64.wrap (h + 1) < ((81 : Nat) : Int)) /\brS (decide (IntKind.i64.wrap (w - 1) <=k)) (mhC k Q l (IntKind.i64.wrap (h + 1))) (Q h)
theorem mhC_of {k : Int} {Q : Int ->Prop} : ∀ (l : List Int) (h : Int), 0 <=h ->h + l.length <=80 ->(∀ w ∈ l, 0 <=w /\w <=1000000000000) ->Q (hnC l h k) ->mhC k Q l h
  | [], _, _, _, _, q => q
  | w :: l, h, h1, h2, h3, q => by
    have hw := h3 w (by simp)
    have hl : (w :: l).length = l.length + 1 := rfl
    unfold mhC
    rw [wrap_id (x := h + 1) (by omega) (by omega), wrap_id (x := w - 1) (by omega) (by omega)]
    unfold hnC at q
    refine ⟨by omega, by omega, brS_of (fun c => ?_) fun c => ?_⟩
    · rw [if_pos (of_decide_eq_true c)] at q
      exact mhC_of l (h + 1) (by omega) (by omega) (fun x hx => h3 x (by simp [hx])) q
    · rw [if_neg (of_decide_eq_false c)] at q; exact q
def tMh : Tfm C0 := fun args H K => match args, H with
  | [.at (.val (.int .i64 k))], [] => 0 <=k /\k <=2147483647 /\∀ h, h = Hn k ->K (.one (.at (vI h))) [] []
  | _, _ => False
theorem s_mh : SoundT C0 67 tMh := by
  refine .of Tryz.func67 (by decide) rfl fun args H K h hB => ?_
  unfold tMh at h
  split at h <;> try exact h.elim
  rename_i k
  obtain ⟨h1, h2, h⟩ := h
  refine ⟨aMh, ⟨frame C0.ok s_wts _, trivial⟩, Eq.mp (show (brS (decide (k < 0)) (K (.one (.at (vI (-1)))) [] []) (brS (decide (k > 2147483647)) (K (.one (.at (vI (-1)))) [] []) (mhC k (fun h => K (.one (.at (vI h))) [] []) (wtsL.drop 1) 0))) = _ by kernel_rfl) ?_⟩
  refine brS_of (fun c => by have := of_decide_eq_true c; omega) fun _ => brS_of (fun c => by have := of_decide_eq_true c; omega) fun _ => mhC_of _ 0 (by decide) (by decide) (by decide) (h _ rfl)
end Go.Proofs.YtmjnoiajenoinaaGreat.Sx
end
section
/- The arena's Make and Release. -/
namespace Go.Proofs.YtmjnoiajenoinaaGreat.Sx
open Go

structure XMk (S : Arn) (k v l r : Int) where
  i : Nat
  n : NodeT
  h : n = if i = 0 then addC S ⟨k, v, l, r, 1, v, v, v⟩ l else mkNode S k v l r
abbrev bxN (n : NodeT) : Chunk C0 := .box [vI n.key, vI n.value, vU n.left, vU n.right, vI n.size, vI n.sum, vI n.min, vI n.max]
noncomputable def aMake (S : Arn) (k v l r : Int) : Ann C0 := { rounds := fun n => if n = 3 then 3 else 0, Γ := [(32, frameT [] tSlAllocated), (69, frameT [] tSlAlloc)], inv := fun n => match n with
  | 1013 => some { X := XMk S k v l r, sl := [12], tf := fun _ => [.one (.at (.ptr 7 0))], hf := fun x => chS S ++ [bxN x.n], rel := fun T _ x => slotI T 29 x.i }
  | _ => none }
def tMake : Tfm C0 := fun args H K => match args with
  | [.at (.ptr 0 0), .at (.val (.int .i64 k)), .at (.val (.int .i64 v)), .at (.val (.int .u32 l)), .at (.val (.int .u32 r))] => arM H fun S => exW S /\live S l /\live S r ∧
    (maxSize < (mkNode S k v l r).size ->K (.tup [.at (vU 0), .at (vI 1)]) (chS S) W7) ∧
    ((mkNode S k v l r).size <=maxSize ->S.free = 0 ->K (.tup [.at (vU 0), .at (vI 2)]) (chS S) W7) ∧
    ((mkNode S k v l r).size <=maxSize ->0 < S.free ->∀ S' i, S' = makeS S k v l r ->i = nxt S ->K (.tup [.at (vU i), .at (vI 0)]) (chS S') W7)
  | _ => False
structure XRel (S : Arn) (hs : List Int) (i : Int) where
  S' : Arn
  work : List Int
  freed : Int
  h : Wf S' (work ++ hs) /\Kept S S' /\0 <=freed /\freed + S'.nu = S.nu /\(∀ w ∈ work, S'.us w = true) /\(1 < S.ct i ->(work = [i] /\S' = S) ∨ (work = [] /\S' = decS S i))
structure XRelK (S : Arn) (hs : List Int) (i : Int) where
  S' : Arn
  rest : List Int
  k : Int
  freed : Int
  h : Wf S' ((rest ++ [k]) ++ hs) /\Kept S S' /\0 <=freed /\freed + S'.nu = S.nu /\(∀ w ∈ rest ++ [k], S'.us w = true) /\(1 < S.ct i ->rest = [] /\k = i /\S' = S)
noncomputable def aRelease (S : Arn) (hs : List Int) (i : Int) : Ann C0 := { trunc := fun n => n == 34, Γ := [(32, frameT [] tSlAllocated), (91, frameT [] tSlRelease)], inv := fun n => match n with
  | 7 => some { X := XRel S hs i, sl := [7, 6], tf := fun x => [.one (.at (.slc 7)), vi .i64 x.freed], hf := fun x => chS x.S' ++ [.row true EC.u32 x.work], μ := fun x => 2 * x.S'.nu + x.work.length, wr := W7 }
  | 1010 => some { X := XRelK S hs i, sl := [7, 8], tf := fun x => [.one (.at (.slc 7)), vi .u32 x.k], hf := fun x => chS x.S' ++ [.row true EC.u32 x.rest], wr := W7, rel := fun T _ x => slotI T 6 x.freed /\slotI T 22 (x.rest.length + 1) }
  | _ => none }
def tRelease : Tfm C0 := fun args H K => match args with
  | [.at (.ptr 0 0), .at (.val (.int .u32 i))] => arM H fun S => ∃ hs, Wf S (i :: hs) /\∀ S' (fr : Int), Wf S' hs ->Kept S S' ->fr + S'.nu = S.nu ->(1 < S.ct i ->S.us i = true ->S' = decS S i) ->(S.us i = false ->S' = S) ->K (.tup [.at (vI fr), .at (vI 0)]) (chS S') W7
  | _ => False
theorem list_last {α : Type} {l : List α} {d : α} (h : 0 < l.length) : l.take (l.length - 1) ++ [l.getD (l.length - 1) d] = l := by
  have h1 : l[l.length - 1]? = some (l.getD (l.length - 1) d) := by
    have : l.length - 1 < l.length := by omega
    simp [List.getD_eq_getElem?_getD, List.getElem?_eq_getElem this]
  rw [← take_snoc h1, show l.length - 1 + 1 = l.length by omega, List.take_length]
theorem XRelK.freed' {S : Arn} {hs : List Int} {i : Int} (x : XRelK S hs i) (hc : x.S'.ct x.k = 1) :
    Wf (freeS x.S' x.k) ((x.rest ++ nz (x.S'.nd x.k).right ++ nz (x.S'.nd x.k).left) ++ hs) /\Kept S (freeS x.S' x.k) /\0 <=x.freed + 1 /\(x.freed + 1) + (freeS x.S' x.k).nu = S.nu ∧
    (∀ w ∈ x.rest ++ nz (x.S'.nd x.k).right ++ nz (x.S'.nd x.k).left, (freeS x.S' x.k).us w = true) /\(1 < S.ct i ->((x.rest ++ nz (x.S'.nd x.k).right ++ nz (x.S'.nd x.k).left) = [i] /\freeS x.S' x.k = S) ∨ ((x.rest ++ nz (x.S'.nd x.k).right ++ nz (x.S'.nd x.k).left) = [] /\freeS x.S' x.k = decS S i)) := by
  obtain ⟨h1, h2, h3, h4, h5, h6⟩ := x.h
  have hk : x.S'.us x.k = true := h5 _ (by simp)
  have hw : Wf x.S' (x.k :: (x.rest ++ hs)) := h1.perm (by
    rw [List.append_assoc]
    exact List.perm_middle)
  obtain ⟨f1, f2, f3, f4⟩ := hw.freed hk hc
  have f1' : Wf (freeS x.S' x.k) ((x.rest ++ nz (x.S'.nd x.k).right ++ nz (x.S'.nd x.k).left) ++ hs) := f1.perm (by
    rw [List.append_assoc, List.append_assoc]
    exact ((List.perm_append_comm_assoc _ _ _).append_left _).trans (List.perm_append_comm_assoc _ _ _))
  refine ⟨f1', h2.trans (kept_free hw hk hc), by omega, by omega, fun w hm => ?_, fun hc1 => ?_⟩
  · refine (f1'.held w (List.mem_append_left _ hm)).resolve_left fun e => ?_
    subst e
    rcases List.mem_append.1 hm with hm | hm
    · rcases List.mem_append.1 hm with hm | hm
      · have := h5 0 (by simp [hm])
        rw [h1.us0 (Int.le_refl 0)] at this; cases this
      · unfold nz at hm; split at hm <;> simp at hm; omega
    · unfold nz at hm; split at hm <;> simp at hm; omega
  · obtain ⟨_, e2, e3⟩ := h6 hc1
    rw [e2, e3] at hc
    omega
theorem vc_release (S : Arn) (hs : List Int) (i : Int) (K : KT) (hw : Wf S (i :: hs)) (h : ∀ S' (fr : Int), Wf S' hs ->Kept S S' ->fr + S'.nu = S.nu ->(1 < S.ct i ->S.us i = true ->S' = decS S i) ->(S.us i = false ->S' = S) ->K (.tup [.at (vI fr), .at (vI 0)]) (chS S') W7) :
    vc C0 (aRelease S hs i) Tryz.f66 [.at (.ptr 0 0), .at (vU i)] (chS S) (normK 7 (wideK W7 K)) := by
  refine Eq.mp (show (brS (i == 0) ((K (SV.tup [(TV.at (At.val (Value.int .i64 0))), (TV.at (At.val (Value.int .i64 0)))]) [(Chunk.box [(At.ptr 1 0), (At.slc 2), (At.slc 3), (At.val (Value.int .u64 (S.reads)))]), (Chunk.box [(At.slc 4), (At.slc 5), (At.slc 6), (At.val (Value.int .u32 (S.fresh)))]), (Chunk.row true (EC.node) (S.nodes)), (Chunk.row true (EC.int) (S.counts)), (Chunk.row true (EC.bool) (S.used)), (Chunk.row true (EC.u32) (S.gen)), (Chunk.row true (EC.u32) (S.rel))] [0, 1, 2, 3, 4, 5, 6])) (((0<=i)/\(i < 4294967296)/\(S.used.length<=65537)/\(brS (!S.us i) ((K (SV.tup [(TV.at (At.val (Value.int .i64 0))), (TV.at (At.val (Value.int .i64 3)))]) [(Chunk.box [(At.ptr 1 0), (At.slc 2), (At.slc 3), (At.val (Value.int .u64 (S.reads)))]), (Chunk.box [(At.slc 4), (At.slc 5), (At.slc 6), (At.val (Value.int .u32 (S.fresh)))]), (Chunk.row true (EC.node) (S.nodes)), (Chunk.row true (EC.int) (S.counts)), (Chunk.row true (EC.bool) (S.used)), (Chunk.row true (EC.u32) (S.gen)), (Chunk.row true (EC.u32) (S.rel))] [0, 1, 2, 3, 4, 5, 6])) (((∃ x : XRel S hs i, (True/\(True/\((Value.int .i64 0) = (Value.int .i64 (x.freed)))/\True/\True)/\(True/\True/\True/\((Value.int .u64 (S.reads)) = (Value.int .u64 (x.S'.reads)))/\True)/\(True/\True/\True/\((Value.int .u32 (S.fresh)) = (Value.int .u32 (x.S'.fresh)))/\True)/\((S.nodes) = (x.S'.nodes))/\((S.counts) = (x.S'.counts)) ∧
    ((S.used) = (x.S'.used))/\((S.gen) = (x.S'.gen))/\((S.rel) = (x.S'.rel))/\([(i)] = (x.work))/\True))/\(∀ x : XRel S hs i, (True->(brS (decide ((↑x.work.length : Int) > 0)) (((0<=IntKind.i64.wrap ((↑x.work.length : Int) - 1))/\(IntKind.i64.wrap ((↑x.work.length : Int) - 1) < (↑x.work.length : Int))/\((0<=IntKind.i64.wrap ((↑x.work.length : Int) - 1))/\(IntKind.i64.wrap ((↑x.work.length : Int) - 1)<=(↑x.work.length : Int))/\(∃ x1 : XRelK S hs i, ((((x.freed) = (x1.freed))/\(((↑x.work.length : Int)) = ((↑x1.rest.length : Int) + 1)))/\(True/\((Value.int .i64 (x.freed)) = (Value.int .i64 (x.freed)))/\True/\((Value.int .u32 (x.work.getD (IntKind.i64.wrap ((↑x.work.length : Int) - 1)).toNat 0)) = (Value.int .u32 (x1.k)))/\True)/\(True/\True/\True/\((Value.int .u64 (x.S'.reads)) = (Value.int .u64 (x1.S'.reads)))/\True)/\(True/\True/\True/\((Value.int .u32 (x.S'.fresh)) = (Value.int .u32 (x1.S'.fresh)))/\True)/\((x.S'.nodes) = (x1.S'.nodes))/\((x.S'.counts) = (x1.S'.counts))/\((x.S'.used) = (x1.S'.used))/\((x.S'.gen) = (x1.S'.gen))/\((x.S'.rel) = (x1.S'.rel))/\((List.take (IntKind.i64.wrap ((↑x.work.length : Int) - 1)).toNat x.work) = (x1.rest))/\True)))/\(∀ x1 : XRelK S hs i, ((((x.freed) = (x1.freed))/\(((↑x.work.length : Int)) = ((↑x1.rest.length : Int) + 1)))->((0<=x1.k)/\(x1.k < (↑x1.S'.counts.length : Int))/\(0<=x1.k)/\(x1.k < (↑x1.S'.counts.length : Int))/\(0<=x1.k) ∧
    (x1.k < (↑(x1.S'.counts.set x1.k.toNat (IntKind.i64.wrap (x1.S'.ct x1.k - 1))).length : Int))/\(brS (decide ((x1.S'.counts.set x1.k.toNat (IntKind.i64.wrap (x1.S'.ct x1.k - 1))).getD x1.k.toNat 0 > 0)) ((∃ x' : XRel S hs i, (True/\((True/\((Value.int .i64 (x.freed)) = (Value.int .i64 (x'.freed)))/\True/\True)/\(True/\True/\True/\((Value.int .u64 (x1.S'.reads)) = (Value.int .u64 (x'.S'.reads)))/\True)/\(True/\True/\True/\((Value.int .u32 (x1.S'.fresh)) = (Value.int .u32 (x'.S'.fresh)))/\True)/\((x1.S'.nodes) = (x'.S'.nodes))/\((x1.S'.counts.set x1.k.toNat (IntKind.i64.wrap (x1.S'.ct x1.k - 1))) = (x'.S'.counts))/\((x1.S'.used) = (x'.S'.used))/\((x1.S'.gen) = (x'.S'.gen))/\((x1.S'.rel) = (x'.S'.rel))/\((x1.rest) = (x'.work))/\True)/\(2 * x'.S'.nu + x'.work.length < 2 * x.S'.nu + x.work.length)))) (((0<=x1.k)/\(x1.k < (↑x1.S'.nodes.length : Int))/\(0<=x1.k)/\(x1.k < (↑x1.S'.nodes.length : Int))/\(0<=x1.k)/\(x1.k < 4294967296)/\(x1.S'.used.length<=65537)/\(x1.S'.rel.length<=65537)/\((x1.S'.us x1.k) = true)/\(brS ((x1.S'.nd x1.k).right != 0) ((((x1.rest.length + [(x1.S'.nd x1.k).right].length) * bytesOf C0 EC.u32<=140737488355328)/\(brS ((x1.S'.nd x1.k).left != 0) (((((x1.rest ++ [(x1.S'.nd x1.k).right]).length + [(x1.S'.nd x1.k).left].length) * bytesOf C0 EC.u32<=140737488355328)/\(∃ x' : XRel S hs i, (True/\((True ∧
    ((Value.int .i64 (IntKind.i64.wrap (x.freed + 1))) = (Value.int .i64 (x'.freed)))/\True/\True)/\(True/\True/\True/\((Value.int .u64 (x1.S'.reads)) = (Value.int .u64 (x'.S'.reads)))/\True)/\(True/\True/\True/\((Value.int .u32 (x1.S'.fresh)) = (Value.int .u32 (x'.S'.fresh)))/\True)/\((x1.S'.nodes.set x1.k.toNat { key := 0, value := 0, left := 0, right := 0, size := 0, sum := 0, min := 0, max := 0 : NodeT }) = (x'.S'.nodes))/\((x1.S'.counts.set x1.k.toNat (IntKind.i64.wrap (x1.S'.ct x1.k - 1))) = (x'.S'.counts))/\((x1.S'.used.set x1.k.toNat false) = (x'.S'.used))/\((x1.S'.gen) = (x'.S'.gen))/\((x1.S'.rel ++ [x1.k]) = (x'.S'.rel))/\((x1.rest ++ [(x1.S'.nd x1.k).right] ++ [(x1.S'.nd x1.k).left]) = (x'.work))/\True)/\(2 * x'.S'.nu + x'.work.length < 2 * x.S'.nu + x.work.length))))) ((∃ x' : XRel S hs i, (True/\((True/\((Value.int .i64 (IntKind.i64.wrap (x.freed + 1))) = (Value.int .i64 (x'.freed)))/\True/\True)/\(True/\True/\True/\((Value.int .u64 (x1.S'.reads)) = (Value.int .u64 (x'.S'.reads)))/\True)/\(True/\True/\True/\((Value.int .u32 (x1.S'.fresh)) = (Value.int .u32 (x'.S'.fresh)))/\True)/\((x1.S'.nodes.set x1.k.toNat { key := 0, value := 0, left := 0, right := 0, size := 0, sum := 0, min := 0, max := 0 : NodeT }) = (x'.S'.nodes))/\((x1.S'.counts.set x1.k.toNat (IntKind.i64.wrap (x1.S'.ct x1.k - 1))) = (x'.S'.counts)) ∧
    ((x1.S'.used.set x1.k.toNat false) = (x'.S'.used))/\((x1.S'.gen) = (x'.S'.gen))/\((x1.S'.rel ++ [x1.k]) = (x'.S'.rel))/\((x1.rest ++ [(x1.S'.nd x1.k).right]) = (x'.work))/\True)/\(2 * x'.S'.nu + x'.work.length < 2 * x.S'.nu + x.work.length))))))) ((brS ((x1.S'.nd x1.k).left != 0) ((((x1.rest.length + [(x1.S'.nd x1.k).left].length) * bytesOf C0 EC.u32<=140737488355328)/\(∃ x' : XRel S hs i, (True/\((True/\((Value.int .i64 (IntKind.i64.wrap (x.freed + 1))) = (Value.int .i64 (x'.freed)))/\True/\True)/\(True/\True/\True/\((Value.int .u64 (x1.S'.reads)) = (Value.int .u64 (x'.S'.reads)))/\True)/\(True/\True/\True/\((Value.int .u32 (x1.S'.fresh)) = (Value.int .u32 (x'.S'.fresh)))/\True)/\((x1.S'.nodes.set x1.k.toNat { key := 0, value := 0, left := 0, right := 0, size := 0, sum := 0, min := 0, max := 0 : NodeT }) = (x'.S'.nodes))/\((x1.S'.counts.set x1.k.toNat (IntKind.i64.wrap (x1.S'.ct x1.k - 1))) = (x'.S'.counts))/\((x1.S'.used.set x1.k.toNat false) = (x'.S'.used))/\((x1.S'.gen) = (x'.S'.gen))/\((x1.S'.rel ++ [x1.k]) = (x'.S'.rel))/\((x1.rest ++ [(x1.S'.nd x1.k).left]) = (x'.work))/\True)/\(2 * x'.S'.nu + x'.work.length < 2 * x.S'.nu + x.work.length))))) ((∃ x' : XRel S hs i, (True/\((True/\((Value.int .i64 (IntKind.i64.wrap (x.freed + 1))) = (Value.int .i64 (x'.freed)))/\True/\True)/\(True/\True/\True/\((Value.int .u64 (x1.S'.reads)) = (Value.int .u64 (x'.S'.reads))) ∧
    True)/\(True/\True/\True/\((Value.int .u32 (x1.S'.fresh)) = (Value.int .u32 (x'.S'.fresh)))/\True)/\((x1.S'.nodes.set x1.k.toNat { key := 0, value := 0, left := 0, right := 0, size := 0, sum := 0, min := 0, max := 0 : NodeT }) = (x'.S'.nodes))/\((x1.S'.counts.set x1.k.toNat (IntKind.i64.wrap (x1.S'.ct x1.k - 1))) = (x'.S'.counts))/\((x1.S'.used.set x1.k.toNat false) = (x'.S'.used))/\((x1.S'.gen) = (x'.S'.gen))/\((x1.S'.rel ++ [x1.k]) = (x'.S'.rel))/\((x1.rest) = (x'.work))/\True)/\(2 * x'.S'.nu + x'.work.length < 2 * x.S'.nu + x.work.length))))))))))))))) ((K (SV.tup [(TV.at (At.val (Value.int .i64 (x.freed)))), (TV.at (At.val (Value.int .i64 0)))]) [(Chunk.box [(At.ptr 1 0), (At.slc 2), (At.slc 3), (At.val (Value.int .u64 (x.S'.reads)))]), (Chunk.box [(At.slc 4), (At.slc 5), (At.slc 6), (At.val (Value.int .u32 (x.S'.fresh)))]), (Chunk.row true (EC.node) (x.S'.nodes)), (Chunk.row true (EC.int) (x.S'.counts)), (Chunk.row true (EC.bool) (x.S'.used)), (Chunk.row true (EC.u32) (x.S'.gen)), (Chunk.row true (EC.u32) (x.S'.rel))] [0, 1, 2, 3, 4, 5, 6]))))))))))) = _ by kernel_rfl) ?_
  simp only [bytes_u32]
  have hin := hw.held i (by simp)
  have hge := hw.ge0 hin
  have h2 := hw.n2
  refine brS_of (fun c => ?_) fun c => ?_
  · have c : i = 0 := by simpa using c
    subst c
    exact h S 0 hw.of_zero (Kept.refl S) (by omega) (fun _ e => by rw [hw.us0 (Int.le_refl 0)] at e; cases e) fun _ => rfl
  have c : i ≠ 0 := by simpa using c
  have hu := hin.resolve_left c
  have hp := hw.pos hu
  refine ⟨hge, by omega, by omega, brS_of (fun d => by rw [hu] at d; cases d) fun _ => ⟨⟨⟨S, [i], 0, hw, Kept.refl S, by omega, by omega, by simpa using hu, fun _ => .inl ⟨rfl, rfl⟩⟩, ?_⟩, fun x _ => brS_of (fun e => ?_) fun e => ?_⟩⟩
  · (repeat' first | exact trivial | exact rfl | refine And.intro ?_ ?_)
  · obtain ⟨g1, g2, g3, g4, g5, g6⟩ := x.h
    have e : 0 < x.work.length := by have := of_decide_eq_true e; omega
    have hl := list_last (d := (0 : Int)) e
    have hn1 := g1.n2
    have hfew := g1.few
    have hfl : x.work.length <=2000000000 := by simp at hfew; omega
    rw [wrap_id (by omega) (by omega), show ((x.work.length : Int) - 1).toNat = x.work.length - 1 by omega]
    refine ⟨by omega, by omega, ⟨by omega, by omega, ⟨x.S', x.work.take (x.work.length - 1), x.work.getD (x.work.length - 1) 0, x.freed, ?_⟩, ?_⟩, fun z rz => ?_⟩
    · rw [hl]
      refine ⟨g1, g2, g3, g4, g5, fun hc => ?_⟩
      rcases g6 hc with ⟨q1, q2⟩ | ⟨q1, _⟩
      · rw [q1]; exact ⟨rfl, rfl, q2⟩
      · rw [q1] at e; simp at e
    · refine ⟨⟨rfl, ?_⟩, ?_⟩
      · have : (x.work.take (x.work.length - 1)).length = x.work.length - 1 := by simp
        show (x.work.length : Int) = ((x.work.take (x.work.length - 1)).length : Int) + 1
        omega
      · (repeat' first | exact trivial | exact rfl | refine And.intro ?_ ?_)
    · obtain ⟨r1, r2⟩ := rz
      obtain ⟨h1, h2, h3, h4, h5, h6⟩ := z.h
      have hk : z.S'.us z.k = true := h5 _ (by simp)
      have hpk := h1.pos hk
      have hcn := h1.ncnt
      have hnn := h1.nnod
      have hn2 := h1.n2
      have hfn := h1.free_nonneg
      have hfrr := h1.fr
      have hct := h1.ct_le hk
      have hw' : Wf z.S' (z.k :: (z.rest ++ hs)) := h1.perm (by rw [List.append_assoc]; exact List.perm_middle)
      refine ⟨by omega, by omega, by omega, by omega, by omega, by rw [List.length_set]; omega, ?_⟩
      rw [getD_set, if_pos ⟨rfl, by omega⟩, wrap_id (by omega) (by omega)]
      refine brS_of (fun d => ?_) fun d => ?_
      · have d : 1 < z.S'.ct z.k := by simp at d; omega
        refine ⟨⟨decS z.S' z.k, z.rest, z.freed, hw'.dec hk d, h2.trans (kept_dec _ _), h3, h4, fun w hm => h5 w (by simp [hm]), fun hc => ?_⟩, ?_⟩
        · obtain ⟨q1, q2, q3⟩ := h6 hc
          exact .inr ⟨q1, by rw [q2, q3]⟩
        · have e1 : (decS z.S' z.k).nu = z.S'.nu := rfl
          have e2 : (z.S'.counts.set z.k.toNat (z.S'.ct z.k - 1)) = (decS z.S' z.k).counts := by
            show _ = z.S'.counts.set z.k.toNat (IntKind.i64.wrap (z.S'.ct z.k - 1))
            rw [wrap_id (by omega) (by omega)]
          refine ⟨trivial, ⟨⟨trivial, by rw [r1], trivial, trivial⟩, ⟨trivial, trivial, trivial, rfl, trivial⟩, ⟨trivial, trivial, trivial, rfl, trivial⟩, rfl, e2, rfl, rfl, rfl, rfl, trivial⟩, ?_⟩
          show 2 * (decS z.S' z.k).nu + z.rest.length < _
          omega
      · have d : z.S'.ct z.k = 1 := by simp at d; omega
        obtain ⟨k1, k2, k3, k4, k5, k6⟩ := z.freed' d
        have hm := (hw'.freed hk d).2.1
        have e2 : (z.S'.counts.set z.k.toNat (z.S'.ct z.k - 1)) = (freeS z.S' z.k).counts := by
          show _ = z.S'.counts.set z.k.toNat (IntKind.i64.wrap (z.S'.ct z.k - 1))
          rw [wrap_id (by omega) (by omega)]
        have hwf : IntKind.i64.wrap (x.freed + 1) = z.freed + 1 := by
          have := h1.nu_le; have := hw.nu_le
          rw [wrap_id (by omega) (by omega), r1]
        have nl : ∀ c, (nz c).length <=1 := fun c => by unfold nz; split <;> simp
        rw [hwf]
        refine ⟨by omega, by omega, by omega, by omega, by omega, by omega, by omega, by omega, hk, brS_of (fun q1 => ⟨by simp; omega, brS_of (fun q2 => ⟨by simp; omega, ⟨⟨freeS z.S' z.k, _, z.freed + 1, k1, k2, k3, k4, k5, k6⟩, ?_⟩⟩) fun q2 => ⟨⟨freeS z.S' z.k, _, z.freed + 1, k1, k2, k3, k4, k5, k6⟩, ?_⟩⟩) fun q1 => brS_of (fun q2 => ⟨by simp; omega, ⟨⟨freeS z.S' z.k, _, z.freed + 1, k1, k2, k3, k4, k5, k6⟩, ?_⟩⟩) fun q2 => ⟨⟨freeS z.S' z.k, _, z.freed + 1, k1, k2, k3, k4, k5, k6⟩, ?_⟩⟩
        all_goals
          refine ⟨trivial, ⟨⟨trivial, rfl, trivial, trivial⟩, ⟨trivial, trivial, trivial, rfl, trivial⟩, ⟨trivial, trivial, trivial, rfl, trivial⟩, rfl, e2, rfl, rfl, rfl, ?_, trivial⟩, ?_⟩
        all_goals (try simp at q1 q2)
        case refine_1.refine_1 => simp [nz, q1, q2]
        all_goals first
          | (show 2 * (freeS z.S' z.k).nu + (z.rest ++ nz _ ++ nz _).length < _; have := nl (z.S'.nd z.k).left; have := nl (z.S'.nd z.k).right; simp only [List.length_append]; omega)
          | simp [nz, q1, q2]
  · have e : x.work = [] := by have := of_decide_eq_false e; exact List.length_eq_zero_iff.1 (by omega)
    obtain ⟨g1, g2, g3, g4, g5, g6⟩ := x.h
    rw [e] at g1
    refine h x.S' x.freed g1 g2 g4 (fun hc _ => ?_) fun hc => by rw [hu] at hc; cases hc
    rcases g6 hc with ⟨q1, _⟩ | ⟨_, q2⟩
    · rw [e] at q1; cases q1
    · exact q2
theorem s_release : SoundT C0 66 tRelease := by
  refine .ofW W7 Tryz.func66 (by decide) rfl fun args H K h hB => ?_
  unfold tRelease at h
  split at h <;> try exact h.elim
  unfold arM at h
  split at h <;> try exact h.elim
  rename_i i _ rd fr nd ct us gn rl
  obtain ⟨hs, h1, h2⟩ := h
  exact ⟨aRelease ⟨us, gn, rl, fr, nd, ct, rd⟩ hs i, ⟨frame C0.ok s_slAllocated _, frame C0.ok s_slRelease _, trivial⟩, vc_release ⟨us, gn, rl, fr, nd, ct, rd⟩ hs i K h1 h2⟩
theorem vc_make (S : Arn) (k v l r : Int) (K : KT) (hw : exW S) (hl : live S l) (hr : live S r)
    (h1 : maxSize < (mkNode S k v l r).size ->K (.tup [.at (vU 0), .at (vI 1)]) (chS S) W7)
    (h2 : (mkNode S k v l r).size <=maxSize ->S.free = 0 ->K (.tup [.at (vU 0), .at (vI 2)]) (chS S) W7)
    (h3 : (mkNode S k v l r).size <=maxSize ->0 < S.free ->∀ S' i, S' = makeS S k v l r ->i = nxt S ->K (.tup [.at (vU i), .at (vI 0)]) (chS S') W7) :
    vc C0 (aMake S k v l r) Tryz.f29 [.at (.ptr 0 0), .at (vI k), .at (vI v), .at (vU l), .at (vU r)] (chS S) (normK 7 (wideK W7 K)) := by
  refine Eq.mp (show ((((0 : Int)<=0) ∧
(0 < ((2 : Nat) : Int)) ∧
(brS (l == 0) ((∃ x : XMk S k v l r, ((0 = ((↑x.i : Int)))/\(True/\((Value.int .u32 (l)) = (Value.int .u32 (l)))/\((Value.int .u32 (r)) = (Value.int .u32 (r)))/\True/\(((Value.int .u32 (l)) = (Value.int .u32 (l)))/\((Value.int .u32 (r)) = (Value.int .u32 (r)))/\True)/\((Value.int .i64 0) = (Value.int .i64 0))/\True)/\(True/\True/\True/\((Value.int .u64 (S.reads)) = (Value.int .u64 (S.reads)))/\True)/\(True/\True/\True/\((Value.int .u32 (S.fresh)) = (Value.int .u32 (S.fresh)))/\True)/\((S.nodes) = (S.nodes))/\((S.counts) = (S.counts))/\((S.used) = (S.used))/\((S.gen) = (S.gen))/\((S.rel) = (S.rel))/\(((Value.int .i64 (k)) = (Value.int .i64 (x.n.key)))/\((Value.int .i64 (v)) = (Value.int .i64 (x.n.value)))/\((Value.int .u32 (l)) = (Value.int .u32 (x.n.left)))/\((Value.int .u32 (r)) = (Value.int .u32 (x.n.right)))/\((Value.int .i64 1) = (Value.int .i64 (x.n.size)))/\((Value.int .i64 (v)) = (Value.int .i64 (x.n.sum)))/\((Value.int .i64 (v)) = (Value.int .i64 (x.n.min)))/\((Value.int .i64 (v)) = (Value.int .i64 (x.n.max)))/\True)/\True))) (((0<=l)/\(l < 4294967296)/\(S.used.length<=65537)/\(brS (!S.us l)
    ((K (SV.tup [(TV.at (At.val (Value.int .u32 0))), (TV.at (At.val (Value.int .i64 1)))]) [(Chunk.box [(At.ptr 1 0), (At.slc 2), (At.slc 3), (At.val (Value.int .u64 (S.reads)))]), (Chunk.box [(At.slc 4), (At.slc 5), (At.slc 6), (At.val (Value.int .u32 (S.fresh)))]), (Chunk.row true (EC.node) (S.nodes)), (Chunk.row true (EC.int) (S.counts)), (Chunk.row true (EC.bool) (S.used)), (Chunk.row true (EC.u32) (S.gen)), (Chunk.row true (EC.u32) (S.rel))] [0, 1, 2, 3, 4, 5, 6])) (((0<=l)/\(l < (↑S.nodes.length : Int))/\(∃ x : XMk S k v l r, ((0 = ((↑x.i : Int)))/\(True/\((Value.int .u32 (l)) = (Value.int .u32 (l)))/\((Value.int .u32 (r)) = (Value.int .u32 (r)))/\True/\(((Value.int .u32 (l)) = (Value.int .u32 (l)))/\((Value.int .u32 (r)) = (Value.int .u32 (r)))/\True)/\((Value.int .i64 0) = (Value.int .i64 0))/\True)/\(True/\True/\True/\((Value.int .u64 (S.reads)) = (Value.int .u64 (S.reads)))/\True)/\(True/\True/\True/\((Value.int .u32 (S.fresh)) = (Value.int .u32 (S.fresh)))/\True)/\((S.nodes) = (S.nodes))/\((S.counts) = (S.counts))/\((S.used) = (S.used))/\((S.gen) = (S.gen))/\((S.rel) = (S.rel))/\(((Value.int .i64 (k)) = (Value.int .i64 (x.n.key)))/\((Value.int .i64 (v)) = (Value.int .i64 (x.n.value)))/\((Value.int .u32 (l)) = (Value.int .u32 (x.n.left))) ∧
    ((Value.int .u32 (r)) = (Value.int .u32 (x.n.right)))/\((Value.int .i64 (IntKind.i64.wrap (1 + (S.nd l).size))) = (Value.int .i64 (x.n.size)))/\((Value.int .i64 (IntKind.i64.wrap (v + (S.nd l).sum))) = (Value.int .i64 (x.n.sum)))/\((Value.int .i64 (if (S.nd l).min < v then (S.nd l).min else v)) = (Value.int .i64 (x.n.min)))/\((Value.int .i64 (if (S.nd l).max > v then (S.nd l).max else v)) = (Value.int .i64 (x.n.max)))/\True)/\True))))))))) ∧
(∀ x : XMk S k v l r, ((0 = ((↑x.i : Int)))->(((0<=IntKind.i64.wrap (0 + 1))/\(IntKind.i64.wrap (0 + 1) < ((2 : Nat) : Int))/\(brS (r == 0) ((∃ x1 : XMk S k v l r, ((1 = ((↑x1.i : Int)))/\(True/\((Value.int .u32 (l)) = (Value.int .u32 (l)))/\((Value.int .u32 (r)) = (Value.int .u32 (r)))/\True/\(((Value.int .u32 (l)) = (Value.int .u32 (l)))/\((Value.int .u32 (r)) = (Value.int .u32 (r)))/\True)/\((Value.int .i64 1) = (Value.int .i64 1))/\True)/\(True/\True/\True/\((Value.int .u64 (S.reads)) = (Value.int .u64 (S.reads)))/\True)/\(True/\True/\True/\((Value.int .u32 (S.fresh)) = (Value.int .u32 (S.fresh)))/\True)/\((S.nodes) = (S.nodes))/\((S.counts) = (S.counts))/\((S.used) = (S.used))/\((S.gen) = (S.gen))/\((S.rel) = (S.rel))/\(((Value.int .i64 (x.n.key)) = (Value.int .i64 (x1.n.key))) ∧
    ((Value.int .i64 (x.n.value)) = (Value.int .i64 (x1.n.value)))/\((Value.int .u32 (x.n.left)) = (Value.int .u32 (x1.n.left)))/\((Value.int .u32 (x.n.right)) = (Value.int .u32 (x1.n.right)))/\((Value.int .i64 (x.n.size)) = (Value.int .i64 (x1.n.size)))/\((Value.int .i64 (x.n.sum)) = (Value.int .i64 (x1.n.sum)))/\((Value.int .i64 (x.n.min)) = (Value.int .i64 (x1.n.min)))/\((Value.int .i64 (x.n.max)) = (Value.int .i64 (x1.n.max)))/\True)/\True))) (((0<=r)/\(r < 4294967296)/\(S.used.length<=65537)/\(brS (!S.us r) ((K (SV.tup [(TV.at (At.val (Value.int .u32 0))), (TV.at (At.val (Value.int .i64 1)))]) [(Chunk.box [(At.ptr 1 0), (At.slc 2), (At.slc 3), (At.val (Value.int .u64 (S.reads)))]), (Chunk.box [(At.slc 4), (At.slc 5), (At.slc 6), (At.val (Value.int .u32 (S.fresh)))]), (Chunk.row true (EC.node) (S.nodes)), (Chunk.row true (EC.int) (S.counts)), (Chunk.row true (EC.bool) (S.used)), (Chunk.row true (EC.u32) (S.gen)), (Chunk.row true (EC.u32) (S.rel))] [0, 1, 2, 3, 4, 5, 6])) (((0<=r)/\(r < (↑S.nodes.length : Int))/\(∃ x1 : XMk S k v l r, ((1 = ((↑x1.i : Int)))/\(True/\((Value.int .u32 (l)) = (Value.int .u32 (l)))/\((Value.int .u32 (r)) = (Value.int .u32 (r)))/\True/\(((Value.int .u32 (l)) = (Value.int .u32 (l)))/\((Value.int .u32 (r)) = (Value.int .u32 (r)))/\True) ∧
    ((Value.int .i64 1) = (Value.int .i64 1))/\True)/\(True/\True/\True/\((Value.int .u64 (S.reads)) = (Value.int .u64 (S.reads)))/\True)/\(True/\True/\True/\((Value.int .u32 (S.fresh)) = (Value.int .u32 (S.fresh)))/\True)/\((S.nodes) = (S.nodes))/\((S.counts) = (S.counts))/\((S.used) = (S.used))/\((S.gen) = (S.gen))/\((S.rel) = (S.rel))/\(((Value.int .i64 (x.n.key)) = (Value.int .i64 (x1.n.key)))/\((Value.int .i64 (x.n.value)) = (Value.int .i64 (x1.n.value)))/\((Value.int .u32 (x.n.left)) = (Value.int .u32 (x1.n.left)))/\((Value.int .u32 (x.n.right)) = (Value.int .u32 (x1.n.right)))/\((Value.int .i64 (IntKind.i64.wrap (x.n.size + (S.nd r).size))) = (Value.int .i64 (x1.n.size)))/\((Value.int .i64 (IntKind.i64.wrap (x.n.sum + (S.nd r).sum))) = (Value.int .i64 (x1.n.sum)))/\((Value.int .i64 (if (S.nd r).min < x.n.min then (S.nd r).min else x.n.min)) = (Value.int .i64 (x1.n.min)))/\((Value.int .i64 (if (S.nd r).max > x.n.max then (S.nd r).max else x.n.max)) = (Value.int .i64 (x1.n.max)))/\True)/\True)))))))))/\(∀ x1 : XMk S k v l r, ((1 = ((↑x1.i : Int)))->(brS (decide (x1.n.size > 2147483647))
    ((K (SV.tup [(TV.at (At.val (Value.int .u32 0))), (TV.at (At.val (Value.int .i64 1)))]) [(Chunk.box [(At.ptr 1 0), (At.slc 2), (At.slc 3), (At.val (Value.int .u64 (S.reads)))]), (Chunk.box [(At.slc 4), (At.slc 5), (At.slc 6), (At.val (Value.int .u32 (S.fresh)))]), (Chunk.row true (EC.node) (S.nodes)), (Chunk.row true (EC.int) (S.counts)), (Chunk.row true (EC.bool) (S.used)), (Chunk.row true (EC.u32) (S.gen)), (Chunk.row true (EC.u32) (S.rel))] [0, 1, 2, 3, 4, 5, 6])) (((1<=S.used.length)/\(S.used.length<=65537)/\(S.rel.length<=65537)/\(0<=S.fresh)/\(S.fresh<=65537)/\((S.gen.length) = (S.used.length))/\(relOK S.rel S.used.length)/\(0<=(↑S.rel.length : Int) + ((↑S.used.length : Int) - 1) - S.fresh)/\((((↑S.rel.length : Int) + ((↑S.used.length : Int) - 1) - S.fresh) = 0)->(K (SV.tup [(TV.at (At.val (Value.int .u32 0))), (TV.at (At.val (Value.int .i64 2)))]) [(Chunk.box [(At.ptr 1 0), (At.slc 2), (At.slc 3), (At.val (Value.int .u64 (S.reads)))]), (Chunk.box [(At.slc 4), (At.slc 5), (At.slc 6), (At.val (Value.int .u32 (S.fresh)))]), (Chunk.row true (EC.node) (S.nodes)), (Chunk.row true (EC.int) (S.counts)), (Chunk.row true (EC.bool) (S.used)), (Chunk.row true (EC.u32) (S.gen)), (Chunk.row true (EC.u32) (S.rel))] [0, 1, 2, 3, 4, 5, 6]))/\((0 < (↑S.rel.length : Int) + ((↑S.used.length : Int) - 1) - S.fresh)->(∀ i : Int, (∀ rl' : List Int, (∀ fr' : Int,
    (((Prod.mk (i) (Prod.mk (rl') (fr'))) = (fresh3 S.rel S.fresh))->((0<=i)/\(i < (↑S.nodes.length : Int))/\(0<=i)/\(i < (↑S.counts.length : Int))/\(0<=l)/\(l < (↑(S.counts.set i.toNat 1).length : Int))/\(0<=l)/\(l < (↑(S.counts.set i.toNat 1).length : Int))/\(0<=r)/\(r < (↑((S.counts.set i.toNat 1).set l.toNat (IntKind.i64.wrap ((S.counts.set i.toNat 1).getD l.toNat 0 + 1))).length : Int))/\(0<=r)/\(r < (↑((S.counts.set i.toNat 1).set l.toNat (IntKind.i64.wrap ((S.counts.set i.toNat 1).getD l.toNat 0 + 1))).length : Int)) ∧
    (K (SV.tup [(TV.at (At.val (Value.int .u32 (i)))), (TV.at (At.val (Value.int .i64 0)))]) [(Chunk.box [(At.ptr 1 0), (At.slc 2), (At.slc 3), (At.val (Value.int .u64 (S.reads)))]), (Chunk.box [(At.slc 4), (At.slc 5), (At.slc 6), (At.val (Value.int .u32 (fr')))]), (Chunk.row true (EC.node) (S.nodes.set i.toNat { key := x1.n.key, value := x1.n.value, left := x1.n.left, right := x1.n.right, size := x1.n.size, sum := x1.n.sum, min := x1.n.min, max := x1.n.max : NodeT })), (Chunk.row true (EC.int) (((S.counts.set i.toNat 1).set l.toNat (IntKind.i64.wrap ((S.counts.set i.toNat 1).getD l.toNat 0 + 1))).set r.toNat (IntKind.i64.wrap (((S.counts.set i.toNat 1).set l.toNat (IntKind.i64.wrap ((S.counts.set i.toNat 1).getD l.toNat 0 + 1))).getD r.toNat 0 + 1)))), (Chunk.row true (EC.bool) (S.used.set i.toNat true)), (Chunk.row true (EC.u32) (S.gen.set i.toNat (IntKind.u32.wrap (S.gn i + 1)))), (Chunk.row true (EC.u32) (rl'))] [0, 1, 2, 3, 4, 5, 6])))))))))))))))) = _ by kernel_rfl) ?_
  obtain ⟨hs, hw⟩ := hw
  have hn1 := hw.n1; have hn2 := hw.n2; have hnn := hw.nnod; have hng := hw.ngen; have hnc := hw.ncnt; have hfr := hw.fr; have hfree := hw.free_nonneg
  have hl0 := hw.ge0 hl
  have hr0 := hw.ge0 hr
  have hl1 : l < S.used.length := by rcases hl with e | e; omega; have := hw.pos e; omega
  have hr1 : r < S.used.length := by rcases hr with e | e; omega; have := hw.pos e; omega
  refine ⟨⟨by decide, by decide, brS_of (fun c => ⟨⟨0, ⟨k, v, l, r, 1, v, v, v⟩, ?_⟩, ?_⟩) fun c => ⟨hl0, by omega, by omega, brS_of (fun d => ?_) fun d => ⟨hl0, by omega, ⟨⟨0, addK ⟨k, v, l, r, 1, v, v, v⟩ (S.nd l), ?_⟩, ?_⟩⟩⟩⟩,
    fun x rx => ⟨⟨by decide, by decide, brS_of (fun c => ⟨⟨1, x.n, ?_⟩, ?_⟩) fun c => ⟨hr0, by omega, by omega, brS_of (fun d => ?_) fun d => ⟨hr0, by omega, ⟨⟨1, addK x.n (S.nd r), ?_⟩, ?_⟩⟩⟩⟩, fun x1 r1 => ?_⟩⟩
  · have c : l = 0 := by simpa using c
    rw [if_pos rfl]; unfold addC; rw [if_pos c]
  · (repeat' first | exact trivial | exact rfl | refine And.intro ?_ ?_)
  · have c : l ≠ 0 := by simpa using c
    have := hl.resolve_left c
    rw [this] at d; cases d
  · have c : l ≠ 0 := by simpa using c
    rw [if_pos rfl]; unfold addC; rw [if_neg c]
  · (repeat' first | exact trivial | exact rfl | refine And.intro ?_ ?_)
  · have c : r = 0 := by simpa using c
    have hx := x.h
    rw [if_pos (by omega)] at hx
    rw [if_neg (by decide)]; unfold mkNode; rw [← hx]; unfold addC; rw [if_pos c]
  · (repeat' first | exact trivial | exact rfl | refine And.intro ?_ ?_)
  · have c : r ≠ 0 := by simpa using c
    have := hr.resolve_left c
    rw [this] at d; cases d
  · have c : r ≠ 0 := by simpa using c
    have hx := x.h
    rw [if_pos (by omega)] at hx
    rw [if_neg (by decide)]; unfold mkNode; rw [← hx]; unfold addC; rw [if_neg c]
  · (repeat' first | exact trivial | exact rfl | refine And.intro ?_ ?_)
  · obtain ⟨i1, n1, hx⟩ := x1
    have r1 : i1 = 1 := by have : (1 : Int) = (i1 : Int) := r1; omega
    subst r1
    rw [if_neg (by decide)] at hx
    subst hx
    refine brS_of (fun c => h1 (by have : (mkNode S k v l r).size > 2147483647 := of_decide_eq_true c; unfold maxSize; omega)) fun c => ?_
    have c : (mkNode S k v l r).size <=maxSize := by have : ¬ (mkNode S k v l r).size > 2147483647 := of_decide_eq_false c; unfold maxSize; omega
    refine ⟨by omega, hn2, by omega, hfr.1, by omega, hng, fun i hi => by have := hw.rel i hi; omega, by have := hfree.1; unfold Arn.free Arn.cap at this; omega, fun e => h2 c (by unfold Arn.free Arn.cap; omega), fun e i rl' fr' he => ?_⟩
    have e : 0 < S.free := by unfold Arn.free Arn.cap; omega
    have h4 := h3 c e _ _ rfl rfl
    obtain ⟨b1, b2, _⟩ := hw.nxt_spec e
    have e1 : i = nxt S := congrArg Prod.fst he
    have e2 : rl' = (freshS S).2.1 := congrArg (fun p : Int × List Int × Int => p.2.1) he
    have e3 : fr' = (freshS S).2.2 := congrArg (fun p : Int × List Int × Int => p.2.2) he
    subst e1 e2 e3
    refine ⟨by omega, by omega, by omega, by omega, hl0, ?_, hl0, ?_, hr0, ?_, hr0, ?_, h4⟩
    all_goals (simp only [List.length_set]; omega)
theorem s_make : SoundT C0 29 tMake := by
  refine .ofW W7 Tryz.func29 (by decide) rfl fun args H K h hB => ?_
  unfold tMake at h
  split at h <;> try exact h.elim
  unfold arM at h
  split at h <;> try exact h.elim
  rename_i k v l r _ rd fr nd ct us gn rl
  obtain ⟨h1, h2, h3, h4, h5, h6⟩ := h
  exact ⟨aMake ⟨us, gn, rl, fr, nd, ct, rd⟩ k v l r, ⟨frame C0.ok s_slAllocated _, frame C0.ok s_slAlloc _, trivial⟩, vc_make ⟨us, gn, rl, fr, nd, ct, rd⟩ k v l r K h1 h2 h3 h4 h5 h6⟩
end Go.Proofs.YtmjnoiajenoinaaGreat.Sx
end
section
/- Make where it succeeds, Release where another reference is left. -/
namespace Go.Proofs.YtmjnoiajenoinaaGreat.Sx
open Go

def tMakeOk : Tfm C0 := fun args H K => match args with
  | [.at (.ptr 0 0), .at (.val (.int .i64 k)), .at (.val (.int .i64 v)), .at (.val (.int .u32 l)), .at (.val (.int .u32 r))] => arM H fun S => exW S /\live S l /\live S r /\(mkNode S k v l r).size <=maxSize /\0 < S.free ∧
    ∀ S' i, S' = makeS S k v l r ->i = nxt S ->K (.tup [.at (vU i), .at (vI 0)]) (chS S') W7
  | _ => False
theorem s_makeOk : SoundT C0 29 tMakeOk := s_make.weak fun args H K h => by
  unfold tMakeOk at h
  unfold tMake
  split at h <;> try exact h.elim
  unfold arM at h ⊢
  split at h <;> try exact h.elim
  obtain ⟨h1, h2, h3, h4, h5, h6⟩ := h
  exact ⟨h1, h2, h3, fun e => absurd h4 (by omega), fun _ e => absurd h5 (by omega), fun _ _ => h6⟩
def tGive : Tfm C0 := fun args H K => match args with
  | [.at (.ptr 0 0), .at (.val (.int .u32 i))] => arM H fun S => ∃ hs, Wf S (i :: hs) /\(S.us i = true ->1 <=S.indeg i) /\∀ S', S' = relA S i ->K (.tup [.at (vI 0), .at (vI 0)]) (chS S') W7
  | _ => False
theorem s_give : SoundT C0 66 tGive := s_release.weak fun args H K h => by
  unfold tGive at h
  unfold tRelease
  split at h <;> try exact h.elim
  unfold arM at h ⊢
  split at h <;> try exact h.elim
  obtain ⟨hs, h1, h2, h3⟩ := h
  refine ⟨hs, h1, fun S' fr _ _ h4 h5 h6 => ?_⟩
  have e := h1.given h2 h5 h6
  have h7 := h3 S' e
  have : fr = 0 := by rw [e, (relA_flds _ _).2.2.1] at h4; omega
  rw [this]
  exact h7
end Go.Proofs.YtmjnoiajenoinaaGreat.Sx
end
