/- The rule of the frame, end. No program in sight. -/
import Derived.Test.YtacdmmomkngpkaaSxN
namespace Go.Proofs.Ytacdmmomkngpkaa.Sx
open Go

section
variable {C : Ctx}
variable {H H' H1 : List (Chunk C)} {σ σ' σ1 : Nat → Value} {φ φ' φ1 : Nat → Nat → Prop} {w w' : World}

def backσ (Tn L : List Nat) (h0 : Nat) (σ σ1 : Nat → Value) (n : Nat) : Value := if n < h0 then (match idxOf n Tn with | some k => σ1 k | none => σ n) else σ1 (n - h0 + L.length)
def backφ (Tn L : List Nat) (h0 : Nat) (φ φ1 : Nat → Nat → Prop) (n b : Nat) : Prop := if n < h0 then (match idxOf n Tn with | some k => φ1 k b | none => φ n b) else φ1 (n - h0 + L.length) b

theorem locH_get {Tn Ln : List Nat} {k n : Nat} (hT : ∀ n ∈ Tn, n < H.length) (h : Tn[k]? = some n) : (locH Tn Ln H)[k]? = (H[n]?).map (Chunk.ren fun n => idxOf n Tn) := by
  have hk := (List.getElem?_eq_some_iff.1 h).1
  unfold locH
  rw [List.getElem?_append_left (by simpa [pickH] using hk)]
  unfold pickH
  rw [List.getElem?_map, h, getD_some (d := .gone) (hT n (List.mem_of_getElem? h))]
  rfl
theorem frame_out (hC : C.OK) (h : Sat C σ φ w H) {Tn Ln : List Nat} (hnd : Tn.Nodup) (hT : ∀ n ∈ Tn, n < H.length) (hL : ∀ n ∈ Ln, n < H.length) (hok : okLent Tn Ln H = true) {ts : List Nat} {r : SV} {v : Value}
    (g : COut C (locH Tn Ln H) (fun k => σ ((Tn ++ Ln).getD k 0)) (fun k b => k < Tn.length ∧ φ ((Tn ++ Ln).getD k 0) b) w ts r v H1 σ1 φ1 w')
    (hoo : okOut Tn.length (Tn ++ Ln).length (locH Tn Ln H) H1 ts = true) :
    COut C H σ φ w (ts.filterMap (Tn[·]?)) (r.ren (backN (Tn ++ Ln) H.length)) v (backH Tn (Tn ++ Ln) (ts.filterMap (Tn[·]?)) H H1) (backσ Tn (Tn ++ Ln) H.length σ σ1) (backφ Tn (Tn ++ Ln) H.length φ φ1) w' := by
  have hl0 : (locH Tn Ln H).length = (Tn ++ Ln).length := by simp [locH, pickH]
  have hn0 : (Tn ++ Ln).length ≤ H1.length := hl0 ▸ g.len
  have htl : Tn.length ≤ (Tn ++ Ln).length := by simp
  have hgl : ∀ {k n : Nat}, Tn[k]? = some n → (Tn ++ Ln).getD k 0 = n := fun {k n} hk => by
    simp [List.getD_eq_getElem?_getD, List.getElem?_append_left (List.getElem?_eq_some_iff.1 hk).1, hk]
  have hts : ∀ {k n : Nat}, Tn[k]? = some n → n ∉ ts.filterMap (Tn[·]?) → k ∉ ts := fun {k n} hk hn hh => hn (List.mem_filterMap.2 ⟨k, hh, hk⟩)
  have hown : ∀ {k n : Nat}, Tn[k]? = some n → isOwn (locH Tn Ln H) k = isOwn H n := fun {k n} hk => isOwn_ren (locH_get hT hk)
  have hks : ∀ {k n : Nat}, Tn[k]? = some n → k < (locH Tn Ln H).length := fun {k n} hk => by
    have := (List.getElem?_eq_some_iff.1 hk).1; omega
  have hsame : ∀ {k n : Nat}, Tn[k]? = some n → isOwn H n = false ∨ n ∉ ts.filterMap (Tn[·]?) → σ1 k = σ n := fun {k n} hk ho => by
    have := g.agree k (hks hk) (ho.imp (fun e => (hown hk).trans e) (hts hk))
    rw [this, hgl hk]
  have hblen : (backH Tn (Tn ++ Ln) (ts.filterMap (Tn[·]?)) H H1).length = H.length + (H1.length - (Tn ++ Ln).length) := by simp [backH]
  have hbin : ∀ {n k : Nat}, idxOf n Tn = some k → (backH Tn (Tn ++ Ln) (ts.filterMap (Tn[·]?)) H H1)[n]? = (H1[k]?).map (Chunk.ren (backN (Tn ++ Ln) H.length)) := fun {n k} hk => by
    have hn := hT n (List.mem_of_getElem? (idxOf_spec hk))
    have := hks (idxOf_spec hk)
    unfold backH
    rw [List.getElem?_append_left (by simpa using hn), List.getElem?_map, List.getElem?_range hn]
    simp only [Option.map_some, hk]
    rw [getD_some (d := .gone) (l := H1) (i := k) (by omega)]
    rfl
  have hbno : ∀ {n : Nat}, n < H.length → idxOf n Tn = none → (backH Tn (Tn ++ Ln) (ts.filterMap (Tn[·]?)) H H1)[n]? = (killsH ((ts.filterMap (Tn[·]?)).filter (isOwn H)) H)[n]? := fun {n} hn hk => by
    unfold backH
    rw [List.getElem?_append_left (by simpa using hn), List.getElem?_map, List.getElem?_range hn]
    simp only [Option.map_some, hk]
    rw [← getD_some (by rw [killsH_length]; exact hn)]
  have hbnew : ∀ {n : Nat}, H.length ≤ n → (backH Tn (Tn ++ Ln) (ts.filterMap (Tn[·]?)) H H1)[n]? = (H1[n - H.length + (Tn ++ Ln).length]?).map (Chunk.ren (backN (Tn ++ Ln) H.length)) := fun {n} hn => by
    unfold backH
    rw [List.getElem?_append_right (by simpa using hn), List.getElem?_map, List.getElem?_drop]
    simp only [List.length_map, List.length_range, Nat.add_comm]
  -- the source of a name that was handed over or is new
  have src : ∀ n, (n ∈ Tn ∨ H.length ≤ n) → ∃ k, backσ Tn (Tn ++ Ln) H.length σ σ1 n = σ1 k ∧ (∀ b, backφ Tn (Tn ++ Ln) H.length φ φ1 n b ↔ φ1 k b) ∧
      (backH Tn (Tn ++ Ln) (ts.filterMap (Tn[·]?)) H H1)[n]? = (H1[k]?).map (Chunk.ren (backN (Tn ++ Ln) H.length)) ∧ ((Tn[k]? = some n ∧ n < H.length) ∨ ((Tn ++ Ln).length ≤ k ∧ n = H.length + (k - (Tn ++ Ln).length))) := by
    intro n hn
    by_cases hlt : n < H.length
    · have hmem : n ∈ Tn := hn.resolve_right (by omega)
      cases hi : idxOf n Tn with
      | none => exact absurd hmem (idxOf_none hi)
      | some k => exact ⟨k, by simp [backσ, hlt, hi], fun b => by simp [backφ, hlt, hi], hbin hi, .inl ⟨idxOf_spec hi, hlt⟩⟩
    · exact ⟨n - H.length + (Tn ++ Ln).length, by simp only [backσ, if_neg hlt], fun b => by simp only [backφ, if_neg hlt], hbnew (by omega), .inr ⟨by omega, by omega⟩⟩
  have hno : ∀ n, ¬ (n ∈ Tn ∨ H.length ≤ n) → n < H.length ∧ idxOf n Tn = none := fun n hn => by
    have h1 : n ∉ Tn := fun e => hn (.inl e)
    refine ⟨by have : ¬ H.length ≤ n := fun e => hn (.inr e); omega, ?_⟩
    cases hi : idxOf n Tn with
    | none => rfl
    | some k => exact absurd (List.mem_of_getElem? (idxOf_spec hi)) h1
  have hρ : ∀ j m, backN (Tn ++ Ln) H.length j = some m → backσ Tn (Tn ++ Ln) H.length σ σ1 m = σ1 j := by
    intro j m hjm
    unfold backN at hjm
    split at hjm
    · rename_i n hn
      simp only [Option.some.injEq] at hjm
      subst hjm
      rcases Nat.lt_or_ge j Tn.length with hj | hj
      · rw [List.getElem?_append_left hj] at hn
        simp [backσ, hT n (List.mem_of_getElem? hn), idxOf_nodup hnd hn]
      · have hjl := (List.getElem?_eq_some_iff.1 hn).1
        have hn' := hn
        rw [List.getElem?_append_right hj] at hn
        have hnl := hL n (List.mem_of_getElem? hn)
        have hlent : isOwn (locH Tn Ln H) j = false := by
          unfold isOwn locH
          rw [List.getElem?_append_right (by simpa [pickH] using hj)]
          simp only [pickH, List.length_map, List.getElem?_map, hn, Option.map_some]
          cases H.getD n .gone <;> rfl
        have hj1 : σ1 j = σ n := by
          rw [g.agree j (by omega) (.inl hlent)]
          simp [List.getD_eq_getElem?_getD, hn']
        rw [hj1]
        unfold backσ
        rw [if_pos hnl]
        split
        · rename_i k hk
          refine hsame (idxOf_spec hk) (.inl ?_)
          have := List.all_eq_true.1 hok n (List.mem_of_getElem? hn)
          have hmem := List.mem_of_getElem? (idxOf_spec hk)
          simpa [hmem] using this
        · rfl
    · rename_i hj
      simp only [Option.some.injEq] at hjm
      subst hjm
      have : (Tn ++ Ln).length ≤ j := List.getElem?_eq_none_iff.1 hj
      unfold backσ
      rw [if_neg (by omega)]
      congr 1
      omega
  have hren : ∀ j m, backN (Tn ++ Ln) H.length j = some m → j < H1.length → m < H.length + (H1.length - (Tn ++ Ln).length) := by
    intro j m hjm hj
    unfold backN at hjm
    split at hjm
    · rename_i n hn
      simp only [Option.some.injEq] at hjm
      subst hjm
      rcases List.mem_append.1 (List.mem_of_getElem? hn) with hn | hn
      · have := hT n hn; omega
      · have := hL n hn; omega
    · rename_i hj'
      simp only [Option.some.injEq] at hjm
      subst hjm
      have : (Tn ++ Ln).length ≤ j := List.getElem?_eq_none_iff.1 hj'
      omega
  have hfrl : ∀ b, b < w.heap.size → (∀ n, (n ∈ Tn ∨ H.length ≤ n) → ¬ φ n b) → w'.heap[b]? = w.heap[b]? := fun b hb hno => g.adv.fr b hb fun k hk => by
    have := getD_some (d := 0) hk.1
    rw [hgl this] at hk
    exact hno _ (.inl (List.mem_of_getElem? this)) hk.2
  have hold' : ∀ n, ¬ (n ∈ Tn ∨ H.length ≤ n) → backσ Tn (Tn ++ Ln) H.length σ σ1 n = σ n ∧ ∀ b, backφ Tn (Tn ++ Ln) H.length φ φ1 n b ↔ φ n b := fun n hn => by
    obtain ⟨h1, h2⟩ := hno n hn
    exact ⟨by simp [backσ, h1, h2], fun b => by simp [backφ, h1, h2]⟩
  have hgrow : ∀ n b, (n ∈ Tn ∨ H.length ≤ n) → backφ Tn (Tn ++ Ln) H.length φ φ1 n b → (∃ m, (m ∈ Tn ∨ H.length ≤ m) ∧ φ m b) ∨ w.heap.size ≤ b := fun n b hn hb => by
    obtain ⟨k, _, h2, _⟩ := src n hn
    rcases g.adv.grow k b ((h2 b).1 hb) with ⟨m, hm⟩ | hle
    · have := getD_some (d := 0) hm.1
      rw [hgl this] at hm
      exact .inl ⟨_, .inl (List.mem_of_getElem? this), hm.2⟩
    · exact .inr hle
  have hagree : ∀ n, n < H.length → isOwn H n = false ∨ n ∉ ts.filterMap (Tn[·]?) → backσ Tn (Tn ++ Ln) H.length σ σ1 n = σ n := fun n hn ho => by
    unfold backσ
    rw [if_pos hn]
    split
    · rename_i k hk; exact hsame (idxOf_spec hk) ho
    · rfl
  obtain ⟨hoo1, hoo2⟩ := Bool.and_eq_true_iff.1 hoo
  have hsat : Sat C (backσ Tn (Tn ++ Ln) H.length σ σ1) (backφ Tn (Tn ++ Ln) H.length φ φ1) w' (backH Tn (Tn ++ Ln) (ts.filterMap (Tn[·]?)) H H1) := by
    refine (h.kills ((ts.filterMap (Tn[·]?)).filter (isOwn H))).step hC (fun n => n ∈ Tn ∨ H.length ≤ n) g.adv.size hfrl (fun n hn => ⟨hbno (hno n hn).1 (hno n hn).2, hold' n hn⟩) (fun n c hn hc m hm => ?_) (fun n c hn hc => ?_)
      hgrow (fun n m b hn hm hb hb' => ?_) (fun n b hn hb => ?_) (fun n e l hn hc hpos b hb m hm => ?_) (fun n hn b hb => ?_) (by rw [killsH_length, hblen]; omega) (fun n c hn hc m hm => ?_)
    · have hlt := (h.kills ((ts.filterMap (Tn[·]?)).filter (isOwn H))).cl n c hc m hm
      rw [killsH_length] at hlt
      refine hagree m hlt ?_
      have := killsH_get _ hc m hm
      rw [List.mem_filter] at this
      by_cases hm' : m ∈ ts.filterMap (Tn[·]?)
      · refine .inl ?_
        cases hx : isOwn H m with
        | false => rfl
        | true => exact absurd ⟨hm', hx⟩ this
      · exact .inr hm'
    · obtain ⟨k, h1, h2, h3, _⟩ := src n hn
      rw [h3, Option.map_eq_some_iff] at hc
      obtain ⟨c0, hc0, rfl⟩ := hc
      rw [h1, show backφ Tn (Tn ++ Ln) H.length φ φ1 n = φ1 k from funext fun b => propext (h2 b)]
      exact (g.sat.holds k c0 hc0).ren hρ
    · obtain ⟨k, _, h2, _, h4⟩ := src n hn
      obtain ⟨k', _, h2', _, h4'⟩ := src m hm
      have := g.sat.dis k k' b ((h2 b).1 hb) ((h2' b).1 hb')
      subst this
      rcases h4 with ⟨h4, _⟩ | ⟨h4, h5⟩ <;> rcases h4' with ⟨h4', _⟩ | ⟨h4', h5'⟩
      · exact Option.some.inj (h4.symm.trans h4')
      · have := (List.getElem?_eq_some_iff.1 h4).1; omega
      · have := (List.getElem?_eq_some_iff.1 h4').1; omega
      · omega
    · obtain ⟨k, _, h2, _⟩ := src n hn
      exact g.sat.bd k b ((h2 b).1 hb)
    · obtain ⟨k, h1, h2, h3, h4⟩ := src n hn
      rw [h3, Option.map_eq_some_iff] at hc
      obtain ⟨c0, hc0, he⟩ := hc
      have he' := Chunk.ren_row he
      subst he'
      rw [h1] at hb
      by_cases hmS : m ∈ Tn ∨ H.length ≤ m
      · obtain ⟨k', _, h2', _⟩ := src m hmS
        exact g.sat.imm k e l hc0 hpos b hb k' ((h2' b).1 hm)
      · have hm2 := ((hold' m hmS).2 b).1 hm
        rcases h4 with ⟨h4, hlt⟩ | ⟨h4, _⟩
        · have hk := (List.getElem?_eq_some_iff.1 h4).1
          have hkk := List.all_eq_true.1 hoo1 k (List.mem_range.2 hk)
          have e1 : isRow0 (H1.getD k .gone) = true := by
            have : H1.getD k .gone = .row false e l := by simp [List.getD_eq_getElem?_getD, hc0]
            rw [this]; rfl
          rw [e1] at hkk
          simp only [Bool.not_true, Bool.false_or, Bool.or_eq_true, Bool.and_eq_true] at hkk
          have hHn := getD_some (d := .gone) hlt
          have hHl := locH_get (Ln := Ln) hT h4
          rw [hHn] at hHl
          have hgd : (locH Tn Ln H).getD k .gone = (H.getD n .gone).ren (fun n => idxOf n Tn) := by
            rw [List.getD_eq_getElem?_getD, hHl]; rfl
          rcases hkk with hkk | ⟨hk1, hk2⟩
          · rw [hgd] at hkk
            generalize H.getD n .gone = c at *
            match c, hkk, hHn with
            | .row false e' l', _, hHn =>
              have hnown : isOwn H n = false := by simp [isOwn, hHn]
              have hσ := hsame h4 (.inl hnown)
              rw [hσ] at hb
              refine h.imm n e' l' hHn ?_ b hb m hm2
              have i1 := (g.sat.holds k _ hc0).1
              have i2 := (h.holds n _ hHn).1
              obtain ⟨A, c, e1, _⟩ := i1
              obtain ⟨A', c', e2, _⟩ := i2
              rw [hσ, e2] at e1
              simp only [Value.slice.injEq] at e1
              omega
          · have hk2' : k ∉ ts := by simpa using hk2
            rw [hown h4] at hk1
            obtain ⟨e', l', hHo⟩ := isOwn_some.1 hk1
            have hσ : σ1 k = σ n := by
              rw [g.agree k (hks h4) (.inr hk2'), hgl h4]
            rw [hσ] at hb
            have := ((h.holds n _ hHo).2 b).2 hb
            have := h.dis m n b hm2 this
            subst this
            exact hmS (.inl (List.mem_of_getElem? h4))
        · have hmem : Chunk.row false e l ∈ H1.drop (Tn ++ Ln).length := by
            refine List.mem_of_getElem? (i := k - (Tn ++ Ln).length) ?_
            rw [List.getElem?_drop]
            rw [show (Tn ++ Ln).length + (k - (Tn ++ Ln).length) = k by omega]
            exact hc0
          have := List.all_eq_true.1 hoo2 _ hmem
          simp [isRow0] at this
    · rw [hblen] at hn
      unfold backφ at hb
      rw [if_neg (by omega)] at hb
      exact g.sat.out _ (by omega) b hb
    · obtain ⟨k, h1, h2, h3, h4⟩ := src n hn
      rw [h3, Option.map_eq_some_iff] at hc
      obtain ⟨c0, hc0, rfl⟩ := hc
      obtain ⟨j, hj, e⟩ := Chunk.ren_names m hm
      rw [hblen]
      exact hren j m e (g.sat.cl k c0 hc0 j hj)
  refine ⟨SV.ren_rel hρ g.rel, fun m hm => ?_, hsat, ⟨g.adv.os, g.adv.tape, g.adv.output, g.adv.size, fun k hk hn => hfrl k hk fun n _ => hn n, fun n b hb => ?_⟩, by rw [hblen]; omega, hagree, fun n hn ho => ?_, fun n hn hnt => ?_⟩
  · obtain ⟨j, hj, e⟩ := SV.ren_names m hm
    rw [hblen]
    exact hren j m e (g.rcl j hj)
  · by_cases hS : n ∈ Tn ∨ H.length ≤ n
    · rcases hgrow n b hS hb with ⟨m, _, hm⟩ | hle
      · exact .inl ⟨m, hm⟩
      · exact .inr hle
    · exact .inl ⟨n, ((hold' n hS).2 b).1 hb⟩
  · cases hi : idxOf n Tn with
    | some k =>
      rw [isOwn_ren (hbin hi)] at ho
      have := g.own k (hks (idxOf_spec hi)) ho
      rw [hown (idxOf_spec hi)] at this
      exact this
    | none =>
      have := hbno hn hi
      unfold isOwn at ho
      rw [this] at ho
      exact killsH_own ((ts.filterMap (Tn[·]?)).filter (isOwn H)) ▸ ho
  · cases hi : idxOf n Tn with
    | some k =>
      obtain ⟨h1, h2⟩ := g.touch k (hks (idxOf_spec hi)) (hts (idxOf_spec hi) hnt)
      have hl : ∀ b, Rdb (locH Tn Ln H) (fun k => σ ((Tn ++ Ln).getD k 0)) k b ↔ Rdb H σ n b := fun b => Rdb.same (by simp only [hgl (idxOf_spec hi)]) (locH_get hT (idxOf_spec hi))
      refine ⟨fun b => ?_, fun b hb hlt => h2 b ((hl b).2 hb) hlt⟩
      rw [← hl b, ← h1 b]
      exact Rdb.same (by simp [backσ, hn, hi]) (hbin hi)
    | none =>
      have hS : ¬ (n ∈ Tn ∨ H.length ≤ n) := fun hh => by
        rcases hh with hh | hh
        · exact idxOf_none hi hh
        · omega
      refine ⟨fun b => ?_, fun b hb hlt => hfrl b hlt fun m hm hφ => hS (by rw [rdb_apart h hb hφ]; exact hm)⟩
      rw [← killsH_rdb ((ts.filterMap (Tn[·]?)).filter (isOwn H)) (σ := σ)]
      unfold Rdb
      rw [hbno hn hi, (hold' n hS).1]

theorem frame (hC : C.OK) {f : FuncId} {t : Tfm C} (ht : SoundT C f t) (ms : List Bool) : SoundT C f (frameT ms t) where
  enter := ht.enter
  call args H K hk := by
    intro σ φ w vs hs hr hn
    unfold frameT at hk
    simp only at hk
    split at hk <;> try (exact hk.elim)
    rename_i hok
    obtain ⟨d1, ⟨_, _⟩, d3⟩ := dedup_spec (rootsA ms args) [] List.nodup_nil
    obtain ⟨c1, _, c3⟩ := closeN_spec hs.cl 6 _ d1 fun n hn' => by
      rcases d3 n hn' with h | h
      · cases h
      · obtain ⟨x, hx, hxn⟩ := rootsA_names args ms n h
        exact hn x hx n hxn
    generalize closeN H 6 (dedup [] (rootsA ms args)) = Tn at *
    obtain ⟨x, l1, l2, l3, l4⟩ := locTs_spec (Tn := Tn) args ms []
    have hx : (locTs Tn ms args []).2 = x := by simpa using l1
    rw [hx] at hk hok l3
    have hL : ∀ n ∈ x, n < H.length := fun n hnx => by
      obtain ⟨a, ha, han⟩ := l2 n hnx
      exact hn a ha n han
    have hsl := hs.loc hC c1 c3 hL hok
    have hrl := l4 σ (fun k => σ ((Tn ++ x).getD k 0)) [] (fun k n hkn => by
      have : (Tn ++ x)[k]? = some n := by simpa using hkn
      simp [List.getD_eq_getElem?_getD, this]) vs hr
    refine Calls.mono (ht.call _ _ _ hk _ _ w vs hsl hrl fun a ha m hm => ?_) fun e w' hh => ?_
    · have := l3 a ha m hm
      simpa [locH, pickH] using this
    · cases e with
      | panicked ch => exact hh.elim
      | outgrown => exact hh.elim
      | returned v =>
        obtain ⟨r, H1, ts, σ1, φ1, hout, hK⟩ := hh
        split at hK <;> try (exact hK.elim)
        rename_i hoo
        exact ⟨_, _, _, _, _, frame_out hC hs c1 c3 hL hok hout hoo, hK⟩
/-- Every row is of a length that the machine bears. -/
def RowB (H : List (Chunk C)) : Prop := ∀ (n : Nat) own e l, H[n]? = some (.row own e l) → l.length ≤ maxLen

theorem CallOK.rowB (hC : C.OK) {f : FuncId} {args : List TV} {K : SV → List (Chunk C) → List Nat → Prop} (h : RowB H → CallOK C f args H K) : CallOK C f args H K := by
  intro σ φ w vs hs hr hn
  refine h (fun n own e l hl => ?_) σ φ w vs hs hr hn
  obtain ⟨A, c, _, hrd⟩ := (hs.holds n _ hl).rd hC
  exact Nat.le_trans hrd.cap hrd.max
end
end Go.Proofs.Ytacdmmomkngpkaa.Sx
