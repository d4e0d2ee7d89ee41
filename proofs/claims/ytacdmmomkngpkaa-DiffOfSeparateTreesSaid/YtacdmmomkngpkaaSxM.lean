/- What a call leaves, in a form of its own; the rule of the frame. No program in sight. -/
import Derived.Test.YtacdmmomkngpkaaSxL
namespace Go.Proofs.Ytacdmmomkngpkaa.Sx
open Go

section
variable {C : Ctx}
variable {H H' : List (Chunk C)} {σ σ' : Nat → Value} {φ φ' : Nat → Nat → Prop} {w w' : World}

def dedup : List Nat → List Nat → List Nat
  | acc, [] => acc
  | acc, n :: l => if acc.contains n then dedup acc l else dedup (acc ++ [n]) l

theorem dedup_spec : ∀ (l acc : List Nat), acc.Nodup → (dedup acc l).Nodup ∧ (∃ x, dedup acc l = acc ++ x) ∧ ∀ n, n ∈ dedup acc l → n ∈ acc ∨ n ∈ l := by
  intro l
  induction l with
  | nil => intro acc h; exact ⟨h, ⟨[], by simp [dedup]⟩, fun n hn => .inl hn⟩
  | cons n l ih =>
    intro acc h
    simp only [dedup]
    split
    · obtain ⟨h1, h2, h3⟩ := ih acc h
      exact ⟨h1, h2, fun m hm => (h3 m hm).imp id fun h => by simp [h]⟩
    · rename_i hc
      have hc' : n ∉ acc := by simpa using hc
      obtain ⟨h1, ⟨x, h2⟩, h3⟩ := ih (acc ++ [n]) (by
        rw [List.nodup_append]
        exact ⟨h, by simp, fun a ha b hb => by simp at hb; subst hb; exact fun e => hc' (e ▸ ha)⟩)
      refine ⟨h1, ⟨n :: x, by simp [h2]⟩, fun m hm => ?_⟩
      rcases h3 m hm with h | h
      · rcases List.mem_append.1 h with h | h
        · exact .inl h
        · exact .inr (by simp at h; simp [h])
      · exact .inr (by simp [h])

def closeN (H : List (Chunk C)) : Nat → List Nat → List Nat
  | 0, l => l
  | d + 1, l => closeN H d (dedup l (l.flatMap (subNames H)))

theorem closeN_spec (hcl : ∀ (n : Nat) (c : Chunk C), H[n]? = some c → ∀ m ∈ c.names, m < H.length) : ∀ (d : Nat) (l : List Nat), l.Nodup → (∀ n ∈ l, n < H.length) →
    (closeN H d l).Nodup ∧ (∃ x, closeN H d l = l ++ x) ∧ ∀ n ∈ closeN H d l, n < H.length := by
  intro d
  induction d with
  | zero => intro l h h'; exact ⟨h, ⟨[], by simp [closeN]⟩, h'⟩
  | succ d ih =>
    intro l h h'
    obtain ⟨h1, ⟨x, h2⟩, h3⟩ := dedup_spec (l.flatMap (subNames H)) l h
    obtain ⟨h4, ⟨y, h5⟩, h6⟩ := ih _ h1 fun n hn => by
      rcases h3 n hn with hn | hn
      · exact h' n hn
      · obtain ⟨k, _, hk⟩ := List.mem_flatMap.1 hn
        unfold subNames at hk
        split at hk
        · rename_i c hc; exact hcl k c hc n hk
        · cases hk
    exact ⟨h4, ⟨x ++ y, by rw [closeN, h5, h2, List.append_assoc]⟩, h6⟩

def normN (n0 : Nat) (r : SV) (H : List (Chunk C)) : List Nat := closeN H 6 (dedup (List.range n0) r.names)
def normW (n0 : Nat) (ts : List Nat) : List Nat := (List.range n0).filter ts.contains
/-- What is said of a call's end, of the names that count alone. -/
def normK (n0 : Nat) (K : SV → List (Chunk C) → List Nat → Prop) : SV → List (Chunk C) → List Nat → Prop := fun r H ts =>
  K (r.ren (fun n => idxOf n (normN n0 r H))) (pickH (normN n0 r H) H) (normW n0 ts)

theorem normN_spec (hcl : ∀ (n : Nat) (c : Chunk C), H[n]? = some c → ∀ m ∈ c.names, m < H.length) {n0 : Nat} (h0 : n0 ≤ H.length) {r : SV} (hr : ∀ m ∈ r.names, m < H.length) :
    (normN n0 r H).Nodup ∧ (∃ x, normN n0 r H = List.range n0 ++ x) ∧ ∀ n ∈ normN n0 r H, n < H.length := by
  obtain ⟨h1, ⟨x, h2⟩, h3⟩ := dedup_spec r.names (List.range n0) List.nodup_range
  obtain ⟨h4, ⟨y, h5⟩, h6⟩ := closeN_spec hcl 6 _ h1 fun n hn => by
    rcases h3 n hn with hn | hn
    · have := List.mem_range.1 hn; omega
    · exact hr n hn
  exact ⟨h4, ⟨x ++ y, by rw [normN, h5, h2, List.append_assoc]⟩, h6⟩

theorem COut.norm {ts : List Nat} {r : SV} {v : Value} (h : COut C H σ φ w ts r v H' σ' φ' w') :
    COut C H σ φ w (normW H.length ts) (r.ren (fun n => idxOf n (normN H.length r H'))) v (pickH (normN H.length r H') H') (fun k => σ' ((normN H.length r H').getD k 0))
      (fun k b => k < (normN H.length r H').length ∧ φ' ((normN H.length r H').getD k 0) b) w' := by
  obtain ⟨h1, ⟨x, h2⟩, h3⟩ := normN_spec (H := H') h.sat.cl h.len h.rcl
  generalize normN H.length r H' = τ at h1 h2 h3
  have hgd : ∀ {k n : Nat}, τ[k]? = some n → τ.getD k 0 = n := fun {k n} hk => by simp [List.getD_eq_getElem?_getD, hk]
  have hρ : ∀ n m, idxOf n τ = some m → σ' (τ.getD m 0) = σ' n := fun n m hm => by rw [hgd (idxOf_spec hm)]
  have hlow : ∀ n, n < H.length → τ[n]? = some n := fun n hn => by rw [h2, List.getElem?_append_left (by simpa using hn), List.getElem?_range hn]
  have hrow : ∀ n, n < H.length → (pickH τ H')[n]? = (H'[n]?).map (Chunk.ren fun n => idxOf n τ) := fun n hn => by
    unfold pickH
    rw [List.getElem?_map, hlow n hn, getD_some (d := .gone) (Nat.lt_of_lt_of_le hn h.len)]
    rfl
  have hts : ∀ n, n < H.length → n ∉ normW H.length ts → n ∉ ts := fun n hn hnn hh => hnn (by simp [normW, hn, hh])
  refine ⟨SV.ren_rel hρ h.rel, fun m hm => ?_, h.sat.pick h1 h3, ⟨h.adv.os, h.adv.tape, h.adv.output, h.adv.size, h.adv.fr, fun n b hb => h.adv.grow _ b hb.2⟩, ?_, fun n hn ho => ?_, fun n hn ho => ?_, fun n hn hnt => ⟨fun b => ?_, (h.touch n hn (hts n hn hnt)).2⟩⟩
  · obtain ⟨n, hn, e⟩ := SV.ren_names m hm
    simpa [pickH] using (List.getElem?_eq_some_iff.1 (idxOf_spec e)).1
  · simp [pickH, h2]
  · rw [hgd (hlow n hn)]
    exact h.agree n hn (ho.imp id (hts n hn))
  · refine h.own n hn ?_
    obtain ⟨e, l, he⟩ := isOwn_some.1 ho
    rw [hrow n hn] at he
    simp only [Option.map_eq_some_iff] at he
    obtain ⟨c, hc, he⟩ := he
    have := Chunk.ren_row he
    subst this
    exact isOwn_some.2 ⟨e, l, hc⟩
  · rw [← (h.touch n hn (hts n hn hnt)).1 b]
    exact Rdb.same (by simp only [hgd (hlow n hn)]) (hrow n hn)

theorem CallOK.norm {f : FuncId} {args : List TV} {K : SV → List (Chunk C) → List Nat → Prop} (h : CallOK C f args H (normK H.length K)) : CallOK C f args H K := by
  intro σ φ w vs hs hr hn
  refine Calls.mono (h σ φ w vs hs hr hn) fun e w' hh => ?_
  cases e with
  | panicked ch => exact hh.elim
  | outgrown => exact hh.elim
  | returned v =>
    obtain ⟨r, H', ts, σ', φ', hout, hK⟩ := hh
    exact ⟨_, _, _, _, _, hout.norm, hK⟩
end
end Go.Proofs.Ytacdmmomkngpkaa.Sx
