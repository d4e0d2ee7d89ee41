/- Compose. -/
import Derived.Test.YtdgodcamadalhaaSxRk
namespace Go.Proofs.Ytdgodcamadalhaa.Sx
open Go

def compR (p q : List Chg) : List Chg × Int := if valB p && valB q then (match comp p q with
  | some r => (r, 0)
  | none => ([], 9)) else ([], 1)
noncomputable def aComp : Ann C0 := { Γ := [(38, frameT [] tValid), (59, frameT [] tBothC)] }
def tComp : Tfm C0 := fun args H K => match args, H with
  | [.at (.slc 0), .at (.slc 1)], [.row false .chg p, .row false .chg q] => p.length + q.length ≤ 1000000 ∧ ∀ (r : List Chg) (e : Int), (r, e) = compR p q → K (.tup [.at (.slc 2), .at (vI e)]) [.row false EC.chg p, .row false EC.chg q, .row true EC.chg r] []
  | _, _ => False
theorem vc_comp (p q : List Chg) (K : KT) (hsm : p.length + q.length ≤ 1000000) (h : ∀ (r : List Chg) (e : Int), (r, e) = compR p q → K (.tup [.at (.slc 2), .at (vI e)]) [.row false EC.chg p, .row false EC.chg q, .row true EC.chg r] []) :
    vc C0 aComp Try.f25 [.at (.slc 0), .at (.slc 1)] [.row false EC.chg p, .row false EC.chg q] (normK 2 K) := by
  refine Eq.mp (show (brS (!valB p)
  ((K (SV.tup [(TV.at (At.slc 2)), (TV.at (At.val (Value.int IntKind.i64 1)))]) [(Chunk.row false (EC.chg) (p)), (Chunk.row false (EC.chg) (q)), (Chunk.row true (EC.chg) [])] []))
  ((brS (!valB q)
    ((K (SV.tup [(TV.at (At.slc 2)), (TV.at (At.val (Value.int IntKind.i64 1)))]) [(Chunk.row false (EC.chg) (p)), (Chunk.row false (EC.chg) (q)), (Chunk.row true (EC.chg) [])] []))
    (((p.length + q.length ≤ 1000000) ∧
    (∀ ok : Bool,
      (∀ out' : List Chg,
        (((ok) = ((comp p q).isSome)) →
        ((∀ r : List Chg,
          (((comp p q) = (some (r))) →
          ((out') = (r)))) →
        (brS (!ok)
          ((K (SV.tup [(TV.at (At.slc 2)), (TV.at (At.val (Value.int IntKind.i64 9)))]) [(Chunk.row false (EC.chg) (p)), (Chunk.row false (EC.chg) (q)), (Chunk.row true (EC.chg) [])] []))
          ((K (SV.tup [(TV.at (At.slc 2)), (TV.at (At.val (Value.int IntKind.i64 0)))]) [(Chunk.row false (EC.chg) (p)), (Chunk.row false (EC.chg) (q)), (Chunk.row true (EC.chg) (out'))] [])))))))))))) = _ by kernel_rfl) ?_
  refine brS_of (fun h1 => h [] 1 ?_) fun h1 => brS_of (fun h2 => h [] 1 ?_) fun h2 => ⟨hsm, fun ok out' hok ho => brS_of (fun h3 => h [] 9 ?_) fun h3 => h out' 0 ?_⟩
  · simp at h1; simp [compR, h1]
  · simp at h2; simp [compR, h2]
  · simp at h1 h2 h3
    rw [h3] at hok
    cases hc : comp p q with
    | none => simp [compR, h1, h2, hc]
    | some r => rw [hc] at hok; cases hok
  · simp at h1 h2 h3
    rw [h3] at hok
    obtain ⟨r, hc⟩ := Option.isSome_iff_exists.1 hok.symm
    rw [ho r hc]
    simp [compR, h1, h2, hc]
theorem s_comp : SoundT C0 25 tComp := by
  refine .of Try.func25 (by decide) rfl fun args H K h hB => ?_
  unfold tComp at h
  split at h <;> try exact h.elim
  rename_i p q
  exact ⟨aComp, ⟨frame C0.ok s_valid _, frame C0.ok s_bothC _, trivial⟩, vc_comp p q K h.1 h.2⟩
end Go.Proofs.Ytdgodcamadalhaa.Sx
