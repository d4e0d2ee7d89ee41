/- A part of the proof. -/
import Derived.Test.YtmjnoiajenoinaaGreatG12
import Derived.Test.YtmjnoiajenoinaaGreatG5
import Derived.Test.YtmjnoiajenoinaaGreatG6
section
/- The law that Insert inserts. -/
namespace Go.Proofs.YtmjnoiajenoinaaGreat.Sx
open Go

/-KEEP Wf exW inU live Arn.cap Arn.free Rep rdS retL Tr.size Tr.list slotsOf orderOf PlantR newS insE listE getE TrR upM Hn keptD Asc Tr.Bal ht iB RepD List.Perm-/
structure XUi (P : Arn ->Int ->List Ent ->Int ->Prop) where
  S : Arn
  i : Int
  l : List Ent
  need : Int
  k : Int
  v : Int
  h : P S i l need
theorem retL_orders (S : Arn) (i : Int) : orderOf (retL S i) = orderOf S := by unfold retL; split <;> rfl
theorem mod_rng {a n x : Int} (hn : 0 < n) (e : x = a % n) : 0 <=x /\x < n := ⟨by rw [e]; exact Int.emod_nonneg _ (by omega), by rw [e]; exact Int.emod_lt_of_pos _ hn⟩
end Go.Proofs.YtmjnoiajenoinaaGreat.Sx
end
