/- A part of the proof. -/
import Derived.Test.YtmjnoiajenoinaaG10
import Derived.Test.YtmjnoiajenoinaaG6
section
/- The law that Insert inserts. -/
namespace Go.Proofs.Ytmjnoiajenoinaa.Sx
open Go

/-KEEP Wf exW inU live Arn.cap Arn.free Rep rdS retL Tr.size Tr.list slotsOf orderOf PlantR newS insE listE getE TrR upM Hn keptD Asc Tr.Bal ht iB RepD List.Perm-/
structure XUi (P : Arn → Int → List Ent → Int → Prop) where
  S : Arn
  i : Int
  l : List Ent
  need : Int
  k : Int
  v : Int
  h : P S i l need
end Go.Proofs.Ytmjnoiajenoinaa.Sx
end
