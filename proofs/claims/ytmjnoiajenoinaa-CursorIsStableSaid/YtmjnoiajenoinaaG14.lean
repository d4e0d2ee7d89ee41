/- A part of the proof. -/
import Derived.Test.YtmjnoiajenoinaaG13
import Derived.Test.YtmjnoiajenoinaaG10
import Derived.Test.YtmjnoiajenoinaaG11
section
/- The law that Insert inserts. -/
namespace Go.Proofs.Ytmjnoiajenoinaa.Sx
open Go

/-KEEP Wf exW inU live Arn.cap Arn.free Rep rdS retL Tr.size Tr.list slotsOf orderOf PlantR newS insE listE getE TrR upM Hn keptD Asc Tr.Bal ht iB RepD List.Perm-/
structure XUi (P : Arn → Int → List Ent → Int → Prop) where
  S : Arn
  i : Int
  l : List Ent
  need : Int
  k : Int
  v : Int
  h : P S i l need
def tUi : Tfm C0 := fun args H K => match args, H with
  | [.at (.slc 0), .at (.val (.int .u64 t)), .agg [.val (.int .i64 _), .val (.int .i64 _)], .at (.val (.int .i64 at')), .at (.val (.int .u16 f))], [.row false .ent raw] => 0 ≤ t ∧ -9223372036854775808 ≤ at' ∧ at' ≤ 9223372036854775807 ∧ 0 ≤ f ∧ f ≤ 65535 ∧ K (.one (.at (vB true))) [.row false EC.ent raw] []
  | _, _ => False
def PUi (S : Arn) (i : Int) (l : List Ent) (need : Int) : Prop := ∃ t, upM S [i] t i ∧ t.list = l ∧ t.size = l.length ∧ l.length ≤ 150 ∧ need = 4 * (Hn ((l.length : Int) + 1) + 2) ∧ S.reads = 0
end Go.Proofs.Ytmjnoiajenoinaa.Sx
end
