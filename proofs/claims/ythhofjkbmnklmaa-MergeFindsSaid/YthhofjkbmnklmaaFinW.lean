/- It is proved that the statement MergeFinds holds for every input: a ledger is asked by identity and answers with the only result of that identity. No conditions. -/
import Derived.Test.YthhofjkbmnklmaaFinE
import Derived.Test.YthhofjkbmnklmaaWalkE
import Derived.Test.YthhofjkbmnklmaaShMergeFinds
namespace Go.Proofs.Ythhofjkbmnklmaa
open Eng
theorem finds_holds : Rows.MergeFindsSaid := mergeFinds.of_walk fun a0 z0 w ⟨h, hz⟩ => by
  obtain ⟨a, cap, rfl, hok⟩ := slB_of h
  exact walk_of (findsC a cap z0 hz) (fun s hs => by rw [List.mem_singleton.1 hs]; exact hok)
end Go.Proofs.Ythhofjkbmnklmaa
