
/- The document's list of one shard. -/
import Derived.Test.YtbfjlpoeglcmfaaDoorShard1
import Derived.Test.YtbfjlpoeglcmfaaDoorLib3
set_option linter.unusedVariables false
set_option linter.unusedSimpArgs false
namespace Go.Proofs.YtbfjlpoeglcmfaaDoor
open Go.Se Go.RowKit

def thing (e : Ev) : Bool := decide (e.kind = 11) || decide (e.kind = 12) || decide (e.kind = 13)
def inPart (n k : Int) (e : Ev) : Bool := thing e || decide (shardOf e.person n = k)
def partL (l : List Ev) (n k : Int) : List Ev := l.filter (inPart n k)
theorem filter_snoc {α : Type} (p : α → Bool) (l : List α) (k : Nat) (hk : k < l.length) : (l.take (k + 1)).filter p = (l.take k).filter p ++ if p l[k] then [l[k]] else [] := by
  rw [List.take_succ_eq_append_getElem hk, List.filter_append]
  cases h : p l[k] <;> simp [h]

theorem und22 : Tryd.prog.underlying 22 = some (.slice 34) := by kernel_rfl

end Go.Proofs.YtbfjlpoeglcmfaaDoor
