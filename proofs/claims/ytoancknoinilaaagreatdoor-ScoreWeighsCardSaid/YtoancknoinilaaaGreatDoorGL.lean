/- Several texts in one: Pl7, Cu. -/
import Derived.Test.YtoancknoinilaaaGreatDoorGN
import Derived.Test.YtoancknoinilaaaGreatDoorGJ
set_option linter.unusedVariables false
set_option linter.unusedSimpArgs false

/- The raw points of a score, in plain words; somebody new; what comes. -/
namespace Go.Proofs.YtoancknoinilaaaGreatDoor
open Go.Se Go.RowKit

def rawG (c : Cfg) (z : List Ev) (person item : ByteArray) (now : Int) (k : Nat) : Int :=
  if k = 0 then min (popE (z.filter wpB) (halfN c.half) item now) 1099511627776
  else if k = 1 then (if (itAt z item now).listed = true then min (tasteV (tstE (halfN c.half) now (rowsOf (rowsR z) person)) (tagsOf (semi (itAt z item now).tags))) 1099511627776 else 0)
  else if k = 2 then kinF c z person item
  else if k = 3 then riseV c (paE (z.filter wpB) c.width item ((paneB c now - c.span) / halfN c.width) (paneB c now / halfN c.width)) (paE (z.filter wpB) c.width item ((paneB c now - 2 * c.span) / halfN c.width) ((paneB c now - c.span) / halfN c.width))
  else if k = 4 then (if (itAt z item now).listed = true ∧ folB z person (itAt z item now).maker = true then 1048576 else 0)
  else if k = 5 then (if (itAt z item now).listed = true then weightF (now - (itAt z item now).born) c.half else 0)
  else 0
structure Behind (now : Int) (person : ByteArray) (M : List Ev) : Prop where
  at_ : ∀ e ∈ M, now < e.at_
  worth : ∀ e ∈ M, worthE e ≤ 0
  person : ∀ e ∈ M, e.person ≠ person
end Go.Proofs.YtoancknoinilaaaGreatDoor


/- The document's events that are counted anew. -/
namespace Go.Proofs.YtoancknoinilaaaGreatDoor
open Go.Se Go.RowKit

end Go.Proofs.YtoancknoinilaaaGreatDoor
