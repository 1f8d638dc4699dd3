/- Several texts in one: Rf5, Rg1, Rg2, Rg3, Rg4, Rg5, Rg6. -/
import Derived.Test.YteabekcdcphjpaaGreatDoorHRf4
import Derived.Test.YteabekcdcphjpaaGreatDoorGM
import Derived.Test.YteabekcdcphjpaaGreatDoorGXB
import Derived.Test.YteabekcdcphjpaaGreatDoorGXC
set_option linter.unusedVariables false
set_option linter.unusedSimpArgs false
namespace Go.Proofs.YteabekcdcphjpaaGreatDoor
open Go.Se Go.RowKit
theorem Qh7 {L:List Ct} (h:(L.map (·.1)).Nodup) : L.Nodup :=
 (List.pairwise_map.1 h).imp fun hne e => hne (by rw [e])
theorem Q1t {f:ByteArray → Int} {L M:List Ct} (h:Q7p f L) (k:Q7p f M) : ∀ x ∈ L,x ∈ M := fun x hx => by
 obtain ⟨h1,h2⟩ := h.mem x hx
 obtain ⟨y,hy,he⟩ := List.mem_map.1 (k.all x.1 (by omega))
 have h3 := (k.mem y hy).1
 have h4 : y = x := Prod.ext he (by rw [h3,he,← h1])
 rwa [← h4]
end Go.Proofs.YteabekcdcphjpaaGreatDoor
