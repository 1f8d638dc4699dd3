/- Several texts in one: Wl1. -/
import Derived.Test.YtagijlhciclafaaGreatDoorGX
import Derived.Test.YtagijlhciclafaaGreatDoorGH
import Derived.Test.YtagijlhciclafaaGreatDoorGI
set_option linter.unusedVariables false
set_option linter.unusedSimpArgs false
namespace Go.Proofs.YtagijlhciclafaaGreatDoor
open Go.Se Go.RowKit
def Qoy:Cfg:=⟨10,10,0,10,0,0⟩
theorem getD_some {α:Type} {o:Option (List α)} {P:α→Prop} (h:∀ x∈o.getD [],P x):∀ r,o=some r→∀ x∈r,P x:=fun r hr x hx=>h x (by rw[hr];exact hx)
theorem Qcm:Tryz.prog.underlying 26=some (.pointer (Tryz.prog.pointee 26)):=by kernel_rfl
section
variable {w:World} {base p:Nat} {c:Cfg} {s:WS} {col:Nat→Nat} {q:WP} {A:Option Addr} {cap:Nat}
end
theorem WorldC.low {w:World} {base p:Nat} {c:Cfg} {s:WS} {col:Nat→Nat} (h:WorldC w base p c s col):∀ k,col k≠0→base≤k:=fun k hk=>by
 obtain⟨q,A,cap,hL⟩:=h.1
 exact hL.low.2 k hk
end Go.Proofs.YtagijlhciclafaaGreatDoor
