import Derived.Test.YtdahooejkjcjiaaGreatDoorHWt2
import Derived.Test.YtdahooejkjcjiaaGreatDoorHWf2
/- The law WorldForgets. -/
set_option linter.unusedVariables false
set_option linter.unusedSimpArgs false
namespace Go.Proofs.YtdahooejkjcjiaaGreatDoor
open Go.Se Go.RowKit Go.Shelf
theorem Q7u {w:World} {A:Option Addr} {z:List Ev} (f:Ev) (hs:SlE w A z):∃ (a:Addr) (e:Ev),0<z.length→A=some a∧Xt w (a.add ((z.length-1)*8)) (evC e)∧z.getLast? = some e:=by
 by_cases h:0<z.length
 · have hlt:z.length-1<z.length:=by omega
   obtain⟨a,h1,h2⟩:=hs.get hlt
   exact⟨a,z[z.length-1],fun _=>⟨h1,h2,by rw[List.getLast?_eq_getElem?,List.getElem?_eq_getElem hlt]⟩⟩
 · exact⟨⟨0,0,none⟩,f,fun h'=>absurd h' h⟩
end Go.Proofs.YtdahooejkjcjiaaGreatDoor
