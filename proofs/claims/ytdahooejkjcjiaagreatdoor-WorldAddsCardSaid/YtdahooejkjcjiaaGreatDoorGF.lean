/- Several texts in one: Bu1. -/
import Derived.Test.YtdahooejkjcjiaaGreatDoorGE
set_option linter.unusedVariables false
set_option linter.unusedSimpArgs false
namespace Go.Proofs.YtdahooejkjcjiaaGreatDoor
open Go.Se Go.RowKit
def thB (e:Ev):Bool:=decide (e.kind=11∨e.kind=12∨e.kind=13)
def peB (e:Ev):Bool := !thB e && !decide (e.kind=14)
def Qs (z:List Ev):List Ev:=z.filter thB
def Qe6 (z:List Ev):List Ev:=z.filter peB
theorem Qeb (width:Int) (z:List Ev):(Qo width z).cs=Qs z∧evs (Qo width z).rs=Qe6 z:=by
 induction z using Xe with
 | h0=>exact⟨rfl,rfl⟩
 | h1 l a ih =>
   rw[Qbu];unfold Qs Qe6 at *;rw[List.filter_append,List.filter_append,← ih.1,← ih.2];unfold Qdi
   by_cases h1:a.kind=11∨a.kind=12∨a.kind=13
   · rw[if_pos h1]
     simp[thB,peB,h1]
   · rw[if_neg h1]
     by_cases h2:a.kind=14
     · rw[if_pos h2]
       simp[thB,peB,h1,h2]
     · rw[if_neg h2]
       split <;> simp[thB,peB,h1,h2,evs]
end Go.Proofs.YtdahooejkjcjiaaGreatDoor
