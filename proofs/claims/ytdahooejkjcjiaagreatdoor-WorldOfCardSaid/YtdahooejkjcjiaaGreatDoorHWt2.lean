import Derived.Test.YtdahooejkjcjiaaGreatDoorHWt1
import Derived.Test.YtdahooejkjcjiaaGreatDoorGL
import Derived.Test.YtdahooejkjcjiaaGreatDoorHSam
/- The law WorldSame. -/
set_option linter.unusedVariables false
set_option linter.unusedSimpArgs false
namespace Go.Proofs.YtdahooejkjcjiaaGreatDoor
open Go.Se Go.RowKit Go.Shelf
theorem Mod.at_ {w w':World} {S:Nat→Prop} (h:Mod S w w') {k t:Nat} {l:List Value} (ha:At w k t l) (hs:¬ S k):At w' k t l:=(h.block k ha.lt hs).trans ha
theorem Q7e {w:World} {T:Nat→Prop} {p:Nat} {c:Cfg} {z:List Ev} (h:WT w T p c z) :
 Cal Tryz.prog 20 [.pointer (some ⟨p,0,none⟩)] w fun r w'=>∃ i:Option Addr×Nat,r = .slice i.1 z.length i.2∧SlE w' i.1 z∧Ext w w' :=
 (Qv8 h).mono fun _ _ ⟨A,c',h1,h2,_,h4⟩=>⟨(A,c'),h1,h2.sl Xw,h4⟩
end Go.Proofs.YtdahooejkjcjiaaGreatDoor
