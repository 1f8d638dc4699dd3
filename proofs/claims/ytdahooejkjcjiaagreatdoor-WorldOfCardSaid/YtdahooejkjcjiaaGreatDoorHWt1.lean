import Derived.Test.YtdahooejkjcjiaaGreatDoorGXH
import Derived.Test.YtdahooejkjcjiaaGreatDoorGXA
import Derived.Test.YtdahooejkjcjiaaGreatDoorGXC
/- The law WorldRows. -/
set_option linter.unusedVariables false
set_option linter.unusedSimpArgs false
namespace Go.Proofs.YtdahooejkjcjiaaGreatDoor
open Go.Se Go.RowKit Go.Shelf
theorem Q6s {l:List Ev} (h:l.any (Q6w 300)=false):∀ e∈l,e.text.size<1000000000000:=fun e he=>by
 have:=(List.any_eq_false.1 h) e he
 simp[Q6w] at this
 omega
theorem Q7a {w:World} {T:Nat→Prop} {p:Nat} {c:Cfg} {z:List Ev} (h:WT w T p c z) (hg:Gl w) (hcf:Qii c=true) (hz:z.length<1000) (hT10:∀ k,T k→10≤k) (now:Int) :
 Cal Tryz.prog 25 [.pointer (some ⟨p,0,none⟩),.int .i64 now] w fun r w'=>∃ T':Nat→Prop,r = .string (Q2u c z (Qgw now))∧WT w' T' p c z∧(∀ k,T' k→T k∨w.heap.size≤k)∧Mod T w w' :=
 (Qv2 h hg hcf hz hT10 now).mono fun _ _ ⟨h1,T',h2,h3,h4⟩=>⟨T',h1,h2,h3,h4⟩
end Go.Proofs.YtdahooejkjcjiaaGreatDoor
