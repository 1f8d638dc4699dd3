import Derived.Test.YtdahooejkjcjiaaGreatDoorGXE
/- The law WorldAlone. -/
set_option linter.unusedVariables false
set_option linter.unusedSimpArgs false
namespace Go.Proofs.YtdahooejkjcjiaaGreatDoor
open Go.Se Go.RowKit
section
variable {w:World} {T:Nat → Prop} {p:Nat} {c:Cfg} {z:List Ev} {v:Value} {col:Nat → Nat} {q:WP} {A:Option Addr} {n cap:Nat} {any:Bool} {last:Ev}
theorem Q8d (h:WQL w T p c z v col q A n cap any last) (hok:Q77 c z) (person:ByteArray) : Cal Tryz.prog 30 [.pointer (some ⟨q.ps,0,none⟩),.string person] w fun r w' => ∃ A c' U,r = .slice A U.length c' ∧ Sl seC 4 w' A U ∧ Qa4 w' w.heap.size (rowB A) U (Qc9 (Qvi c.gap) (Qe5 (z.filter wpB)) person) ∧ Ext w w' := by
 have hc := h.cts.ses
 rw [(Qdd c.width z).2.2] at hc
 refine (Qng w _ q.ps _ _ hc (Qi3 _) person (hok.ses.tick person)).mono ?_
 rintro _ w' ⟨A',c',U,rfl,hown,hS,hx⟩
 exact ⟨A',c',U,rfl,hown.sl Qep,hS,hx⟩
end
end Go.Proofs.YtdahooejkjcjiaaGreatDoor
