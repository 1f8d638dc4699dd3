/- Several texts in one: Rs7, Wp1, Wq2, Ws1. -/
import Derived.Test.YtdahooejkjcjiaaGreatDoorGXD
import Derived.Test.YtdahooejkjcjiaaGreatDoorGT
import Derived.Test.YtdahooejkjcjiaaGreatDoorHWl1
import Derived.Test.YtdahooejkjcjiaaGreatDoorHWq1
import Derived.Test.YtdahooejkjcjiaaGreatDoorHRf4
import Derived.Test.YtdahooejkjcjiaaGreatDoorGJ
import Derived.Test.YtdahooejkjcjiaaGreatDoorGXA
import Derived.Test.YtdahooejkjcjiaaGreatDoorHSam
import Derived.Test.YtdahooejkjcjiaaGreatDoorGM
import Derived.Test.YtdahooejkjcjiaaGreatDoorGK
import Derived.Test.YtdahooejkjcjiaaGreatDoorGXB
set_option linter.unusedVariables false
set_option linter.unusedSimpArgs false
namespace Go.Proofs.YtdahooejkjcjiaaGreatDoor
open Go.Se Go.RowKit
section
variable {w:World} {T:Nat → Prop} {p:Nat} {c:Cfg} {z:List Ev} {v:Value} {col:Nat → Nat} {q:WP} {A:Option Addr} {n cap:Nat} {any:Bool} {last:Ev}
theorem Q31 (h:WQL w T p c z v col q A n cap any last) : Cal Tryz.prog 27 [.pointer (some ⟨p,0,none⟩)] w fun r w' => r = .pointer (some ⟨q.pw,0,none⟩) ∧ Ext w w' := by
 refine Fi Tryz.func27 rfl _ rfl rfl ?_;conv=>whnf
 refine ⟨_,h.head.one rfl,?_⟩;conv=>whnf
 exact ⟨rfl,Ext.refl _⟩
theorem Qtv (h:WQL w T p c z v col q A n cap any last) : Cal Tryz.prog 29 [.pointer (some ⟨p,0,none⟩)] w fun r w' => r = .pointer (some ⟨q.ps,0,none⟩) ∧ Ext w w' := by
 refine Fi Tryz.func29 rfl _ rfl rfl ?_;conv=>whnf
 refine ⟨_,h.head.one rfl,?_⟩;conv=>whnf
 exact ⟨rfl,Ext.refl _⟩
theorem Qx9 (h:WQL w T p c z v col q A n cap any last) (hz:z.length < 1000) (person:ByteArray) : Cal Tryz.prog 28 [.pointer (some ⟨q.pw,0,none⟩),.string person] w fun r w' => ∃ i : Option Addr × Nat,r = .slice i.1 (Qxj z person).length i.2 ∧ SlE w' i.1 (Qxj z person) ∧ Ext w w' := by
 have hcp := (Qcq c.width z).2
 have hzp : (Qca z).length < 1000000 := by
  have h2 := List.length_filter_le peB z
  unfold Qca
  omega
 have := Qqk w _ q.pw _ _ h.cts.crowd person (by
  have : (evs (Ql c.width z).rs).length = (Qca z).length := by rw [hcp]
  simp [evs] at this
  omega)
 rw [hcp] at this
 refine this.mono ?_
 rintro _ w' ⟨A',c',rfl,hown,hx⟩
 exact ⟨(A',c'),rfl,hown.sl Q3,hx⟩
end
end Go.Proofs.YtdahooejkjcjiaaGreatDoor
