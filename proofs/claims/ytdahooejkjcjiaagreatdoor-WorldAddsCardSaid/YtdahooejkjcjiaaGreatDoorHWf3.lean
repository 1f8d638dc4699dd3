import Derived.Test.YtdahooejkjcjiaaGreatDoorHWf1
import Derived.Test.YtdahooejkjcjiaaGreatDoorGI
/- world.Of,whatever it is given;configs compared. -/
set_option linter.unusedVariables false
set_option linter.unusedSimpArgs false
namespace Go.Proofs.YtdahooejkjcjiaaGreatDoor
open Go.Se Go.RowKit
theorem Q9p (c:Cfg) (ox oy:Operand):Qo0 Tryz.prog 23 ox oy (Q0a c) (Q0a c) true:=by
 have h:=Qgo (ox:=ox) (oy:=oy) Qa st23 (xs:=Qi9 c) (ys:=Qi9 c) (b:=decide (c.half=c.half)&&(decide (c.width=c.width)&&(decide (c.gap=c.gap)&&(decide (c.span=c.span)&&(decide (c.floor=c.floor)&&(decide (c.crowd=c.crowd)&&true)))))) rfl;rw[show (decide (c.half=c.half)&&(decide (c.width=c.width)&&(decide (c.gap=c.gap)&&(decide (c.span=c.span)&&(decide (c.floor=c.floor)&&(decide (c.crowd=c.crowd)&&true))))))=true by simp] at h
 exact h
end Go.Proofs.YtdahooejkjcjiaaGreatDoor
