import Derived.Test.YtohkipkjleldpaaGreatDoorGR
import Derived.Test.YtohkipkjleldpaaGreatDoorCards
/- The law TopAhead: a part of its card. -/
set_option linter.unusedVariables false
set_option linter.unusedSimpArgs false
namespace Go.Proofs.YtohkipkjleldpaaGreatDoor
open Go.ChangeShapes Go.WideShapes Go.ChangeAt Go.RowKit Go.Se
theorem topAhead_plain (f : FuncId) (fn : Func) (hf : Tryz.pinned.checked.prog.funcNamed "cicerone/ciceronetop.TopAhead" = some f) (hfn : Tryz.pinned.checked.prog.funcs[f]? = some fn) :
 true=Tryz.pinned.checked.prog.looks []∧∀ (j:Nat) t,fn.params[j]? = some t→Tryz.pinned.checked.prog.wantsStandIn t=false:=by
 obtain rfl : f = 3 := Option.some.inj ((show Tryz.prog.funcNamed "cicerone/ciceronetop.TopAhead" = some 3 by kernel_rfl).symm.trans hf) |>.symm
 obtain rfl:fn=Tryz.f3:=(Option.some.inj (Tryz.func3.symm.trans hfn)).symm;refine⟨by kernel_rfl,fun j t ht => ?_⟩;have hall:(Tryz.f3.params.toList.all fun u => !Tryz.prog.wantsStandIn u)=true:=by kernel_rfl
 have hm:=Array.mem_toList_iff.2 (Array.mem_of_getElem? ht)
 exact(show Tryz.prog.wantsStandIn t=false by simpa using List.all_eq_true.1 hall t hm)
end Go.Proofs.YtohkipkjleldpaaGreatDoor
