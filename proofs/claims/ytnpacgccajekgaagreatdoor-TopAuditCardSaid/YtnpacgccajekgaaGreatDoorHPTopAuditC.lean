import Derived.Test.YtnpacgccajekgaaGreatDoorGR
set_option linter.all false
namespace Go.Proofs.YtnpacgccajekgaaGreatDoor
open Go.ChangeShapes Go.WideShapes Go.ChangeAt Go.RowKit Go.Se
theorem topAudit_plain (f : FuncId) (fn : Func) (hf : Tryz.pinned.checked.prog.funcNamed "cicerone/ciceronetop.TopAudit" = some f) (hfn : Tryz.pinned.checked.prog.funcs[f]? = some fn) :
 true=Tryz.pinned.checked.prog.looks []/\∀ (j:Nat) t,fn.params[j]? = some t->Tryz.pinned.checked.prog.wantsStandIn t=false:=by
 obtain rfl : f = 3 := Zbc ((show Tryz.prog.funcNamed "cicerone/ciceronetop.TopAudit" = some 3 by kernel_rfl).symm.trans hf) |>.symm
 obtain rfl:fn=Tryz.f3:=(Zbc (Tryz.func3.symm.trans hfn)).symm;refine⟨by kernel_rfl,fun j t ht => ?_⟩;have hall:(Tryz.f3.params.toList.all fun u => !Tryz.prog.wantsStandIn u)=true:=by kernel_rfl
 have hm:=Array.mem_toList_iff.2 (Array.mem_of_getElem? ht);exact(show Tryz.prog.wantsStandIn t=false by simpa using Zaa.1 hall t hm)
