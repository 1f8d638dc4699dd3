import Derived.Test.YtnnnbjjenknpeaaGreatDoorGR
import Derived.Test.YtnnnbjjenknpeaaGreatDoorGT
/- The parts' names,as the program's text lays them. -/
set_option linter.unusedVariables false
set_option linter.unusedSimpArgs false
namespace Go.Proofs.YtnnnbjjenknpeaaGreatDoor
open Go.ChangeShapes Go.WideShapes Go.ChangeAt Go.RowKit Go.Deep Go.Se
theorem Q72 {laid:List (String × DataW Unit)} {W:World} (h:laidMetH Tryz.prog laid W) (hp:(laid.all fun x => x.2.handleName?.isNone) = true)
 (h2 : ("cicerone/reason.names", Rows.laid_cicerone_reason_names) ∈ laid) : Q1w W := by
 obtain ⟨g,t,cs,fuel,p,hg,ht,hv,hd⟩ := Qnw h hp h2
 have hgk : Tryz.prog.globalNamed "cicerone/reason.names" = some 0 := by kernel_rfl
 obtain rfl := Option.some.inj (hgk.symm.trans hg)
 obtain rfl := Option.some.inj ((show (Tryz.prog.globals[0]?).map (·.type) = some 126 by kernel_rfl).symm.trans ht)
 have hcs := Qgi (zs := Qhu.map (·.data.toList)) (e := 9) (n := 6) (by kernel_rfl) (by kernel_rfl) (by kernel_rfl) (by kernel_rfl) hd
 intro j v hj
 rw [Xo,World.var?_cell hgk hv j,← Array.getElem?_toList,hcs]
 simp only [List.map_map,List.getElem?_map] at hj ⊢
 cases hk : Qhu[j]? with
 | none => rw [hk] at hj; simp at hj
 | some s => rw [hk] at hj; simpa [bytesOf] using hj
end Go.Proofs.YtnnnbjjenknpeaaGreatDoor
