import Derived.Test.YteabekcdcphjpaaGreatDoorGK
import Derived.Test.YteabekcdcphjpaaGreatDoorGR
/- Opening configs,and slices of parts. -/
set_option linter.unusedVariables false
set_option linter.unusedSimpArgs false
namespace Go.Proofs.YteabekcdcphjpaaGreatDoor
open Go.ChangeShapes Go.WideShapes Go.ChangeAt Go.RowKit Go.Deep Go.Se
set_option maxRecDepth 100000 in
theorem Q52 {H:Type} {enc:TypeId × Value → H} {W:World} {b0:Nat} {r:Reach} {v:Value} {d:DataW H} {p:List MemPlace} (hval:Value.okWide Tryz.prog W r b0 23 v)
 (h:DataW.Trod enc Tryz.prog W 0 (fun _ => true) true 23 v d p) : ∃ c : Cfg,v = Q02 c := by
 have hs := st23
 have hsize : (Tryz.prog.fieldsOf 23).size = 6 := by
  have := congrArg List.length hs.fields
  simpa [Q76] using this
 obtain ⟨ns,hl,rfl,_⟩ := open_ints hs.und (by kernel_rfl) (by rw [hsize]; kernel_rfl) (by kernel_rfl) hval h
 rw [hsize] at hl
 match ns,hl with
 | [a,b,c,d,e,f],_ => exact ⟨⟨a,b,c,d,e,f⟩,rfl⟩
end Go.Proofs.YteabekcdcphjpaaGreatDoor
