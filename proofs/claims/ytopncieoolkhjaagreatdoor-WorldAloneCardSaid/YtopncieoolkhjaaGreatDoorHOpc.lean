import Derived.Test.YtopncieoolkhjaaGreatDoorGK
import Derived.Test.YtopncieoolkhjaaGreatDoorGR
/- Opening configs,and slices of parts. -/
set_option linter.unusedVariables false
set_option linter.unusedSimpArgs false
namespace Go.Proofs.YtopncieoolkhjaaGreatDoor
open Go.ChangeShapes Go.WideShapes Go.ChangeAt Go.RowKit Go.Deep Go.Se
set_option maxRecDepth 100000 in
theorem Qua {H:Type} {enc:TypeId × Value → H} {W:World} {b0:Nat} {r:Reach} {v:Value} {d:DataW H} {p:List MemPlace} (hval:Value.okWide Tryz.prog W r b0 25 v)
 (h:DataW.Trod enc Tryz.prog W 0 (fun _ => true) true 25 v d p) : ∃ c : Cfg,v = Q2b c := by
 have hs := st25
 have hsize : (Tryz.prog.fieldsOf 25).size = 6 := by
  have := congrArg List.length hs.fields
  simpa [Q22] using this
 obtain ⟨ns,hl,rfl,_⟩ := open_ints hs.und (by kernel_rfl) (by rw [hsize]; kernel_rfl) (by kernel_rfl) hval h
 rw [hsize] at hl
 match ns,hl with
 | [a,b,c,d,e,f],_ => exact ⟨⟨a,b,c,d,e,f⟩,rfl⟩
end Go.Proofs.YtopncieoolkhjaaGreatDoor
