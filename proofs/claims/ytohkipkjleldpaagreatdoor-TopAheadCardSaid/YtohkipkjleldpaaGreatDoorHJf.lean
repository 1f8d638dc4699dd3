import Derived.Test.YtohkipkjleldpaaGreatDoorGR
/- Facts of the program that every law's row asks,each by itself. -/
set_option linter.unusedVariables false
set_option linter.unusedSimpArgs false
namespace Go.Proofs.YtohkipkjleldpaaGreatDoor
open Go.ChangeShapes Go.WideShapes Go.ChangeAt Go.RowKit Go.Se
theorem Qha {a b:Bool} (ha:a=true) (hb:b=true):(a&&b)=true:=by rw[ha,hb];rfl
theorem jf2:laidOutB Tryz.pinned.checked.prog=true:=by kernel_rfl
theorem jf3:mapsRowed Tryz.pinned.checked.prog=true:=by kernel_rfl
theorem jf7:(Tryz.pinned.checked.prog.stops == [])=true:=by kernel_rfl
theorem jf9:(Tryz.pinned.checked.prog.stopKnobs == [])=true:=by kernel_rfl
theorem Xep:Tryz.pinned.checked.prog.stopsHeard=true:=by kernel_rfl
theorem Xeq:Tryz.pinned.checked.prog.mayEnter=true:=by kernel_rfl
end Go.Proofs.YtohkipkjleldpaaGreatDoor
