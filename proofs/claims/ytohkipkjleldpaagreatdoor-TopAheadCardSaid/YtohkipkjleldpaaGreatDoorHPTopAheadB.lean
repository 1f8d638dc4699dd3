import Derived.Test.YtohkipkjleldpaaGreatDoorHPTopAheadA
import Derived.Test.YtohkipkjleldpaaGreatDoorHPTopAheadF
import Derived.Test.YtohkipkjleldpaaGreatDoorCards
/- The law TopAhead: a part of its card. -/
set_option linter.unusedVariables false
set_option linter.unusedSimpArgs false
namespace Go.Proofs.YtohkipkjleldpaaGreatDoor
open Go.ChangeShapes Go.WideShapes Go.ChangeAt Go.RowKit Go.Se
set_option maxRecDepth 100000 in
theorem topAhead_closed:joinedFacts Tryz.pinned.checked.prog 3 Tryz.f3 (OpenSpec.ofChange Rows.topAheadSpec).bare Rows.topAheadRow=true:=by
 unfold joinedFacts;refine Qha ?_ topAhead_j32;refine Qha ?_ topAhead_j31;refine Qha ?_ topAhead_j30;refine Qha ?_ topAhead_j29;refine Qha ?_ topAhead_j28;refine Qha ?_ topAhead_j27;refine Qha ?_ Xeq;refine Qha ?_ Xep;refine Qha ?_ topAhead_j24;refine Qha ?_ topAhead_j23;refine Qha ?_ topAhead_j22;refine Qha ?_ topAhead_j21;refine Qha ?_ topAhead_j20;refine Qha ?_ topAhead_j19;refine Qha ?_ topAhead_j18;refine Qha ?_ topAhead_j17;refine Qha ?_ topAhead_j16;refine Qha ?_ topAhead_j15;refine Qha ?_ topAhead_j14;refine Qha ?_ topAhead_j13;refine Qha ?_ topAhead_j12;refine Qha ?_ topAhead_j11;refine Qha ?_ topAhead_j10;refine Qha ?_ jf9;refine Qha ?_ topAhead_j8;refine Qha ?_ jf7;refine Qha ?_ topAhead_j6;refine Qha ?_ topAhead_j5;refine Qha ?_ topAhead_j4;refine Qha ?_ jf3;refine Qha ?_ jf2
 exact topAhead_j1
theorem topAhead_said:Rows.TopAheadSaid :=
 OpenClaim.holds_of_cond 3 Tryz.f3 rfl rfl rfl rfl rfl rfl rfl ⟨rfl,rfl,rfl,rfl,rfl⟩ rfl rfl rfl rfl rfl (by kernel_rfl) Tryz.func3 topAhead_closed
  (of_decide_eq_true (by kernel_rfl)) (by unfold Func.isWrapper;first | (rw[if_pos (by decide +kernel)];kernel_rfl) | (rw[if_neg (by decide +kernel)];exact⟨rfl,rfl⟩))
  (fun os started H enc _ F=>by rw[OpenClaim.pre_eq_preRow];exact topAhead_lifted os started H enc F)
end Go.Proofs.YtohkipkjleldpaaGreatDoor
