import Derived.Test.YtpdonaienhociaaGreatDoorGXA
set_option linter.all false
namespace Go.Proofs.YtpdonaienhociaaGreatDoor
open Go.Se Go.RowKit
abbrev A11:=Bj×Int×Int
theorem Xh8 {e:Ev} (hm:X0 e=true):peB e=true↔e.kind<11:=by
 have hk:=Qsl hm;unfold peB thB;simp only[Zl,Zai,decide_eq_false_iff_not];omega
