import Derived.Shelf.SlIter.Nil
import Derived.Shelf.SlIterI.Nil
import Derived.Shelf.SortM.Plain
import Derived.Shelf.SortM.SortNone
import Derived.Ground.GgzProg
import Derived.Ground.SlgmProg
import Derived.Test.YtpdonaienhociaaGreatDoorGA
import Derived.Test.YtpdonaienhociaaGreatDoorProg
set_option linter.all false
namespace Go.Proofs
open Go.Shelf
def Tryz.sorted38_ren:Go.Shelf.Ren:=⟨fun | 6=>38 | 8=>93 | 9=>94 | 11=>166 | 13=>168 | 12=>167 | 23=>241 | 24=>242 | 14=>232 | 15=>233 | 16=>234 | 17=>235 | 18=>236 | 19=>237 | 20=>238 | 21=>239 | 22=>240 | 25=>310 | 26=>311 | 27=>312 | 28=>313 | 29=>314 | 30=>198 | 31=>361 | n=>n,fun | 26=>9 | 28=>124 | 24=>36 | 0=>0 | 3=>3 | 37=>184 | 48=>357 | 50=>30 | 4=>4 | 40=>351 | 39=>350 | 45=>340 | 5=>5 | 9=>9 | 51=>416 | 55=>420 | 57=>457 | 58=>458 | 33=>109 | n=>n,fun | n=>n⟩
theorem Tryz.sorted38:Go.Proofs.SlLaysZ.n6 Tryz.prog Tryz.sorted38_ren:={
 mixed:=Kr
 f6:=⟨Tryz.f38.name,by decide,Tryz.func38.trans Cj⟩
 f8:=⟨Tryz.f93.name,by decide,Tryz.func93.trans Cj⟩
 f11:=⟨Tryz.f166.name,by decide,Tryz.func166.trans Cj⟩
 t0:=Kr,a0:=Ku,z0:=Ku,v0:=Ku,t24:=Kr,a24:=Ku,z24:=Ku,v24:=Ku,t26:=Kr,a26:=Ku,z26:=Ku,v26:=Ku,t28:=Kr,a28:=Ku,z28:=Ku,v28:=Ku
 i26:=by kernel_rfl }
def Tryz.keys39_ren:Go.Shelf.Ren:=⟨fun | 7=>39 | 10=>95 | n=>n,fun | 23=>117 | 26=>9 | 3=>53 | 28=>124 | 0=>0 | 27=>123 | 33=>109 | 4=>4 | n=>n,fun | n=>n⟩
theorem Tryz.keys39:Go.Proofs.SlLaysZ.n7 Tryz.prog Tryz.keys39_ren:={
 mixed:=Kr
 f7:=⟨Tryz.f39.name,by decide,Tryz.func39.trans Cj⟩
 f10:=⟨Tryz.f95.name,by decide,Tryz.func95.trans Cj⟩
 t0:=Kr,a0:=Ku,z0:=Ku,v0:=Ku,t4:=Kr,a4:=Ku,z4:=Ku,v4:=Ku,t23:=Kr,a23:=Ku,z23:=Ku,v23:=Ku,t26:=Kr,a26:=Ku,z26:=Ku,v26:=Ku,t27:=Kr,a27:=Ku,z27:=Ku,v27:=Ku,t28:=Kr,a28:=Ku,z28:=Ku,v28:=Ku,t33:=Kr,a33:=Ku,z33:=Ku
 v33:=Tryz.zeroValue109 }
def Tryz.sort94_ren:Go.Shelf.Ren:=⟨fun | 6=>94 | 8=>168 | 9=>167 | 19=>241 | 20=>242 | 21=>232 | 22=>233 | 23=>234 | 24=>235 | 25=>236 | 26=>237 | 27=>238 | 28=>239 | 29=>240 | 36=>310 | 31=>311 | 32=>312 | 37=>313 | 38=>314 | 39=>198 | 41=>361 | n=>n,fun | 27=>36 | 29=>9 | 3=>3 | 32=>184 | 26=>36 | 0=>0 | 44=>357 | 46=>30 | 4=>4 | 36=>351 | 35=>350 | 41=>340 | 5=>5 | 9=>9 | 53=>416 | 57=>420 | 63=>457 | 64=>458 | n=>n,fun | n=>n⟩
theorem Tryz.sort94:Go.Proofs.SlLaysM.n6 Tryz.prog Tryz.sort94_ren:={
 mixed:=Kr
 f6:=⟨Tryz.f94.name,by decide,Tryz.func94.trans Cj⟩
 f8:=Kr
 f9:=⟨Tryz.f167.name,by decide,Tryz.func167.trans Cj⟩
 f19:=Kr,f20:=Kr
 f21:=⟨Tryz.f232.name,by decide,Tryz.func232.trans Cj⟩
 f22:=⟨Tryz.f233.name,by decide,Tryz.func233.trans Cj⟩
 f23:=⟨Tryz.f234.name,by decide,Tryz.func234.trans Cj⟩
 f24:=⟨Tryz.f235.name,by decide,Tryz.func235.trans Cj⟩
 f25:=⟨Tryz.f236.name,by decide,Tryz.func236.trans Cj⟩
 f26:=⟨Tryz.f237.name,by decide,Tryz.func237.trans Cj⟩
 f27:=⟨Tryz.f238.name,by decide,Tryz.func238.trans Cj⟩
 f28:=⟨Tryz.f239.name,by decide,Tryz.func239.trans Cj⟩
 f29:=⟨Tryz.f240.name,by decide,Tryz.func240.trans Cj⟩
 f31:=Kr,f32:=Kr
 f36:=⟨Tryz.f310.name,by decide,Tryz.func310.trans Cj⟩
 f37:=⟨Tryz.f313.name,by decide,Tryz.func313.trans Cj⟩
 f38:=⟨Tryz.f314.name,by decide,Tryz.func314.trans Cj⟩
 f39:=⟨Tryz.f198.name,by decide,Tryz.func198.trans Cj⟩
 f41:=⟨Tryz.f361.name,by decide,Tryz.func361.trans Cj⟩
 t0:=Kr,a0:=Ku,z0:=Ku,v0:=Ku,t3:=Kr,a3:=Ku,z3:=Ku,v3:=Ku,t4:=Kr,a4:=Ku,z4:=Ku,v4:=Ku,t5:=Kr,a5:=Ku,z5:=Ku,v5:=Ku,t9:=Kr,a9:=Ku,z9:=Ku,v9:=Ku,t26:=Kr,a26:=Ku,z26:=Ku,v26:=Ku,t27:=Kr,a27:=Ku,z27:=Ku,v27:=Ku,t29:=Kr,a29:=Ku,z29:=Ku,v29:=Ku,t32:=Kr,a32:=Ku,z32:=Ku,v32:=Ku,t35:=Kr,a35:=Ku,z35:=Ku,v35:=Ku,t36:=Kr,a36:=Ku,z36:=Ku,v36:=Ku,t41:=Kr,a41:=Ku,z41:=Ku,v41:=Ku,t44:=Kr,a44:=Ku,z44:=Ku,v44:=Ku,t46:=Kr,a46:=Ku,z46:=Ku,v46:=Ku,t53:=Kr,a53:=Ku,z53:=Ku,v53:=Ku,t57:=Kr,a57:=Ku,z57:=Ku,v57:=Ku,t63:=Kr,a63:=Ku,z63:=Ku,v63:=Ku,t64:=Kr,a64:=Ku,z64:=Ku
 v64:=Tryz.zeroValue458 }
def Tryz.keys163_ren:Go.Shelf.Ren:=⟨fun | 7=>163 | 10=>230 | n=>n,fun | 23=>265 | 26=>9 | 3=>2 | 28=>124 | 0=>0 | 27=>123 | 33=>109 | 4=>4 | n=>n,fun | n=>n⟩
theorem Tryz.keys163:Go.Proofs.SlLaysZ.n7 Tryz.prog Tryz.keys163_ren:={
 mixed:=Kr
 f7:=⟨Tryz.f163.name,by decide,Tryz.func163.trans Cj⟩
 f10:=⟨Tryz.f230.name,by decide,Tryz.func230.trans Cj⟩
 t0:=Kr,a0:=Ku,z0:=Ku,v0:=Ku,t4:=Kr,a4:=Ku,z4:=Ku,v4:=Ku,t23:=Kr,a23:=Ku,z23:=Ku,v23:=Ku,t26:=Kr,a26:=Ku,z26:=Ku,v26:=Ku,t27:=Kr,a27:=Ku,z27:=Ku,v27:=Ku,t28:=Kr,a28:=Ku,z28:=Ku,v28:=Ku,t33:=Kr,a33:=Ku,z33:=Ku
 v33:=Tryz.zeroValue109 }
def Tryz.keys169_ren:Go.Shelf.Ren:=⟨fun | 7=>169 | 10=>243 | n=>n,fun | 23=>90 | 26=>9 | 3=>4 | 28=>124 | 0=>0 | 27=>123 | 33=>109 | 4=>4 | n=>n,fun | n=>n⟩
theorem Tryz.keys169:Go.Proofs.SlLaysZ.n7 Tryz.prog Tryz.keys169_ren:={
 mixed:=Kr
 f7:=⟨Tryz.f169.name,by decide,Tryz.func169.trans Cj⟩
 f10:=⟨Tryz.f243.name,by decide,Tryz.func243.trans Cj⟩
 t0:=Kr,a0:=Ku,z0:=Ku,v0:=Ku,t4:=Kr,a4:=Ku,z4:=Ku,v4:=Ku,t23:=Kr,a23:=Ku,z23:=Ku,v23:=Ku,t26:=Kr,a26:=Ku,z26:=Ku,v26:=Ku,t27:=Kr,a27:=Ku,z27:=Ku,v27:=Ku,t28:=Kr,a28:=Ku,z28:=Ku,v28:=Ku,t33:=Kr,a33:=Ku,z33:=Ku
 v33:=Tryz.zeroValue109 }
def Tryz.keys281_ren:Go.Shelf.Ren:=⟨fun | 7=>281 | 10=>336 | n=>n,fun | 23=>286 | 26=>9 | 3=>303 | 28=>124 | 0=>0 | 27=>123 | 33=>109 | 4=>4 | n=>n,fun | n=>n⟩
theorem Tryz.keys281:Go.Proofs.SlLaysZ.n7 Tryz.prog Tryz.keys281_ren:={
 mixed:=Kr
 f7:=⟨Tryz.f281.name,by decide,Tryz.func281.trans Cj⟩
 f10:=⟨Tryz.f336.name,by decide,Tryz.func336.trans Cj⟩
 t0:=Kr,a0:=Ku,z0:=Ku,v0:=Ku,t4:=Kr,a4:=Ku,z4:=Ku,v4:=Ku,t23:=Kr,a23:=Ku,z23:=Ku,v23:=Ku,t26:=Kr,a26:=Ku,z26:=Ku,v26:=Ku,t27:=Kr,a27:=Ku,z27:=Ku,v27:=Ku,t28:=Kr,a28:=Ku,z28:=Ku,v28:=Ku,t33:=Kr,a33:=Ku,z33:=Ku
 v33:=Tryz.zeroValue109 }
def Tryz.keys291_ren:Go.Shelf.Ren:=⟨fun | 7=>291 | 10=>339 | n=>n,fun | 23=>279 | 26=>9 | 3=>367 | 28=>124 | 0=>0 | 27=>123 | 33=>109 | 4=>4 | n=>n,fun | n=>n⟩
theorem Tryz.keys291:Go.Proofs.SlLaysZ.n7 Tryz.prog Tryz.keys291_ren:={
 mixed:=Kr
 f7:=⟨Tryz.f291.name,by decide,Tryz.func291.trans Cj⟩
 f10:=⟨Tryz.f339.name,by decide,Tryz.func339.trans Cj⟩
 t0:=Kr,a0:=Ku,z0:=Ku,v0:=Ku,t4:=Kr,a4:=Ku,z4:=Ku,v4:=Ku,t23:=Kr,a23:=Ku,z23:=Ku,v23:=Ku,t26:=Kr,a26:=Ku,z26:=Ku,v26:=Ku,t27:=Kr,a27:=Ku,z27:=Ku,v27:=Ku,t28:=Kr,a28:=Ku,z28:=Ku,v28:=Ku,t33:=Kr,a33:=Ku,z33:=Ku
 v33:=Tryz.zeroValue109 }
def Tryz.keys351_ren:Go.Shelf.Ren:=⟨fun | 7=>351 | 10=>387 | n=>n,fun | 23=>153 | 26=>9 | 3=>3 | 28=>124 | 0=>0 | 27=>123 | 33=>109 | 4=>4 | n=>n,fun | n=>n⟩
theorem Tryz.keys351:Go.Proofs.SlLaysZ.n7 Tryz.prog Tryz.keys351_ren:={
 mixed:=Kr
 f7:=⟨Tryz.f351.name,by decide,Tryz.func351.trans Cj⟩
 f10:=⟨Tryz.f387.name,by decide,Tryz.func387.trans Cj⟩
 t0:=Kr,a0:=Ku,z0:=Ku,v0:=Ku,t4:=Kr,a4:=Ku,z4:=Ku,v4:=Ku,t23:=Kr,a23:=Ku,z23:=Ku,v23:=Ku,t26:=Kr,a26:=Ku,z26:=Ku,v26:=Ku,t27:=Kr,a27:=Ku,z27:=Ku,v27:=Ku,t28:=Kr,a28:=Ku,z28:=Ku,v28:=Ku,t33:=Kr,a33:=Ku,z33:=Ku
 v33:=Tryz.zeroValue109 }
def Tryz.sorted371_ren:Go.Shelf.Ren:=⟨fun | 6=>371 | 8=>404 | 9=>405 | 11=>418 | 13=>168 | 12=>419 | 23=>241 | 24=>242 | 14=>424 | 15=>425 | 16=>426 | 17=>427 | 18=>428 | 19=>429 | 20=>430 | 21=>431 | 22=>432 | 25=>433 | 26=>311 | 27=>312 | 28=>434 | 29=>435 | 30=>177 | 31=>436 | n=>n,fun | 26=>3 | 28=>469 | 24=>289 | 0=>0 | 3=>3 | 37=>184 | 48=>357 | 50=>30 | 4=>4 | 40=>351 | 39=>350 | 45=>340 | 5=>5 | 9=>9 | 51=>416 | 55=>420 | 57=>457 | 58=>458 | 33=>142 | n=>n,fun | n=>n⟩
theorem Tryz.sorted371:Go.Proofs.SlLaysZI.n6 Tryz.prog Tryz.sorted371_ren:={
 mixed:=Kr
 f6:=⟨Tryz.f371.name,by decide,Tryz.func371.trans Cj⟩
 f8:=⟨Tryz.f404.name,by decide,Tryz.func404.trans Cj⟩
 f11:=⟨Tryz.f418.name,by decide,Tryz.func418.trans Cj⟩
 t0:=Kr,a0:=Ku,z0:=Ku,v0:=Ku,t24:=Kr,a24:=Ku,z24:=Ku,v24:=Ku,t26:=Kr,a26:=Ku,z26:=Ku,v26:=Ku,t28:=Kr,a28:=Ku,z28:=Ku,v28:=Ku
 i26:=by kernel_rfl }
def Tryz.keys372_ren:Go.Shelf.Ren:=⟨fun | 7=>372 | 10=>406 | n=>n,fun | 23=>303 | 26=>3 | 3=>90 | 28=>469 | 0=>0 | 27=>468 | 33=>142 | 4=>4 | n=>n,fun | n=>n⟩
theorem Tryz.keys372:Go.Proofs.SlLaysZI.n7 Tryz.prog Tryz.keys372_ren:={
 mixed:=Kr
 f7:=⟨Tryz.f372.name,by decide,Tryz.func372.trans Cj⟩
 f10:=⟨Tryz.f406.name,by decide,Tryz.func406.trans Cj⟩
 t0:=Kr,a0:=Ku,z0:=Ku,v0:=Ku,t4:=Kr,a4:=Ku,z4:=Ku,v4:=Ku,t23:=Kr,a23:=Ku,z23:=Ku,v23:=Ku,t26:=Kr,a26:=Ku,z26:=Ku,v26:=Ku,t27:=Kr,a27:=Ku,z27:=Ku,v27:=Ku,t28:=Kr,a28:=Ku,z28:=Ku,v28:=Ku,t33:=Kr,a33:=Ku,z33:=Ku
 v33:=Tryz.zeroValue142 }
def Tryz.sort405_ren:Go.Shelf.Ren:=⟨fun | 5=>405 | 8=>168 | 7=>419 | 19=>241 | 20=>242 | 10=>424 | 11=>425 | 12=>426 | 13=>427 | 14=>428 | 15=>429 | 16=>430 | 17=>431 | 18=>432 | 30=>433 | 31=>311 | 32=>312 | 33=>434 | 34=>435 | 35=>177 | 40=>436 | n=>n,fun | 23=>289 | 25=>3 | 3=>3 | 32=>184 | 22=>289 | 0=>0 | 44=>357 | 46=>30 | 4=>4 | 36=>351 | 35=>350 | 41=>340 | 5=>5 | 9=>9 | 53=>416 | 57=>420 | 63=>457 | 64=>458 | n=>n,fun | n=>n⟩
theorem Tryz.sort405:Go.Proofs.SlLaysM.n5 Tryz.prog Tryz.sort405_ren:={
 mixed:=Kr
 f5:=⟨Tryz.f405.name,by decide,Tryz.func405.trans Cj⟩
 f7:=⟨Tryz.f419.name,by decide,Tryz.func419.trans Cj⟩
 f8:=Kr
 f10:=⟨Tryz.f424.name,by decide,Tryz.func424.trans Cj⟩
 f11:=⟨Tryz.f425.name,by decide,Tryz.func425.trans Cj⟩
 f12:=⟨Tryz.f426.name,by decide,Tryz.func426.trans Cj⟩
 f13:=⟨Tryz.f427.name,by decide,Tryz.func427.trans Cj⟩
 f14:=⟨Tryz.f428.name,by decide,Tryz.func428.trans Cj⟩
 f15:=⟨Tryz.f429.name,by decide,Tryz.func429.trans Cj⟩
 f16:=⟨Tryz.f430.name,by decide,Tryz.func430.trans Cj⟩
 f17:=⟨Tryz.f431.name,by decide,Tryz.func431.trans Cj⟩
 f18:=⟨Tryz.f432.name,by decide,Tryz.func432.trans Cj⟩
 f19:=Kr,f20:=Kr
 f30:=⟨Tryz.f433.name,by decide,Tryz.func433.trans Cj⟩
 f31:=Kr,f32:=Kr
 f33:=⟨Tryz.f434.name,by decide,Tryz.func434.trans Cj⟩
 f34:=⟨Tryz.f435.name,by decide,Tryz.func435.trans Cj⟩
 f35:=⟨Tryz.f177.name,by decide,Tryz.func177.trans Cj⟩
 f40:=⟨Tryz.f436.name,by decide,Tryz.func436.trans Cj⟩
 t0:=Kr,a0:=Ku,z0:=Ku,v0:=Ku,t3:=Kr,a3:=Ku,z3:=Ku,v3:=Ku,t4:=Kr,a4:=Ku,z4:=Ku,v4:=Ku,t5:=Kr,a5:=Ku,z5:=Ku,v5:=Ku,t9:=Kr,a9:=Ku,z9:=Ku,v9:=Ku,t22:=Kr,a22:=Ku,z22:=Ku,v22:=Ku,t23:=Kr,a23:=Ku,z23:=Ku,v23:=Ku,t25:=Kr,a25:=Ku,z25:=Ku,v25:=Ku,t32:=Kr,a32:=Ku,z32:=Ku,v32:=Ku,t35:=Kr,a35:=Ku,z35:=Ku,v35:=Ku,t36:=Kr,a36:=Ku,z36:=Ku,v36:=Ku,t41:=Kr,a41:=Ku,z41:=Ku,v41:=Ku,t44:=Kr,a44:=Ku,z44:=Ku,v44:=Ku,t46:=Kr,a46:=Ku,z46:=Ku,v46:=Ku,t53:=Kr,a53:=Ku,z53:=Ku,v53:=Ku,t57:=Kr,a57:=Ku,z57:=Ku,v57:=Ku,t63:=Kr,a63:=Ku,z63:=Ku,v63:=Ku,t64:=Kr,a64:=Ku,z64:=Ku
 v64:=Tryz.zeroValue458 }
