import Derived.Shelf.SlGeneric
import Derived.Shelf.SlSortCmp.NoneTotal
import Derived.Ground.SlsfProg
import Derived.Shelf.SlSortCmp.Whole1
import Derived.Test.YtpdonaienhociaaGreatDoorGA
import Derived.Test.YtpdonaienhociaaGreatDoorProg
set_option linter.all false
namespace Go.Proofs
open Go.Shelf
def Tryz.sortNear_ren:Go.Shelf.Ren:=⟨fun | 6=>304 | 15=>168 | 14=>352 | 28=>241 | 29=>242 | 20=>388 | 21=>389 | 22=>390 | 23=>391 | 24=>392 | 25=>393 | 26=>394 | 27=>395 | 46=>411 | 47=>311 | 48=>312 | 49=>412 | 50=>413 | 57=>421 | n=>n,fun | 22=>258 | 24=>261 | 25=>412 | 3=>3 | 39=>184 | 0=>0 | 53=>357 | 55=>30 | 4=>4 | 46=>351 | 45=>350 | 50=>340 | 5=>5 | 9=>9 | 66=>416 | 70=>420 | 76=>457 | 77=>458 | n=>n,fun | n=>n⟩
theorem Tryz.sortNear:Go.Proofs.SlLaysF0.n6 Tryz.prog Tryz.sortNear_ren:={
 mixed:=Kr
 f6:=⟨Tryz.f304.name,by decide,Tryz.func304.trans Cj⟩
 f14:=⟨Tryz.f352.name,by decide,Tryz.func352.trans Cj⟩
 f15:=Kr
 f20:=⟨Tryz.f388.name,by decide,Tryz.func388.trans Cj⟩
 f21:=⟨Tryz.f389.name,by decide,Tryz.func389.trans Cj⟩
 f22:=⟨Tryz.f390.name,by decide,Tryz.func390.trans Cj⟩
 f23:=⟨Tryz.f391.name,by decide,Tryz.func391.trans Cj⟩
 f24:=⟨Tryz.f392.name,by decide,Tryz.func392.trans Cj⟩
 f25:=⟨Tryz.f393.name,by decide,Tryz.func393.trans Cj⟩
 f26:=⟨Tryz.f394.name,by decide,Tryz.func394.trans Cj⟩
 f27:=⟨Tryz.f395.name,by decide,Tryz.func395.trans Cj⟩
 f28:=Kr,f29:=Kr
 f46:=⟨Tryz.f411.name,by decide,Tryz.func411.trans Cj⟩
 f47:=Kr,f48:=Kr
 f49:=⟨Tryz.f412.name,by decide,Tryz.func412.trans Cj⟩
 f50:=⟨Tryz.f413.name,by decide,Tryz.func413.trans Cj⟩
 f57:=⟨Tryz.f421.name,by decide,Tryz.func421.trans Cj⟩
 t0:=Kr,a0:=Ku,z0:=Ku,v0:=Ku,t3:=Kr,a3:=Ku,z3:=Ku,v3:=Ku,t4:=Kr,a4:=Ku,z4:=Ku,v4:=Ku,t5:=Kr,a5:=Ku,z5:=Ku,v5:=Ku,t9:=Kr,a9:=Ku,z9:=Ku,v9:=Ku,t22:=Kr,a22:=Ku,z22:=Ku,v22:=Ku,t25:=Kr,a25:=Ku,z25:=Ku,v25:=Ku,t39:=Kr,a39:=Ku,z39:=Ku,v39:=Ku,t45:=Kr,a45:=Ku,z45:=Ku,v45:=Ku,t46:=Kr,a46:=Ku,z46:=Ku,v46:=Ku,t50:=Kr,a50:=Ku,z50:=Ku,v50:=Ku,t53:=Kr,a53:=Ku,z53:=Ku,v53:=Ku,t55:=Kr,a55:=Ku,z55:=Ku,v55:=Ku,t66:=Kr,a66:=Ku,z66:=Ku,v66:=Ku,t70:=Kr,a70:=Ku,z70:=Ku,v70:=Ku,t76:=Kr,a76:=Ku,z76:=Ku,v76:=Ku,t77:=Kr,a77:=Ku,z77:=Ku
 v77:=Tryz.zeroValue458 }
def Tryz.sortItem_ren:Go.Shelf.Ren:=⟨fun | 6=>228 | 15=>168 | 14=>309 | 28=>241 | 29=>242 | 20=>353 | 21=>354 | 22=>355 | 23=>356 | 24=>357 | 25=>358 | 26=>359 | 27=>360 | 46=>396 | 47=>311 | 48=>312 | 49=>397 | 50=>398 | 57=>414 | n=>n,fun | 22=>344 | 24=>59 | 25=>347 | 3=>3 | 39=>184 | 0=>0 | 53=>357 | 55=>30 | 4=>4 | 46=>351 | 45=>350 | 50=>340 | 5=>5 | 9=>9 | 66=>416 | 70=>420 | 76=>457 | 77=>458 | n=>n,fun | n=>n⟩
theorem Tryz.sortItem:Go.Proofs.SlLaysF0.n6 Tryz.prog Tryz.sortItem_ren:={
 mixed:=Kr
 f6:=⟨Tryz.f228.name,by decide,Tryz.func228.trans Cj⟩
 f14:=⟨Tryz.f309.name,by decide,Tryz.func309.trans Cj⟩
 f15:=Kr
 f20:=⟨Tryz.f353.name,by decide,Tryz.func353.trans Cj⟩
 f21:=⟨Tryz.f354.name,by decide,Tryz.func354.trans Cj⟩
 f22:=⟨Tryz.f355.name,by decide,Tryz.func355.trans Cj⟩
 f23:=⟨Tryz.f356.name,by decide,Tryz.func356.trans Cj⟩
 f24:=⟨Tryz.f357.name,by decide,Tryz.func357.trans Cj⟩
 f25:=⟨Tryz.f358.name,by decide,Tryz.func358.trans Cj⟩
 f26:=⟨Tryz.f359.name,by decide,Tryz.func359.trans Cj⟩
 f27:=⟨Tryz.f360.name,by decide,Tryz.func360.trans Cj⟩
 f28:=Kr,f29:=Kr
 f46:=⟨Tryz.f396.name,by decide,Tryz.func396.trans Cj⟩
 f47:=Kr,f48:=Kr
 f49:=⟨Tryz.f397.name,by decide,Tryz.func397.trans Cj⟩
 f50:=⟨Tryz.f398.name,by decide,Tryz.func398.trans Cj⟩
 f57:=⟨Tryz.f414.name,by decide,Tryz.func414.trans Cj⟩
 t0:=Kr,a0:=Ku,z0:=Ku,v0:=Ku,t3:=Kr,a3:=Ku,z3:=Ku,v3:=Ku,t4:=Kr,a4:=Ku,z4:=Ku,v4:=Ku,t5:=Kr,a5:=Ku,z5:=Ku,v5:=Ku,t9:=Kr,a9:=Ku,z9:=Ku,v9:=Ku,t22:=Kr,a22:=Ku,z22:=Ku,v22:=Ku,t25:=Kr,a25:=Ku,z25:=Ku,v25:=Ku,t39:=Kr,a39:=Ku,z39:=Ku,v39:=Ku,t45:=Kr,a45:=Ku,z45:=Ku,v45:=Ku,t46:=Kr,a46:=Ku,z46:=Ku,v46:=Ku,t50:=Kr,a50:=Ku,z50:=Ku,v50:=Ku,t53:=Kr,a53:=Ku,z53:=Ku,v53:=Ku,t55:=Kr,a55:=Ku,z55:=Ku,v55:=Ku,t66:=Kr,a66:=Ku,z66:=Ku,v66:=Ku,t70:=Kr,a70:=Ku,z70:=Ku,v70:=Ku,t76:=Kr,a76:=Ku,z76:=Ku,v76:=Ku,t77:=Kr,a77:=Ku,z77:=Ku
 v77:=Tryz.zeroValue458 }
def Tryz.sortTxt_ren:Go.Shelf.Ren:=⟨fun | 6=>135 | 15=>168 | 14=>196 | 28=>241 | 29=>242 | 20=>268 | 21=>269 | 22=>270 | 23=>271 | 24=>272 | 25=>273 | 26=>274 | 27=>275 | 46=>329 | 47=>311 | 48=>312 | 49=>330 | 50=>331 | 57=>369 | n=>n,fun | 22=>36 | 24=>9 | 25=>167 | 3=>3 | 39=>184 | 0=>0 | 53=>357 | 55=>30 | 4=>4 | 46=>351 | 45=>350 | 50=>340 | 5=>5 | 9=>9 | 66=>416 | 70=>420 | 76=>457 | 77=>458 | n=>n,fun | n=>n⟩
theorem Tryz.sortTxt:Go.Proofs.SlLaysF.n6 Tryz.prog Tryz.sortTxt_ren:={
 mixed:=Kr
 f6:=⟨Tryz.f135.name,by decide,Tryz.func135.trans Cj⟩
 f14:=⟨Tryz.f196.name,by decide,Tryz.func196.trans Cj⟩
 f15:=Kr
 f20:=⟨Tryz.f268.name,by decide,Tryz.func268.trans Cj⟩
 f21:=⟨Tryz.f269.name,by decide,Tryz.func269.trans Cj⟩
 f22:=⟨Tryz.f270.name,by decide,Tryz.func270.trans Cj⟩
 f23:=⟨Tryz.f271.name,by decide,Tryz.func271.trans Cj⟩
 f24:=⟨Tryz.f272.name,by decide,Tryz.func272.trans Cj⟩
 f25:=⟨Tryz.f273.name,by decide,Tryz.func273.trans Cj⟩
 f26:=⟨Tryz.f274.name,by decide,Tryz.func274.trans Cj⟩
 f27:=⟨Tryz.f275.name,by decide,Tryz.func275.trans Cj⟩
 f28:=Kr,f29:=Kr
 f46:=⟨Tryz.f329.name,by decide,Tryz.func329.trans Cj⟩
 f47:=Kr,f48:=Kr
 f49:=⟨Tryz.f330.name,by decide,Tryz.func330.trans Cj⟩
 f50:=⟨Tryz.f331.name,by decide,Tryz.func331.trans Cj⟩
 f57:=⟨Tryz.f369.name,by decide,Tryz.func369.trans Cj⟩
 t0:=Kr,a0:=Ku,z0:=Ku,v0:=Ku,t3:=Kr,a3:=Ku,z3:=Ku,v3:=Ku,t4:=Kr,a4:=Ku,z4:=Ku,v4:=Ku,t5:=Kr,a5:=Ku,z5:=Ku,v5:=Ku,t9:=Kr,a9:=Ku,z9:=Ku,v9:=Ku,t22:=Kr,a22:=Ku,z22:=Ku,v22:=Ku,a24:=Ku,z24:=Ku,t25:=Kr,a25:=Ku,z25:=Ku,v25:=Ku,t39:=Kr,a39:=Ku,z39:=Ku,v39:=Ku,t45:=Kr,a45:=Ku,z45:=Ku,v45:=Ku,t46:=Kr,a46:=Ku,z46:=Ku,v46:=Ku,t50:=Kr,a50:=Ku,z50:=Ku,v50:=Ku,t53:=Kr,a53:=Ku,z53:=Ku,v53:=Ku,t55:=Kr,a55:=Ku,z55:=Ku,v55:=Ku,t66:=Kr,a66:=Ku,z66:=Ku,v66:=Ku,t70:=Kr,a70:=Ku,z70:=Ku,v70:=Ku,t76:=Kr,a76:=Ku,z76:=Ku,v76:=Ku,t77:=Kr,a77:=Ku,z77:=Ku
 v77:=Tryz.zeroValue458 }
