import Derived.Shelf.SlGeneric
import Derived.Shelf.SlSortCmp.NoneTotal
import Derived.Ground.SlsfProg
import Derived.Test.YtpdonaienhociaaGreatDoorGA
import Derived.Test.YtpdonaienhociaaGreatDoorProg
set_option linter.all false
namespace Go.Proofs
open Go.Shelf
def Tryz.sortCount_ren:Go.Shelf.Ren:=⟨fun | 6=>214 | 15=>168 | 14=>292 | 28=>241 | 29=>242 | 20=>340 | 21=>341 | 22=>342 | 23=>343 | 24=>344 | 25=>345 | 26=>346 | 27=>347 | 46=>375 | 47=>311 | 48=>312 | 49=>376 | 50=>377 | 57=>407 | n=>n,fun | 22=>247 | 24=>251 | 25=>331 | 3=>3 | 39=>184 | 0=>0 | 53=>357 | 55=>30 | 4=>4 | 46=>351 | 45=>350 | 50=>340 | 5=>5 | 9=>9 | 66=>416 | 70=>420 | 76=>457 | 77=>458 | n=>n,fun | n=>n⟩
theorem Tryz.sortCount:Go.Proofs.SlLaysF0.n6 Tryz.prog Tryz.sortCount_ren:={
 mixed:=Kr
 f6:=⟨Tryz.f214.name,by decide,Tryz.func214.trans Cj⟩
 f14:=⟨Tryz.f292.name,by decide,Tryz.func292.trans Cj⟩
 f15:=Kr
 f20:=⟨Tryz.f340.name,by decide,Tryz.func340.trans Cj⟩
 f21:=⟨Tryz.f341.name,by decide,Tryz.func341.trans Cj⟩
 f22:=⟨Tryz.f342.name,by decide,Tryz.func342.trans Cj⟩
 f23:=⟨Tryz.f343.name,by decide,Tryz.func343.trans Cj⟩
 f24:=⟨Tryz.f344.name,by decide,Tryz.func344.trans Cj⟩
 f25:=⟨Tryz.f345.name,by decide,Tryz.func345.trans Cj⟩
 f26:=⟨Tryz.f346.name,by decide,Tryz.func346.trans Cj⟩
 f27:=⟨Tryz.f347.name,by decide,Tryz.func347.trans Cj⟩
 f28:=Kr,f29:=Kr
 f46:=⟨Tryz.f375.name,by decide,Tryz.func375.trans Cj⟩
 f47:=Kr,f48:=Kr
 f49:=⟨Tryz.f376.name,by decide,Tryz.func376.trans Cj⟩
 f50:=⟨Tryz.f377.name,by decide,Tryz.func377.trans Cj⟩
 f57:=⟨Tryz.f407.name,by decide,Tryz.func407.trans Cj⟩
 t0:=Kr,a0:=Ku,z0:=Ku,v0:=Ku,t3:=Kr,a3:=Ku,z3:=Ku,v3:=Ku,t4:=Kr,a4:=Ku,z4:=Ku,v4:=Ku,t5:=Kr,a5:=Ku,z5:=Ku,v5:=Ku,t9:=Kr,a9:=Ku,z9:=Ku,v9:=Ku,t22:=Kr,a22:=Ku,z22:=Ku,v22:=Ku,t25:=Kr,a25:=Ku,z25:=Ku,v25:=Ku,t39:=Kr,a39:=Ku,z39:=Ku,v39:=Ku,t45:=Kr,a45:=Ku,z45:=Ku,v45:=Ku,t46:=Kr,a46:=Ku,z46:=Ku,v46:=Ku,t50:=Kr,a50:=Ku,z50:=Ku,v50:=Ku,t53:=Kr,a53:=Ku,z53:=Ku,v53:=Ku,t55:=Kr,a55:=Ku,z55:=Ku,v55:=Ku,t66:=Kr,a66:=Ku,z66:=Ku,v66:=Ku,t70:=Kr,a70:=Ku,z70:=Ku,v70:=Ku,t76:=Kr,a76:=Ku,z76:=Ku,v76:=Ku,t77:=Kr,a77:=Ku,z77:=Ku
 v77:=Tryz.zeroValue458 }
def Tryz.sortRise_ren:Go.Shelf.Ren:=⟨fun | 6=>296 | 15=>168 | 14=>350 | 28=>241 | 29=>242 | 20=>379 | 21=>380 | 22=>381 | 23=>382 | 24=>383 | 25=>384 | 26=>385 | 27=>386 | 46=>408 | 47=>311 | 48=>312 | 49=>409 | 50=>410 | 57=>420 | n=>n,fun | 22=>252 | 24=>256 | 25=>406 | 3=>3 | 39=>184 | 0=>0 | 53=>357 | 55=>30 | 4=>4 | 46=>351 | 45=>350 | 50=>340 | 5=>5 | 9=>9 | 66=>416 | 70=>420 | 76=>457 | 77=>458 | n=>n,fun | n=>n⟩
theorem Tryz.sortRise:Go.Proofs.SlLaysF0.n6 Tryz.prog Tryz.sortRise_ren:={
 mixed:=Kr
 f6:=⟨Tryz.f296.name,by decide,Tryz.func296.trans Cj⟩
 f14:=⟨Tryz.f350.name,by decide,Tryz.func350.trans Cj⟩
 f15:=Kr
 f20:=⟨Tryz.f379.name,by decide,Tryz.func379.trans Cj⟩
 f21:=⟨Tryz.f380.name,by decide,Tryz.func380.trans Cj⟩
 f22:=⟨Tryz.f381.name,by decide,Tryz.func381.trans Cj⟩
 f23:=⟨Tryz.f382.name,by decide,Tryz.func382.trans Cj⟩
 f24:=⟨Tryz.f383.name,by decide,Tryz.func383.trans Cj⟩
 f25:=⟨Tryz.f384.name,by decide,Tryz.func384.trans Cj⟩
 f26:=⟨Tryz.f385.name,by decide,Tryz.func385.trans Cj⟩
 f27:=⟨Tryz.f386.name,by decide,Tryz.func386.trans Cj⟩
 f28:=Kr,f29:=Kr
 f46:=⟨Tryz.f408.name,by decide,Tryz.func408.trans Cj⟩
 f47:=Kr,f48:=Kr
 f49:=⟨Tryz.f409.name,by decide,Tryz.func409.trans Cj⟩
 f50:=⟨Tryz.f410.name,by decide,Tryz.func410.trans Cj⟩
 f57:=⟨Tryz.f420.name,by decide,Tryz.func420.trans Cj⟩
 t0:=Kr,a0:=Ku,z0:=Ku,v0:=Ku,t3:=Kr,a3:=Ku,z3:=Ku,v3:=Ku,t4:=Kr,a4:=Ku,z4:=Ku,v4:=Ku,t5:=Kr,a5:=Ku,z5:=Ku,v5:=Ku,t9:=Kr,a9:=Ku,z9:=Ku,v9:=Ku,t22:=Kr,a22:=Ku,z22:=Ku,v22:=Ku,t25:=Kr,a25:=Ku,z25:=Ku,v25:=Ku,t39:=Kr,a39:=Ku,z39:=Ku,v39:=Ku,t45:=Kr,a45:=Ku,z45:=Ku,v45:=Ku,t46:=Kr,a46:=Ku,z46:=Ku,v46:=Ku,t50:=Kr,a50:=Ku,z50:=Ku,v50:=Ku,t53:=Kr,a53:=Ku,z53:=Ku,v53:=Ku,t55:=Kr,a55:=Ku,z55:=Ku,v55:=Ku,t66:=Kr,a66:=Ku,z66:=Ku,v66:=Ku,t70:=Kr,a70:=Ku,z70:=Ku,v70:=Ku,t76:=Kr,a76:=Ku,z76:=Ku,v76:=Ku,t77:=Kr,a77:=Ku,z77:=Ku
 v77:=Tryz.zeroValue458 }
