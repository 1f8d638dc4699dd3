import Derived.Shelf.SlGeneric
import Derived.Shelf.SlSortCmp.NoneTotal
import Derived.Ground.SlsfProg
import Derived.Shelf.SlSortCmp.Whole1
import Derived.Test.YtnpacgccajekgaaGreatDoorGA
import Derived.Test.YtnpacgccajekgaaGreatDoorProg
set_option linter.all false
namespace Go.Proofs
open Go.Shelf
def Tryz.sortNear_ren:Go.Shelf.Ren:=⟨fun|6=>363|15=>189|14=>394|28=>262|29=>263|20=>421|21=>422|22=>423|23=>424|24=>425|25=>426|26=>427|27=>428|46=>438|47=>332|48=>333|49=>439|50=>440|57=>452|n=>n,fun|22=>352|24=>355|25=>473|3=>3|39=>169|0=>0|53=>376|55=>23|4=>4|46=>369|45=>368|50=>373|5=>5|9=>9|66=>448|70=>451|76=>480|77=>481|n=>n,fun|n=>n⟩
theorem Tryz.sortNear:Go.Proofs.SlLaysF0.n6 Tryz.prog Tryz.sortNear_ren:={
 mixed:=Kr
 f6:=⟨Tryz.f363.name,by decide,Tryz.func363.trans Cj⟩
 f14:=⟨Tryz.f394.name,by decide,Tryz.func394.trans Cj⟩
 f15:=Kr
 f20:=⟨Tryz.f421.name,by decide,Tryz.func421.trans Cj⟩
 f21:=⟨Tryz.f422.name,by decide,Tryz.func422.trans Cj⟩
 f22:=⟨Tryz.f423.name,by decide,Tryz.func423.trans Cj⟩
 f23:=⟨Tryz.f424.name,by decide,Tryz.func424.trans Cj⟩
 f24:=⟨Tryz.f425.name,by decide,Tryz.func425.trans Cj⟩
 f25:=⟨Tryz.f426.name,by decide,Tryz.func426.trans Cj⟩
 f26:=⟨Tryz.f427.name,by decide,Tryz.func427.trans Cj⟩
 f27:=⟨Tryz.f428.name,by decide,Tryz.func428.trans Cj⟩
 f28:=Kr,f29:=Kr
 f46:=⟨Tryz.f438.name,by decide,Tryz.func438.trans Cj⟩
 f47:=Kr,f48:=Kr
 f49:=⟨Tryz.f439.name,by decide,Tryz.func439.trans Cj⟩
 f50:=⟨Tryz.f440.name,by decide,Tryz.func440.trans Cj⟩
 f57:=⟨Tryz.f452.name,by decide,Tryz.func452.trans Cj⟩
 t0:=Kr,a0:=Ku,z0:=Ku,v0:=Ku,t3:=Kr,a3:=Ku,z3:=Ku,v3:=Ku,t4:=Kr,a4:=Ku,z4:=Ku,v4:=Ku,t5:=Kr,a5:=Ku,z5:=Ku,v5:=Ku,t9:=Kr,a9:=Ku,z9:=Ku,v9:=Ku,t22:=Kr,a22:=Ku,z22:=Ku,v22:=Ku,t25:=Kr,a25:=Ku,z25:=Ku,v25:=Ku,t39:=Kr,a39:=Ku,z39:=Ku,v39:=Ku,t45:=Kr,a45:=Ku,z45:=Ku,v45:=Ku,t46:=Kr,a46:=Ku,z46:=Ku,v46:=Ku,t50:=Kr,a50:=Ku,z50:=Ku,v50:=Ku,t53:=Kr,a53:=Ku,z53:=Ku,v53:=Ku,t55:=Kr,a55:=Ku,z55:=Ku,v55:=Ku,t66:=Kr,a66:=Ku,z66:=Ku,v66:=Ku,t70:=Kr,a70:=Ku,z70:=Ku,v70:=Ku,t76:=Kr,a76:=Ku,z76:=Ku,v76:=Ku,t77:=Kr,a77:=Ku,z77:=Ku
 v77:=Tryz.zeroValue481 }
def Tryz.sortItem_ren:Go.Shelf.Ren:=⟨fun|6=>313|15=>189|14=>368|28=>262|29=>263|20=>395|21=>396|22=>397|23=>398|24=>399|25=>400|26=>401|27=>402|46=>429|47=>332|48=>333|49=>430|50=>431|57=>441|n=>n,fun|22=>433|24=>152|25=>436|3=>3|39=>169|0=>0|53=>376|55=>23|4=>4|46=>369|45=>368|50=>373|5=>5|9=>9|66=>448|70=>451|76=>480|77=>481|n=>n,fun|n=>n⟩
theorem Tryz.sortItem:Go.Proofs.SlLaysF0.n6 Tryz.prog Tryz.sortItem_ren:={
 mixed:=Kr
 f6:=⟨Tryz.f313.name,by decide,Tryz.func313.trans Cj⟩
 f14:=⟨Tryz.f368.name,by decide,Tryz.func368.trans Cj⟩
 f15:=Kr
 f20:=⟨Tryz.f395.name,by decide,Tryz.func395.trans Cj⟩
 f21:=⟨Tryz.f396.name,by decide,Tryz.func396.trans Cj⟩
 f22:=⟨Tryz.f397.name,by decide,Tryz.func397.trans Cj⟩
 f23:=⟨Tryz.f398.name,by decide,Tryz.func398.trans Cj⟩
 f24:=⟨Tryz.f399.name,by decide,Tryz.func399.trans Cj⟩
 f25:=⟨Tryz.f400.name,by decide,Tryz.func400.trans Cj⟩
 f26:=⟨Tryz.f401.name,by decide,Tryz.func401.trans Cj⟩
 f27:=⟨Tryz.f402.name,by decide,Tryz.func402.trans Cj⟩
 f28:=Kr,f29:=Kr
 f46:=⟨Tryz.f429.name,by decide,Tryz.func429.trans Cj⟩
 f47:=Kr,f48:=Kr
 f49:=⟨Tryz.f430.name,by decide,Tryz.func430.trans Cj⟩
 f50:=⟨Tryz.f431.name,by decide,Tryz.func431.trans Cj⟩
 f57:=⟨Tryz.f441.name,by decide,Tryz.func441.trans Cj⟩
 t0:=Kr,a0:=Ku,z0:=Ku,v0:=Ku,t3:=Kr,a3:=Ku,z3:=Ku,v3:=Ku,t4:=Kr,a4:=Ku,z4:=Ku,v4:=Ku,t5:=Kr,a5:=Ku,z5:=Ku,v5:=Ku,t9:=Kr,a9:=Ku,z9:=Ku,v9:=Ku,t22:=Kr,a22:=Ku,z22:=Ku,v22:=Ku,t25:=Kr,a25:=Ku,z25:=Ku,v25:=Ku,t39:=Kr,a39:=Ku,z39:=Ku,v39:=Ku,t45:=Kr,a45:=Ku,z45:=Ku,v45:=Ku,t46:=Kr,a46:=Ku,z46:=Ku,v46:=Ku,t50:=Kr,a50:=Ku,z50:=Ku,v50:=Ku,t53:=Kr,a53:=Ku,z53:=Ku,v53:=Ku,t55:=Kr,a55:=Ku,z55:=Ku,v55:=Ku,t66:=Kr,a66:=Ku,z66:=Ku,v66:=Ku,t70:=Kr,a70:=Ku,z70:=Ku,v70:=Ku,t76:=Kr,a76:=Ku,z76:=Ku,v76:=Ku,t77:=Kr,a77:=Ku,z77:=Ku
 v77:=Tryz.zeroValue481 }
def Tryz.sortTxt_ren:Go.Shelf.Ren:=⟨fun|6=>135|15=>189|14=>192|28=>262|29=>263|20=>265|21=>266|22=>267|23=>268|24=>269|25=>270|26=>271|27=>272|46=>336|47=>332|48=>333|49=>337|50=>338|57=>375|n=>n,fun|22=>42|24=>9|25=>190|3=>3|39=>169|0=>0|53=>376|55=>23|4=>4|46=>369|45=>368|50=>373|5=>5|9=>9|66=>448|70=>451|76=>480|77=>481|n=>n,fun|n=>n⟩
theorem Tryz.sortTxt:Go.Proofs.SlLaysF.n6 Tryz.prog Tryz.sortTxt_ren:={
 mixed:=Kr
 f6:=⟨Tryz.f135.name,by decide,Tryz.func135.trans Cj⟩
 f14:=⟨Tryz.f192.name,by decide,Tryz.func192.trans Cj⟩
 f15:=Kr
 f20:=⟨Tryz.f265.name,by decide,Tryz.func265.trans Cj⟩
 f21:=⟨Tryz.f266.name,by decide,Tryz.func266.trans Cj⟩
 f22:=⟨Tryz.f267.name,by decide,Tryz.func267.trans Cj⟩
 f23:=⟨Tryz.f268.name,by decide,Tryz.func268.trans Cj⟩
 f24:=⟨Tryz.f269.name,by decide,Tryz.func269.trans Cj⟩
 f25:=⟨Tryz.f270.name,by decide,Tryz.func270.trans Cj⟩
 f26:=⟨Tryz.f271.name,by decide,Tryz.func271.trans Cj⟩
 f27:=⟨Tryz.f272.name,by decide,Tryz.func272.trans Cj⟩
 f28:=Kr,f29:=Kr
 f46:=⟨Tryz.f336.name,by decide,Tryz.func336.trans Cj⟩
 f47:=Kr,f48:=Kr
 f49:=⟨Tryz.f337.name,by decide,Tryz.func337.trans Cj⟩
 f50:=⟨Tryz.f338.name,by decide,Tryz.func338.trans Cj⟩
 f57:=⟨Tryz.f375.name,by decide,Tryz.func375.trans Cj⟩
 t0:=Kr,a0:=Ku,z0:=Ku,v0:=Ku,t3:=Kr,a3:=Ku,z3:=Ku,v3:=Ku,t4:=Kr,a4:=Ku,z4:=Ku,v4:=Ku,t5:=Kr,a5:=Ku,z5:=Ku,v5:=Ku,t9:=Kr,a9:=Ku,z9:=Ku,v9:=Ku,t22:=Kr,a22:=Ku,z22:=Ku,v22:=Ku,a24:=Ku,z24:=Ku,t25:=Kr,a25:=Ku,z25:=Ku,v25:=Ku,t39:=Kr,a39:=Ku,z39:=Ku,v39:=Ku,t45:=Kr,a45:=Ku,z45:=Ku,v45:=Ku,t46:=Kr,a46:=Ku,z46:=Ku,v46:=Ku,t50:=Kr,a50:=Ku,z50:=Ku,v50:=Ku,t53:=Kr,a53:=Ku,z53:=Ku,v53:=Ku,t55:=Kr,a55:=Ku,z55:=Ku,v55:=Ku,t66:=Kr,a66:=Ku,z66:=Ku,v66:=Ku,t70:=Kr,a70:=Ku,z70:=Ku,v70:=Ku,t76:=Kr,a76:=Ku,z76:=Ku,v76:=Ku,t77:=Kr,a77:=Ku,z77:=Ku
 v77:=Tryz.zeroValue481 }
