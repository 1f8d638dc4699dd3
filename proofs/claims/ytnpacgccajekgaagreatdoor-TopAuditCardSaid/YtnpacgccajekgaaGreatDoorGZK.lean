import Derived.Shelf.SlGeneric
import Derived.Shelf.SlSortCmp.NoneTotal
import Derived.Ground.SlsfProg
import Derived.Test.YtnpacgccajekgaaGreatDoorGA
import Derived.Test.YtnpacgccajekgaaGreatDoorProg
set_option linter.all false
namespace Go.Proofs
open Go.Shelf
def Tryz.sortCount_ren:Go.Shelf.Ren:=⟨fun|6=>299|15=>189|14=>351|28=>262|29=>263|20=>382|21=>383|22=>384|23=>385|24=>386|25=>387|26=>388|27=>389|46=>408|47=>332|48=>333|49=>409|50=>410|57=>434|n=>n,fun|22=>341|24=>345|25=>421|3=>3|39=>169|0=>0|53=>376|55=>23|4=>4|46=>369|45=>368|50=>373|5=>5|9=>9|66=>448|70=>451|76=>480|77=>481|n=>n,fun|n=>n⟩
theorem Tryz.sortCount:Go.Proofs.SlLaysF0.n6 Tryz.prog Tryz.sortCount_ren:={
 mixed:=Kr
 f6:=⟨Tryz.f299.name,by decide,Tryz.func299.trans Cj⟩
 f14:=⟨Tryz.f351.name,by decide,Tryz.func351.trans Cj⟩
 f15:=Kr
 f20:=⟨Tryz.f382.name,by decide,Tryz.func382.trans Cj⟩
 f21:=⟨Tryz.f383.name,by decide,Tryz.func383.trans Cj⟩
 f22:=⟨Tryz.f384.name,by decide,Tryz.func384.trans Cj⟩
 f23:=⟨Tryz.f385.name,by decide,Tryz.func385.trans Cj⟩
 f24:=⟨Tryz.f386.name,by decide,Tryz.func386.trans Cj⟩
 f25:=⟨Tryz.f387.name,by decide,Tryz.func387.trans Cj⟩
 f26:=⟨Tryz.f388.name,by decide,Tryz.func388.trans Cj⟩
 f27:=⟨Tryz.f389.name,by decide,Tryz.func389.trans Cj⟩
 f28:=Kr,f29:=Kr
 f46:=⟨Tryz.f408.name,by decide,Tryz.func408.trans Cj⟩
 f47:=Kr,f48:=Kr
 f49:=⟨Tryz.f409.name,by decide,Tryz.func409.trans Cj⟩
 f50:=⟨Tryz.f410.name,by decide,Tryz.func410.trans Cj⟩
 f57:=⟨Tryz.f434.name,by decide,Tryz.func434.trans Cj⟩
 t0:=Kr,a0:=Ku,z0:=Ku,v0:=Ku,t3:=Kr,a3:=Ku,z3:=Ku,v3:=Ku,t4:=Kr,a4:=Ku,z4:=Ku,v4:=Ku,t5:=Kr,a5:=Ku,z5:=Ku,v5:=Ku,t9:=Kr,a9:=Ku,z9:=Ku,v9:=Ku,t22:=Kr,a22:=Ku,z22:=Ku,v22:=Ku,t25:=Kr,a25:=Ku,z25:=Ku,v25:=Ku,t39:=Kr,a39:=Ku,z39:=Ku,v39:=Ku,t45:=Kr,a45:=Ku,z45:=Ku,v45:=Ku,t46:=Kr,a46:=Ku,z46:=Ku,v46:=Ku,t50:=Kr,a50:=Ku,z50:=Ku,v50:=Ku,t53:=Kr,a53:=Ku,z53:=Ku,v53:=Ku,t55:=Kr,a55:=Ku,z55:=Ku,v55:=Ku,t66:=Kr,a66:=Ku,z66:=Ku,v66:=Ku,t70:=Kr,a70:=Ku,z70:=Ku,v70:=Ku,t76:=Kr,a76:=Ku,z76:=Ku,v76:=Ku,t77:=Kr,a77:=Ku,z77:=Ku
 v77:=Tryz.zeroValue481 }
def Tryz.sortRise_ren:Go.Shelf.Ren:=⟨fun|6=>355|15=>189|14=>392|28=>262|29=>263|20=>412|21=>413|22=>414|23=>415|24=>416|25=>417|26=>418|27=>419|46=>435|47=>332|48=>333|49=>436|50=>437|57=>451|n=>n,fun|22=>346|24=>350|25=>467|3=>3|39=>169|0=>0|53=>376|55=>23|4=>4|46=>369|45=>368|50=>373|5=>5|9=>9|66=>448|70=>451|76=>480|77=>481|n=>n,fun|n=>n⟩
theorem Tryz.sortRise:Go.Proofs.SlLaysF0.n6 Tryz.prog Tryz.sortRise_ren:={
 mixed:=Kr
 f6:=⟨Tryz.f355.name,by decide,Tryz.func355.trans Cj⟩
 f14:=⟨Tryz.f392.name,by decide,Tryz.func392.trans Cj⟩
 f15:=Kr
 f20:=⟨Tryz.f412.name,by decide,Tryz.func412.trans Cj⟩
 f21:=⟨Tryz.f413.name,by decide,Tryz.func413.trans Cj⟩
 f22:=⟨Tryz.f414.name,by decide,Tryz.func414.trans Cj⟩
 f23:=⟨Tryz.f415.name,by decide,Tryz.func415.trans Cj⟩
 f24:=⟨Tryz.f416.name,by decide,Tryz.func416.trans Cj⟩
 f25:=⟨Tryz.f417.name,by decide,Tryz.func417.trans Cj⟩
 f26:=⟨Tryz.f418.name,by decide,Tryz.func418.trans Cj⟩
 f27:=⟨Tryz.f419.name,by decide,Tryz.func419.trans Cj⟩
 f28:=Kr,f29:=Kr
 f46:=⟨Tryz.f435.name,by decide,Tryz.func435.trans Cj⟩
 f47:=Kr,f48:=Kr
 f49:=⟨Tryz.f436.name,by decide,Tryz.func436.trans Cj⟩
 f50:=⟨Tryz.f437.name,by decide,Tryz.func437.trans Cj⟩
 f57:=⟨Tryz.f451.name,by decide,Tryz.func451.trans Cj⟩
 t0:=Kr,a0:=Ku,z0:=Ku,v0:=Ku,t3:=Kr,a3:=Ku,z3:=Ku,v3:=Ku,t4:=Kr,a4:=Ku,z4:=Ku,v4:=Ku,t5:=Kr,a5:=Ku,z5:=Ku,v5:=Ku,t9:=Kr,a9:=Ku,z9:=Ku,v9:=Ku,t22:=Kr,a22:=Ku,z22:=Ku,v22:=Ku,t25:=Kr,a25:=Ku,z25:=Ku,v25:=Ku,t39:=Kr,a39:=Ku,z39:=Ku,v39:=Ku,t45:=Kr,a45:=Ku,z45:=Ku,v45:=Ku,t46:=Kr,a46:=Ku,z46:=Ku,v46:=Ku,t50:=Kr,a50:=Ku,z50:=Ku,v50:=Ku,t53:=Kr,a53:=Ku,z53:=Ku,v53:=Ku,t55:=Kr,a55:=Ku,z55:=Ku,v55:=Ku,t66:=Kr,a66:=Ku,z66:=Ku,v66:=Ku,t70:=Kr,a70:=Ku,z70:=Ku,v70:=Ku,t76:=Kr,a76:=Ku,z76:=Ku,v76:=Ku,t77:=Kr,a77:=Ku,z77:=Ku
 v77:=Tryz.zeroValue481 }
