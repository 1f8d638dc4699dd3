import Derived.Shelf.SlIter.Nil
import Derived.Shelf.SlIterI.Nil
import Derived.Shelf.SortM.Plain
import Derived.Shelf.SortM.SortNone
import Derived.Ground.GgzProg
import Derived.Ground.SlgmProg
import Derived.Test.YtnpacgccajekgaaGreatDoorGA
import Derived.Test.YtnpacgccajekgaaGreatDoorProg
set_option linter.all false
namespace Go.Proofs
open Go.Shelf
def Tryz.sorted114_ren:Go.Shelf.Ren:=⟨fun|6=>114|8=>181|9=>182|11=>245|13=>189|12=>246|23=>262|24=>263|14=>316|15=>317|16=>318|17=>319|18=>320|19=>321|20=>322|21=>323|22=>324|25=>369|26=>332|27=>333|28=>370|29=>371|30=>194|31=>403|n=>n,fun|26=>9|28=>215|24=>42|0=>0|3=>3|37=>169|48=>376|50=>23|4=>4|40=>369|39=>368|45=>373|5=>5|9=>9|51=>448|55=>451|57=>480|58=>481|33=>93|n=>n,fun|n=>n⟩
theorem Tryz.sorted114:Go.Proofs.SlLaysZ.n6 Tryz.prog Tryz.sorted114_ren:={
 mixed:=Kr
 f6:=⟨Tryz.f114.name,by decide,Tryz.func114.trans Cj⟩
 f8:=⟨Tryz.f181.name,by decide,Tryz.func181.trans Cj⟩
 f11:=⟨Tryz.f245.name,by decide,Tryz.func245.trans Cj⟩
 t0:=Kr,a0:=Ku,z0:=Ku,v0:=Ku,t24:=Kr,a24:=Ku,z24:=Ku,v24:=Ku,t26:=Kr,a26:=Ku,z26:=Ku,v26:=Ku,t28:=Kr,a28:=Ku,z28:=Ku,v28:=Ku
 i26:=by kernel_rfl }
def Tryz.keys115_ren:Go.Shelf.Ren:=⟨fun|7=>115|10=>183|n=>n,fun|23=>208|26=>9|3=>146|28=>215|0=>0|27=>214|33=>93|4=>4|n=>n,fun|n=>n⟩
theorem Tryz.keys115:Go.Proofs.SlLaysZ.n7 Tryz.prog Tryz.keys115_ren:={
 mixed:=Kr
 f7:=⟨Tryz.f115.name,by decide,Tryz.func115.trans Cj⟩
 f10:=⟨Tryz.f183.name,by decide,Tryz.func183.trans Cj⟩
 t0:=Kr,a0:=Ku,z0:=Ku,v0:=Ku,t4:=Kr,a4:=Ku,z4:=Ku,v4:=Ku,t23:=Kr,a23:=Ku,z23:=Ku,v23:=Ku,t26:=Kr,a26:=Ku,z26:=Ku,v26:=Ku,t27:=Kr,a27:=Ku,z27:=Ku,v27:=Ku,t28:=Kr,a28:=Ku,z28:=Ku,v28:=Ku,t33:=Kr,a33:=Ku,z33:=Ku
 v33:=Tryz.zeroValue93 }
def Tryz.sort182_ren:Go.Shelf.Ren:=⟨fun|6=>182|8=>189|9=>246|19=>262|20=>263|21=>316|22=>317|23=>318|24=>319|25=>320|26=>321|27=>322|28=>323|29=>324|36=>369|31=>332|32=>333|37=>370|38=>371|39=>194|41=>403|n=>n,fun|27=>42|29=>9|3=>3|32=>169|26=>42|0=>0|44=>376|46=>23|4=>4|36=>369|35=>368|41=>373|5=>5|9=>9|53=>448|57=>451|63=>480|64=>481|n=>n,fun|n=>n⟩
theorem Tryz.sort182:Go.Proofs.SlLaysM.n6 Tryz.prog Tryz.sort182_ren:={
 mixed:=Kr
 f6:=⟨Tryz.f182.name,by decide,Tryz.func182.trans Cj⟩
 f8:=Kr
 f9:=⟨Tryz.f246.name,by decide,Tryz.func246.trans Cj⟩
 f19:=Kr,f20:=Kr
 f21:=⟨Tryz.f316.name,by decide,Tryz.func316.trans Cj⟩
 f22:=⟨Tryz.f317.name,by decide,Tryz.func317.trans Cj⟩
 f23:=⟨Tryz.f318.name,by decide,Tryz.func318.trans Cj⟩
 f24:=⟨Tryz.f319.name,by decide,Tryz.func319.trans Cj⟩
 f25:=⟨Tryz.f320.name,by decide,Tryz.func320.trans Cj⟩
 f26:=⟨Tryz.f321.name,by decide,Tryz.func321.trans Cj⟩
 f27:=⟨Tryz.f322.name,by decide,Tryz.func322.trans Cj⟩
 f28:=⟨Tryz.f323.name,by decide,Tryz.func323.trans Cj⟩
 f29:=⟨Tryz.f324.name,by decide,Tryz.func324.trans Cj⟩
 f31:=Kr,f32:=Kr
 f36:=⟨Tryz.f369.name,by decide,Tryz.func369.trans Cj⟩
 f37:=⟨Tryz.f370.name,by decide,Tryz.func370.trans Cj⟩
 f38:=⟨Tryz.f371.name,by decide,Tryz.func371.trans Cj⟩
 f39:=⟨Tryz.f194.name,by decide,Tryz.func194.trans Cj⟩
 f41:=⟨Tryz.f403.name,by decide,Tryz.func403.trans Cj⟩
 t0:=Kr,a0:=Ku,z0:=Ku,v0:=Ku,t3:=Kr,a3:=Ku,z3:=Ku,v3:=Ku,t4:=Kr,a4:=Ku,z4:=Ku,v4:=Ku,t5:=Kr,a5:=Ku,z5:=Ku,v5:=Ku,t9:=Kr,a9:=Ku,z9:=Ku,v9:=Ku,t26:=Kr,a26:=Ku,z26:=Ku,v26:=Ku,t27:=Kr,a27:=Ku,z27:=Ku,v27:=Ku,t29:=Kr,a29:=Ku,z29:=Ku,v29:=Ku,t32:=Kr,a32:=Ku,z32:=Ku,v32:=Ku,t35:=Kr,a35:=Ku,z35:=Ku,v35:=Ku,t36:=Kr,a36:=Ku,z36:=Ku,v36:=Ku,t41:=Kr,a41:=Ku,z41:=Ku,v41:=Ku,t44:=Kr,a44:=Ku,z44:=Ku,v44:=Ku,t46:=Kr,a46:=Ku,z46:=Ku,v46:=Ku,t53:=Kr,a53:=Ku,z53:=Ku,v53:=Ku,t57:=Kr,a57:=Ku,z57:=Ku,v57:=Ku,t63:=Kr,a63:=Ku,z63:=Ku,v63:=Ku,t64:=Kr,a64:=Ku,z64:=Ku
 v64:=Tryz.zeroValue481 }
def Tryz.keys243_ren:Go.Shelf.Ren:=⟨fun|7=>243|10=>315|n=>n,fun|23=>359|26=>9|3=>2|28=>215|0=>0|27=>214|33=>93|4=>4|n=>n,fun|n=>n⟩
theorem Tryz.keys243:Go.Proofs.SlLaysZ.n7 Tryz.prog Tryz.keys243_ren:={
 mixed:=Kr
 f7:=⟨Tryz.f243.name,by decide,Tryz.func243.trans Cj⟩
 f10:=⟨Tryz.f315.name,by decide,Tryz.func315.trans Cj⟩
 t0:=Kr,a0:=Ku,z0:=Ku,v0:=Ku,t4:=Kr,a4:=Ku,z4:=Ku,v4:=Ku,t23:=Kr,a23:=Ku,z23:=Ku,v23:=Ku,t26:=Kr,a26:=Ku,z26:=Ku,v26:=Ku,t27:=Kr,a27:=Ku,z27:=Ku,v27:=Ku,t28:=Kr,a28:=Ku,z28:=Ku,v28:=Ku,t33:=Kr,a33:=Ku,z33:=Ku
 v33:=Tryz.zeroValue93 }
def Tryz.keys247_ren:Go.Shelf.Ren:=⟨fun|7=>247|10=>325|n=>n,fun|23=>79|26=>9|3=>4|28=>215|0=>0|27=>214|33=>93|4=>4|n=>n,fun|n=>n⟩
theorem Tryz.keys247:Go.Proofs.SlLaysZ.n7 Tryz.prog Tryz.keys247_ren:={
 mixed:=Kr
 f7:=⟨Tryz.f247.name,by decide,Tryz.func247.trans Cj⟩
 f10:=⟨Tryz.f325.name,by decide,Tryz.func325.trans Cj⟩
 t0:=Kr,a0:=Ku,z0:=Ku,v0:=Ku,t4:=Kr,a4:=Ku,z4:=Ku,v4:=Ku,t23:=Kr,a23:=Ku,z23:=Ku,v23:=Ku,t26:=Kr,a26:=Ku,z26:=Ku,v26:=Ku,t27:=Kr,a27:=Ku,z27:=Ku,v27:=Ku,t28:=Kr,a28:=Ku,z28:=Ku,v28:=Ku,t33:=Kr,a33:=Ku,z33:=Ku
 v33:=Tryz.zeroValue93 }
def Tryz.keys278_ren:Go.Shelf.Ren:=⟨fun|7=>278|10=>343|n=>n,fun|23=>275|26=>9|3=>286|28=>215|0=>0|27=>214|33=>93|4=>4|n=>n,fun|n=>n⟩
theorem Tryz.keys278:Go.Proofs.SlLaysZ.n7 Tryz.prog Tryz.keys278_ren:={
 mixed:=Kr
 f7:=⟨Tryz.f278.name,by decide,Tryz.func278.trans Cj⟩
 f10:=⟨Tryz.f343.name,by decide,Tryz.func343.trans Cj⟩
 t0:=Kr,a0:=Ku,z0:=Ku,v0:=Ku,t4:=Kr,a4:=Ku,z4:=Ku,v4:=Ku,t23:=Kr,a23:=Ku,z23:=Ku,v23:=Ku,t26:=Kr,a26:=Ku,z26:=Ku,v26:=Ku,t27:=Kr,a27:=Ku,z27:=Ku,v27:=Ku,t28:=Kr,a28:=Ku,z28:=Ku,v28:=Ku,t33:=Kr,a33:=Ku,z33:=Ku
 v33:=Tryz.zeroValue93 }
def Tryz.keys350_ren:Go.Shelf.Ren:=⟨fun|7=>350|10=>381|n=>n,fun|23=>268|26=>9|3=>331|28=>215|0=>0|27=>214|33=>93|4=>4|n=>n,fun|n=>n⟩
theorem Tryz.keys350:Go.Proofs.SlLaysZ.n7 Tryz.prog Tryz.keys350_ren:={
 mixed:=Kr
 f7:=⟨Tryz.f350.name,by decide,Tryz.func350.trans Cj⟩
 f10:=⟨Tryz.f381.name,by decide,Tryz.func381.trans Cj⟩
 t0:=Kr,a0:=Ku,z0:=Ku,v0:=Ku,t4:=Kr,a4:=Ku,z4:=Ku,v4:=Ku,t23:=Kr,a23:=Ku,z23:=Ku,v23:=Ku,t26:=Kr,a26:=Ku,z26:=Ku,v26:=Ku,t27:=Kr,a27:=Ku,z27:=Ku,v27:=Ku,t28:=Kr,a28:=Ku,z28:=Ku,v28:=Ku,t33:=Kr,a33:=Ku,z33:=Ku
 v33:=Tryz.zeroValue93 }
def Tryz.sorted377_ren:Go.Shelf.Ren:=⟨fun|6=>377|8=>405|9=>406|11=>432|13=>189|12=>433|23=>262|24=>263|14=>442|15=>443|16=>444|17=>445|18=>446|19=>447|20=>448|21=>449|22=>450|25=>453|26=>332|27=>333|28=>454|29=>455|30=>162|31=>456|n=>n,fun|26=>3|28=>488|24=>52|0=>0|3=>3|37=>169|48=>376|50=>23|4=>4|40=>369|39=>368|45=>373|5=>5|9=>9|51=>448|55=>451|57=>480|58=>481|33=>230|n=>n,fun|n=>n⟩
theorem Tryz.sorted377:Go.Proofs.SlLaysZI.n6 Tryz.prog Tryz.sorted377_ren:={
 mixed:=Kr
 f6:=⟨Tryz.f377.name,by decide,Tryz.func377.trans Cj⟩
 f8:=⟨Tryz.f405.name,by decide,Tryz.func405.trans Cj⟩
 f11:=⟨Tryz.f432.name,by decide,Tryz.func432.trans Cj⟩
 t0:=Kr,a0:=Ku,z0:=Ku,v0:=Ku,t24:=Kr,a24:=Ku,z24:=Ku,v24:=Ku,t26:=Kr,a26:=Ku,z26:=Ku,v26:=Ku,t28:=Kr,a28:=Ku,z28:=Ku,v28:=Ku
 i26:=by kernel_rfl }
def Tryz.keys378_ren:Go.Shelf.Ren:=⟨fun|7=>378|10=>407|n=>n,fun|23=>286|26=>3|3=>79|28=>488|0=>0|27=>487|33=>230|4=>4|n=>n,fun|n=>n⟩
theorem Tryz.keys378:Go.Proofs.SlLaysZI.n7 Tryz.prog Tryz.keys378_ren:={
 mixed:=Kr
 f7:=⟨Tryz.f378.name,by decide,Tryz.func378.trans Cj⟩
 f10:=⟨Tryz.f407.name,by decide,Tryz.func407.trans Cj⟩
 t0:=Kr,a0:=Ku,z0:=Ku,v0:=Ku,t4:=Kr,a4:=Ku,z4:=Ku,v4:=Ku,t23:=Kr,a23:=Ku,z23:=Ku,v23:=Ku,t26:=Kr,a26:=Ku,z26:=Ku,v26:=Ku,t27:=Kr,a27:=Ku,z27:=Ku,v27:=Ku,t28:=Kr,a28:=Ku,z28:=Ku,v28:=Ku,t33:=Kr,a33:=Ku,z33:=Ku
 v33:=Tryz.zeroValue230 }
def Tryz.keys393_ren:Go.Shelf.Ren:=⟨fun|7=>393|10=>420|n=>n,fun|23=>125|26=>9|3=>3|28=>215|0=>0|27=>214|33=>93|4=>4|n=>n,fun|n=>n⟩
theorem Tryz.keys393:Go.Proofs.SlLaysZ.n7 Tryz.prog Tryz.keys393_ren:={
 mixed:=Kr
 f7:=⟨Tryz.f393.name,by decide,Tryz.func393.trans Cj⟩
 f10:=⟨Tryz.f420.name,by decide,Tryz.func420.trans Cj⟩
 t0:=Kr,a0:=Ku,z0:=Ku,v0:=Ku,t4:=Kr,a4:=Ku,z4:=Ku,v4:=Ku,t23:=Kr,a23:=Ku,z23:=Ku,v23:=Ku,t26:=Kr,a26:=Ku,z26:=Ku,v26:=Ku,t27:=Kr,a27:=Ku,z27:=Ku,v27:=Ku,t28:=Kr,a28:=Ku,z28:=Ku,v28:=Ku,t33:=Kr,a33:=Ku,z33:=Ku
 v33:=Tryz.zeroValue93 }
def Tryz.sort406_ren:Go.Shelf.Ren:=⟨fun|5=>406|8=>189|7=>433|19=>262|20=>263|10=>442|11=>443|12=>444|13=>445|14=>446|15=>447|16=>448|17=>449|18=>450|30=>453|31=>332|32=>333|33=>454|34=>455|35=>162|40=>456|n=>n,fun|23=>52|25=>3|3=>3|32=>169|22=>52|0=>0|44=>376|46=>23|4=>4|36=>369|35=>368|41=>373|5=>5|9=>9|53=>448|57=>451|63=>480|64=>481|n=>n,fun|n=>n⟩
theorem Tryz.sort406:Go.Proofs.SlLaysM.n5 Tryz.prog Tryz.sort406_ren:={
 mixed:=Kr
 f5:=⟨Tryz.f406.name,by decide,Tryz.func406.trans Cj⟩
 f7:=⟨Tryz.f433.name,by decide,Tryz.func433.trans Cj⟩
 f8:=Kr
 f10:=⟨Tryz.f442.name,by decide,Tryz.func442.trans Cj⟩
 f11:=⟨Tryz.f443.name,by decide,Tryz.func443.trans Cj⟩
 f12:=⟨Tryz.f444.name,by decide,Tryz.func444.trans Cj⟩
 f13:=⟨Tryz.f445.name,by decide,Tryz.func445.trans Cj⟩
 f14:=⟨Tryz.f446.name,by decide,Tryz.func446.trans Cj⟩
 f15:=⟨Tryz.f447.name,by decide,Tryz.func447.trans Cj⟩
 f16:=⟨Tryz.f448.name,by decide,Tryz.func448.trans Cj⟩
 f17:=⟨Tryz.f449.name,by decide,Tryz.func449.trans Cj⟩
 f18:=⟨Tryz.f450.name,by decide,Tryz.func450.trans Cj⟩
 f19:=Kr,f20:=Kr
 f30:=⟨Tryz.f453.name,by decide,Tryz.func453.trans Cj⟩
 f31:=Kr,f32:=Kr
 f33:=⟨Tryz.f454.name,by decide,Tryz.func454.trans Cj⟩
 f34:=⟨Tryz.f455.name,by decide,Tryz.func455.trans Cj⟩
 f35:=⟨Tryz.f162.name,by decide,Tryz.func162.trans Cj⟩
 f40:=⟨Tryz.f456.name,by decide,Tryz.func456.trans Cj⟩
 t0:=Kr,a0:=Ku,z0:=Ku,v0:=Ku,t3:=Kr,a3:=Ku,z3:=Ku,v3:=Ku,t4:=Kr,a4:=Ku,z4:=Ku,v4:=Ku,t5:=Kr,a5:=Ku,z5:=Ku,v5:=Ku,t9:=Kr,a9:=Ku,z9:=Ku,v9:=Ku,t22:=Kr,a22:=Ku,z22:=Ku,v22:=Ku,t23:=Kr,a23:=Ku,z23:=Ku,v23:=Ku,t25:=Kr,a25:=Ku,z25:=Ku,v25:=Ku,t32:=Kr,a32:=Ku,z32:=Ku,v32:=Ku,t35:=Kr,a35:=Ku,z35:=Ku,v35:=Ku,t36:=Kr,a36:=Ku,z36:=Ku,v36:=Ku,t41:=Kr,a41:=Ku,z41:=Ku,v41:=Ku,t44:=Kr,a44:=Ku,z44:=Ku,v44:=Ku,t46:=Kr,a46:=Ku,z46:=Ku,v46:=Ku,t53:=Kr,a53:=Ku,z53:=Ku,v53:=Ku,t57:=Kr,a57:=Ku,z57:=Ku,v57:=Ku,t63:=Kr,a63:=Ku,z63:=Ku,v63:=Ku,t64:=Kr,a64:=Ku,z64:=Ku
 v64:=Tryz.zeroValue481 }
