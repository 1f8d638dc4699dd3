import Derived.Shelf.Strings.Builder1
import Derived.Shelf.Strings.Builder2
import Derived.Shelf.Strings.OnBuilder
import Derived.Shelf.Small.Utf8
import Derived.Shelf.Small.Bits
import Derived.Shelf.Small.Strs
import Derived.Shelf.Small.Wraps
import Derived.Shelf.Strconv.Atoi
import Derived.Shelf.Strconv.Itoa0
import Derived.Shelf.Strconv.Itoa1
import Derived.Shelf.LaysM
import Derived.Shelf.Strconv.Itoa2
import Derived.Shelf.Strconv.Itoa3
import Derived.Shelf.Strconv.Lower
import Derived.Shelf.Strconv.ParseUint10
import Derived.Shelf.Strconv.ParseUintEmpty
import Derived.Shelf.Strconv.ParseUint10b64
import Derived.Shelf.Strconv.ParseUint10b32
import Derived.Shelf.Strconv.ParseUint10b16
import Derived.Shelf.Strconv.ParseUint10b8
import Derived.Shelf.Strconv.ParseUint10At
import Derived.Shelf.Strings.Search1
import Derived.Shelf.Strings.Search2
import Derived.Shelf.Strings.Search3
import Derived.Shelf.Strings.Cut
import Derived.Shelf.Strings.Count
import Derived.Shelf.Strings.Shaped
import Derived.Shelf.Strings.Prefix
import Derived.Shelf.Strings.Split
import Derived.Shelf.Strings.SplitShaped
import Derived.Shelf.Strings.Runes
import Derived.Shelf.Strings.IndexAny
import Derived.Shelf.Strings.AsciiSet
import Derived.Shelf.Strings.IndexAnyAll
import Derived.Shelf.Unicode.DecodeSlow
import Derived.Shelf.Slices.Turned
import Derived.Ground.Names2Prog
import Derived.Shelf.Slices.CompactI
import Derived.Shelf.Slices.CompactS
import Derived.Shelf.Slices.Cells
import Derived.Ground.SlsfProg
import Derived.Shelf.SlSortCmp.Insertion
import Derived.Test.YtnpacgccajekgaaGreatDoorGA
import Derived.Test.YtnpacgccajekgaaGreatDoorProg
set_option linter.all false
namespace Go.Proofs
open Go.Shelf
def Tryz.lays156_ren:Go.Shelf.Ren:=⟨fun|156=>87|165=>159|166=>160|169=>161|240=>219|241=>220|276=>292|277=>293|n=>n,fun|31=>42|9=>9|3=>3|4=>4|0=>0|20=>20|72=>264|76=>178|70=>262|37=>22|75=>111|127=>328|164=>409|5=>5|80=>266|n=>n,fun|n=>n⟩
theorem Tryz.lays156:Go.Proofs.Lays.n156 Tryz.prog Tryz.lays156_ren:={
 mixed:=Kr,f156:=Kr,f165:=Kr,f166:=Kr,f169:=Kr,f240:=Kr,f241:=Kr,f276:=Kr,f277:=Kr,t0:=Kr,a0:=Ku,z0:=Ku,v0:=Ku,t3:=Kr,a3:=Ku,z3:=Ku,v3:=Ku,t4:=Kr,a4:=Ku,z4:=Ku,v4:=Ku,t9:=Kr,a9:=Ku,z9:=Ku,v9:=Ku,t20:=Kr,a20:=Ku,z20:=Ku,v20:=Ku,t31:=Kr,a31:=Ku,z31:=Ku,v31:=Ku,t37:=Kr,a37:=Ku,z37:=Ku,v37:=Ku,t70:=Kr,a70:=Ku,z70:=Ku,v70:=Ku,t72:=Kr,a72:=Ku,z72:=Ku,v72:=Ku,t75:=Kr,a75:=Ku,z75:=Ku,v75:=Ku,t76:=Kr,a76:=Ku,z76:=Ku,v76:=Ku,t127:=Kr,a127:=Ku,z127:=Ku,v127:=Ku,t164:=Kr,a164:=Ku,z164:=Ku
 v164:=Tryz.zeroValue409 }
theorem Tryz.Builder_Extra_156:Builder.Extra Tryz.prog Tryz.lays156_ren:={
 sizeBuilder:=Kr,liesBuilder:=Kr,t5:=Kr,a5:=Ku,z5:=Ku,v5:=Ku,infoByte:=Kr,cellsByte:=Kr,sizeByte:=Kr
 neB5:=by decide }
open Go.RowKit in
theorem Tryz.strings_Join(bk o c:Nat)(xs:List Bj)(sep:Bj)(w:World)(hcells:∀(j:Nat) x,xs[j]?=some x->w.cell? ⟨bk,o+j,none⟩=some (.string x))(hbk:bk<w.heap.size)(hN:xs.length<=140737488355328)(hcap:xs.length<=c)(hlen:(Lib.join (xs.map (·.data.toList)) sep.data.toList).length<=140737488355328) :
 Calls Tryz.prog 87 #[.slice (some ⟨bk,o,none⟩) xs.length c,.string sep] w fun e w'=>e=.returned (.string ⟨(Lib.join (xs.map (·.data.toList)) sep.data.toList).toArray⟩)/\Below w.heap.size w w':=Any.strings_Join Tryz.lays156 Tryz.Builder_Extra_156 bk o c xs sep w hcells hbk hN hcap hlen
def Tryz.lays106_ren:Go.Shelf.Ren:=⟨fun|106=>98|213=>163|265=>221|n=>n,fun|9=>9|3=>3|n=>n,fun|n=>n⟩
theorem Tryz.lays106:Go.Proofs.Lays.n106 Tryz.prog Tryz.lays106_ren:={
 mixed:=Kr,f106:=Kr,f213:=Kr,f265:=Kr,t3:=Kr,a3:=Ku,z3:=Ku,v3:=Ku,t9:=Kr,a9:=Ku,z9:=Ku
 v9:=Tryz.zeroValue9 }
open Go.RowKit in
theorem Tryz.strings_Compare(a b:Bj)(w:World) :
 Calls Tryz.prog 98 #[.string a,.string b] w fun e w'=>e=.returned (Vj (Lib.compareBytes a.data.toList b.data.toList))/\w'=w:=Any.strings_Compare Tryz.lays106 a b w
def Tryz.lays172_ren:Go.Shelf.Ren:=⟨fun|172=>85|244=>157|245=>81|247=>214|279=>150|280=>151|281=>152|282=>153|287=>80|316=>209|171=>32|205=>210|321=>148|322=>149|243=>75|246=>139|283=>195|284=>196|285=>197|286=>198|129=>263|317=>273|318=>274|319=>275|320=>276|337=>339|338=>340|n=>n,fun|9=>9|3=>3|75=>111|76=>178|4=>4|5=>5|167=>256|37=>22|0=>0|85=>325|2=>2|168=>258|53=>23|175=>112|46=>169|210=>322|127=>328|145=>404|143=>402|21=>21|171=>308|173=>311|212=>384|51=>376|20=>20|213=>385|232=>484|233=>485|80=>266|n=>n,fun|15=>2|16=>3|17=>5|18=>6|19=>7|n=>n⟩
theorem Tryz.lays172:Go.Proofs.Lays.n172 Tryz.prog Tryz.lays172_ren:={
 mixed:=Kr,f129:=Kr,f171:=Kr,f172:=Kr,f205:=Kr,f243:=Kr,f244:=Kr,f245:=Kr,f246:=Kr,f247:=Kr,f279:=Kr,f280:=Kr,f281:=Kr,f282:=Kr,f283:=Kr,f284:=Kr,f285:=Kr,f286:=Kr,f287:=Kr,f316:=Kr,f317:=Kr,f318:=Kr,f319:=Kr,f320:=Kr,f321:=Kr,f322:=Kr,f337:=Kr,f338:=Kr,t0:=Kr,a0:=Ku,z0:=Ku,v0:=Ku,t2:=Kr,a2:=Ku,z2:=Ku,v2:=Ku,t3:=Kr,a3:=Ku,z3:=Ku,v3:=Ku,t4:=Kr,a4:=Ku,z4:=Ku,v4:=Ku,t5:=Kr,a5:=Ku,z5:=Ku,v5:=Ku,t9:=Kr,a9:=Ku,z9:=Ku,v9:=Ku,t20:=Kr,a20:=Ku,z20:=Ku,v20:=Ku,t21:=Kr,a21:=Ku,z21:=Ku,v21:=Ku,t37:=Kr,a37:=Ku,z37:=Ku,v37:=Ku,t46:=Kr,a46:=Ku,z46:=Ku,v46:=Ku,t51:=Kr,a51:=Ku,z51:=Ku,v51:=Ku,t53:=Kr,a53:=Ku,z53:=Ku,v53:=Ku,t75:=Kr,a75:=Ku,z75:=Ku,v75:=Ku,t76:=Kr,a76:=Ku,z76:=Ku,v76:=Ku,t85:=Kr,a85:=Ku,z85:=Ku,v85:=Ku,t127:=Kr,a127:=Ku,z127:=Ku,v127:=Ku,t143:=Kr,a143:=Ku,z143:=Ku,v143:=Ku,t145:=Kr,a145:=Ku,z145:=Ku,v145:=Ku,t167:=Kr,a167:=Ku,z167:=Ku,v167:=Ku,t168:=Kr,a168:=Ku,z168:=Ku,v168:=Ku,t171:=Kr,a171:=Ku,z171:=Ku,v171:=Ku,t173:=Kr,a173:=Ku,z173:=Ku,v173:=Ku,t175:=Kr,a175:=Ku,z175:=Ku,v175:=Ku,t210:=Kr,a210:=Ku,z210:=Ku,v210:=Ku,t212:=Kr,a212:=Ku,z212:=Ku,v212:=Ku,t213:=Kr,a213:=Ku,z213:=Ku,t232:=Kr,a232:=Ku,z232:=Ku,v232:=Ku,t233:=Kr,a233:=Ku,z233:=Ku,v233:=Ku,g15:=Kr,g16:=Kr,g17:=Kr,g18:=Kr
 g19:=by kernel_rfl }
open Go.RowKit in
theorem Tryz.strconv_Atoi(s:Bj)(n:Int)(hl:s.size<=18)(h:Lib.atoi s.data.toList=some n)(w:World) :
 Calls Tryz.prog 85 #[.string s] w fun e w'=>e=.returned (.tuple #[Vj n,.nilIface])/\∃t,w'=Lib.bytesWorld w 5 t:=Any.strconv_Atoi Tryz.lays172 s n hl h w
def Tryz.lays283_ren:Go.Shelf.Ren:=⟨fun|283=>195|n=>n,fun|3=>3|9=>9|4=>4|n=>n,fun|n=>n⟩
theorem Tryz.lays283:Go.Proofs.Lays.n283 Tryz.prog Tryz.lays283_ren:={
 mixed:=Kr,f283:=Kr,t3:=Kr,a3:=Ku,z3:=Ku,v3:=Ku,t4:=Kr,a4:=Ku,z4:=Ku,v4:=Ku,t9:=Kr,a9:=Ku,z9:=Ku
 v9:=Tryz.zeroValue9 }
open Go.Lib in
theorem Tryz.internal_strconv_small(i:Nat)(h:i<100)(w:World) :
 Calls Tryz.prog 195 #[Vj i] w fun e w'=>e=.returned (.string ⟨(Lib.decDigits i).toArray⟩)/\w'=w:=Any.internal_strconv_small Tryz.lays283 i h w
def Tryz.laysM284_ren:Go.Shelf.Ren:=⟨fun|284=>196|129=>263|317=>273|318=>274|n=>n,fun|53=>23|3=>3|212=>384|0=>0|4=>4|46=>169|5=>5|9=>9|n=>n,fun|17=>5|n=>n⟩
theorem Tryz.laysM284:Go.Proofs.LaysM.n284 Tryz.prog Tryz.laysM284_ren:={
 mixed:=Kr,f129:=Kr,f284:=Kr,f317:=Kr,f318:=Kr,t0:=Kr,a0:=Ku,z0:=Ku,v0:=Ku,t3:=Kr,a3:=Ku,z3:=Ku,v3:=Ku,t4:=Kr,a4:=Ku,z4:=Ku,v4:=Ku,t5:=Kr,a5:=Ku,z5:=Ku,v5:=Ku,t9:=Kr,a9:=Ku,z9:=Ku,v9:=Ku,t46:=Kr,a46:=Ku,z46:=Ku,v46:=Ku,t53:=Kr,a53:=Ku,z53:=Ku,v53:=Ku,t212:=Kr,a212:=Ku,z212:=Ku,v212:=Ku,g17:=Kr,i0:=Kr,i3:=Kr,i4:=Kr,i5:=Kr,i9:=Kr,i46:=Kr,i53:=Kr,i212:=Kr
 m17:=by kernel_rfl }
open Go.Lib in
theorem Tryz.internal_strconv_numDigits(u:Nat)(h1:1≤u)(h2:u<18446744073709551616)(w:World)(htab:Lib.TabIs Tryz.prog w "internal/strconv.uint64pow10" .u64 Lib.pow10Tab) :
 Calls Tryz.prog 196 #[.int .u64 u] w fun e w'=>e=.returned (Vj (Lib.nDigits u))/\w'=w:=Any.internal_strconv_numDigits Tryz.laysM284 u h1 h2 w htab
def Tryz.lays285_ren:Go.Shelf.Ren:=⟨fun|285=>197|n=>n,fun|37=>22|53=>23|3=>3|4=>4|51=>376|9=>9|5=>5|0=>0|n=>n,fun|n=>n⟩
theorem Tryz.lays285:Go.Proofs.Lays.n285 Tryz.prog Tryz.lays285_ren:={
 mixed:=Kr,f285:=Kr,t0:=Kr,a0:=Ku,z0:=Ku,v0:=Ku,t3:=Kr,a3:=Ku,z3:=Ku,v3:=Ku,t4:=Kr,a4:=Ku,z4:=Ku,v4:=Ku,t5:=Kr,a5:=Ku,z5:=Ku,v5:=Ku,t9:=Kr,a9:=Ku,z9:=Ku,v9:=Ku,t37:=Kr,a37:=Ku,z37:=Ku,v37:=Ku,t51:=Kr,a51:=Ku,z51:=Ku,v51:=Ku,t53:=Kr,a53:=Ku,z53:=Ku
 v53:=Tryz.zeroValue23 }
open Go.RowKit Go.Sort Go.Lib in
theorem Tryz.internal_strconv_formatBase10(blk off cap:Nat)(u:Nat)(d:Array UInt8)(w:World)(hH:Holds (fun(b:UInt8)=>Value.int .u8 (b.toNat:Int)) w blk off d)(hu:u<10^d.size)(hu64:u<18446744073709551616)(hsz:d.size<4611686018427387904) :
 Calls Tryz.prog 197 #[.slice (some ⟨blk,off,none⟩) d.size cap,.int .u64 u] w fun e w' =>
  e=.returned (.tuple #[])/\∃(n v':Nat) (dk:Array UInt8),w'=(putRow (fun(b:UInt8)=>Value.int .u8 (b.toNat:Int)) w blk off dk).drewN n/\FmtInv d.size u 0 v' dk:=Any.internal_strconv_formatBase10 Tryz.lays285 blk off cap u d w hH hu hu64 hsz
def Tryz.laysM171_ren:Go.Shelf.Ren:=⟨fun|171=>32|243=>75|246=>139|283=>195|284=>196|285=>197|286=>198|129=>263|317=>273|318=>274|319=>275|320=>276|337=>339|338=>340|n=>n,fun|3=>3|9=>9|2=>2|4=>4|171=>308|0=>0|53=>23|37=>22|5=>5|173=>311|212=>384|51=>376|20=>20|213=>385|46=>169|232=>484|233=>485|n=>n,fun|17=>5|18=>6|19=>7|n=>n⟩
theorem Tryz.laysM171:Go.Proofs.LaysM.n171 Tryz.prog Tryz.laysM171_ren:={
 mixed:=Kr,f129:=Kr,f171:=Kr,f243:=Kr,f246:=Kr,f283:=Kr,f284:=Kr,f285:=Kr,f286:=Kr,f317:=Kr,f318:=Kr,f319:=Kr,f320:=Kr,f337:=Kr,f338:=Kr,t0:=Kr,a0:=Ku,z0:=Ku,v0:=Ku,t2:=Kr,a2:=Ku,z2:=Ku,v2:=Ku,t3:=Kr,a3:=Ku,z3:=Ku,v3:=Ku,t4:=Kr,a4:=Ku,z4:=Ku,v4:=Ku,t5:=Kr,a5:=Ku,z5:=Ku,v5:=Ku,t9:=Kr,a9:=Ku,z9:=Ku,v9:=Ku,t20:=Kr,a20:=Ku,z20:=Ku,v20:=Ku,t37:=Kr,a37:=Ku,z37:=Ku,v37:=Ku,t46:=Kr,a46:=Ku,z46:=Ku,v46:=Ku,t51:=Kr,a51:=Ku,z51:=Ku,v51:=Ku,t53:=Kr,a53:=Ku,z53:=Ku,v53:=Ku,t171:=Kr,a171:=Ku,z171:=Ku,v171:=Ku,t173:=Kr,a173:=Ku,z173:=Ku,v173:=Ku,t212:=Kr,a212:=Ku,z212:=Ku,v212:=Ku,t213:=Kr,a213:=Ku,z213:=Ku,t232:=Kr,a232:=Ku,z232:=Ku,v232:=Ku,t233:=Kr,a233:=Ku,z233:=Ku,v233:=Ku,g17:=Kr,g18:=Kr,g19:=Kr,i0:=Kr,i2:=Kr,i3:=Kr,i4:=Kr,i5:=Kr,i9:=Kr,i20:=Kr,i37:=Kr,i46:=Kr,i51:=Kr,i53:=Kr,i171:=Kr,i173:=Kr,i212:=Kr,i232:=Kr,i233:=Kr,m17:=Kr,m18:=Kr
 m19:=by kernel_rfl }
open Go.RowKit Go.Sort Go.Lib in
theorem Tryz.strconv_Itoa(n:Int)(h0:-9223372036854775808≤n)(h1:n≤9223372036854775807)(w:World)(htab:Lib.TabIs Tryz.prog w "internal/strconv.uint64pow10" .u64 Lib.pow10Tab) :
 Calls Tryz.prog 32 #[Vj n] w fun e w'=>e=.returned (.string ⟨(Lib.itoa n).toArray⟩)/\∃k os,w'=grow (w.drewN k) os:=Any.strconv_Itoa Tryz.laysM171 n h0 h1 w htab
def Tryz.lays287_ren:Go.Shelf.Ren:=⟨fun|287=>80|321=>148|322=>149|n=>n,fun|9=>9|3=>3|53=>23|75=>111|4=>4|167=>256|5=>5|46=>169|37=>22|0=>0|21=>21|80=>266|n=>n,fun|n=>n⟩
theorem Tryz.lays287:Go.Proofs.Lays.n287 Tryz.prog Tryz.lays287_ren:={
 mixed:=Kr,f287:=Kr,f321:=Kr,f322:=Kr,t0:=Kr,a0:=Ku,z0:=Ku,v0:=Ku,t3:=Kr,a3:=Ku,z3:=Ku,v3:=Ku,t4:=Kr,a4:=Ku,z4:=Ku,v4:=Ku,t5:=Kr,a5:=Ku,z5:=Ku,v5:=Ku,t9:=Kr,a9:=Ku,z9:=Ku,v9:=Ku,t21:=Kr,a21:=Ku,z21:=Ku,v21:=Ku,t37:=Kr,a37:=Ku,z37:=Ku,v37:=Ku,t46:=Kr,a46:=Ku,z46:=Ku,v46:=Ku,t53:=Kr,a53:=Ku,z53:=Ku,v53:=Ku,t75:=Kr,a75:=Ku,z75:=Ku,v75:=Ku,t167:=Kr,a167:=Ku,z167:=Ku
 v167:=Tryz.zeroValue256 }
open Go.RowKit in
theorem Tryz.internal_strconv_ParseUint_10_at64(t:Bj)(hmax:t.size<=9223372036854775806)(w:World) :
 Calls Tryz.prog 80 #[.string t,Vj 10,Vj 64] w fun e w'=>e=.returned (Lib.uintTupleM 256 18446744073709551615 (Lib.parseUintB 64 t.data.toList))/\(w'=w\/w'=Lib.bytesWorld w 5 t):=Any.internal_strconv_ParseUint_10_at64 Tryz.lays287 t hmax w
def Tryz.lays145_ren:Go.Shelf.Ren:=⟨fun|145=>42|220=>86|219=>158|217=>215|225=>216|224=>217|267=>218|266=>290|314=>291|n=>n,fun|9=>9|4=>4|59=>119|3=>3|5=>5|46=>169|146=>407|51=>376|n=>n,fun|1=>4|n=>n⟩
theorem Tryz.lays145:Go.Proofs.Lays.n145 Tryz.prog Tryz.lays145_ren:={
 mixed:=Kr,f145:=Kr,f217:=Kr,f219:=Kr,f220:=Kr,f224:=Kr,f225:=Kr,f266:=Kr,f267:=Kr,f314:=Kr,t3:=Kr,a3:=Ku,z3:=Ku,v3:=Ku,t4:=Kr,a4:=Ku,z4:=Ku,v4:=Ku,t5:=Kr,a5:=Ku,z5:=Ku,v5:=Ku,t9:=Kr,a9:=Ku,z9:=Ku,v9:=Ku,t46:=Kr,a46:=Ku,z46:=Ku,v46:=Ku,t51:=Kr,a51:=Ku,z51:=Ku,v51:=Ku,t59:=Kr,a59:=Ku,z59:=Ku,v59:=Ku,t146:=Kr,a146:=Ku,z146:=Ku,v146:=Ku
 g1:=by kernel_rfl }
open Go.RowKit Go.Lib in
theorem Tryz.strings_Cut(s sep:Bj)(m:Int)(w:World)(hs:s.size<4294967281)(hm:w.cell? ⟨4,0,none⟩=some (Vj m)) :
 Calls Tryz.prog 42 #[.string s,.string sep] w fun e w'=>e=.returned (.tuple #[.string ⟨(Lib.cut s.data.toList sep.data.toList).1.toArray⟩,.string ⟨(Lib.cut s.data.toList sep.data.toList).2.1.toArray⟩,.bool (Lib.cut s.data.toList sep.data.toList).2.2])/\∃n,w'=w.drewN n:=Any.strings_Cut Tryz.lays145 s sep m w hs hm
def Tryz.lays101_ren:Go.Shelf.Ren:=⟨fun|101=>38|208=>82|206=>154|n=>n,fun|9=>9|4=>4|3=>3|n=>n,fun|n=>n⟩
theorem Tryz.lays101:Go.Proofs.Lays.n101 Tryz.prog Tryz.lays101_ren:={
 mixed:=Kr,f101:=Kr,f206:=Kr,f208:=Kr,t3:=Kr,a3:=Ku,z3:=Ku,v3:=Ku,t4:=Kr,a4:=Ku,z4:=Ku,v4:=Ku,t9:=Kr,a9:=Ku,z9:=Ku
 v9:=Tryz.zeroValue9 }
open Go.RowKit Go.Lib in
theorem Tryz.strings_TrimPrefix(s p:Bj)(w:World) :
 Calls Tryz.prog 38 #[.string s,.string p] w fun e w'=>e=.returned (.string ⟨(Lib.trimPrefix s.data.toList p.data.toList).toArray⟩)/\w'=w:=Any.strings_TrimPrefix Tryz.lays101 s p w
def Tryz.lays146_ren:Go.Shelf.Ren:=⟨fun|146=>84|221=>156|268=>211|138=>212|143=>213|195=>287|197=>288|218=>289|219=>158|260=>346|217=>215|225=>216|224=>217|267=>218|266=>290|314=>291|n=>n,fun|9=>9|31=>42|3=>3|4=>4|0=>0|105=>405|21=>21|5=>5|46=>169|119=>492|139=>495|138=>494|146=>407|51=>376|n=>n,fun|1=>4|3=>8|4=>9|n=>n⟩
theorem Tryz.lays146:Go.Proofs.Lays.n146 Tryz.prog Tryz.lays146_ren:={
 mixed:=Kr,f138:=Kr,f143:=Kr,f146:=Kr,f195:=Kr,f197:=Kr,f217:=Kr,f218:=Kr,f219:=Kr,f221:=Kr,f224:=Kr,f225:=Kr,f260:=Kr,f266:=Kr,f267:=Kr,f268:=Kr,f314:=Kr,t0:=Kr,a0:=Ku,z0:=Ku,v0:=Ku,t3:=Kr,a3:=Ku,z3:=Ku,v3:=Ku,t4:=Kr,a4:=Ku,z4:=Ku,v4:=Ku,t5:=Kr,a5:=Ku,z5:=Ku,v5:=Ku,t9:=Kr,a9:=Ku,z9:=Ku,v9:=Ku,t21:=Kr,a21:=Ku,z21:=Ku,v21:=Ku,t31:=Kr,a31:=Ku,z31:=Ku,v31:=Ku,t46:=Kr,a46:=Ku,z46:=Ku,v46:=Ku,t51:=Kr,a51:=Ku,z51:=Ku,v51:=Ku,t105:=Kr,a105:=Ku,z105:=Ku,v105:=Ku,t119:=Kr,a119:=Ku,z119:=Ku,t138:=Kr,a138:=Ku,z138:=Ku,v138:=Ku,t139:=Kr,a139:=Ku,z139:=Ku,v139:=Ku,t146:=Kr,a146:=Ku,z146:=Ku,v146:=Ku,g1:=Kr,g3:=Kr
 g4:=by kernel_rfl }
open Go.RowKit Go.Lib in
theorem Tryz.strings_Split(s sep:Bj)(m:Int)(w:World)(hs:s.size<4294967281)(hm:w.cell? ⟨4,0,none⟩=some (Vj m))(h1:1<=sep.size) :
 Calls Tryz.prog 84 #[.string s,.string sep] w fun e w' =>
  e=.returned (.slice (some ⟨w.heap.size,0,none⟩) (Lib.countB s sep+1) (Lib.countB s sep+1))/\w'=w.alloc (.cells ((Lib.splitB sep 0 (Lib.countB s sep) s).map Value.string).toArray 9):=Any.strings_Split Tryz.lays146 Kr s sep m w hs hm h1
def Tryz.lays153_ren:Go.Shelf.Ren:=⟨fun|153=>170|152=>224|226=>225|227=>226|228=>227|137=>295|119=>296|224=>217|225=>216|217=>215|266=>290|n=>n,fun|9=>9|3=>3|4=>4|5=>5|21=>21|117=>335|116=>334|0=>0|46=>169|124=>413|n=>n,fun|n=>n⟩
theorem Tryz.lays153:Go.Proofs.Lays.n153 Tryz.prog Tryz.lays153_ren:={
 mixed:=Kr,f119:=Kr,f137:=Kr,f152:=Kr,f153:=Kr,f217:=Kr,f224:=Kr,f225:=Kr,f226:=Kr,f227:=Kr,f228:=Kr,f266:=Kr,t0:=Kr,a0:=Ku,z0:=Ku,v0:=Ku,t3:=Kr,a3:=Ku,z3:=Ku,v3:=Ku,t4:=Kr,a4:=Ku,z4:=Ku,v4:=Ku,t5:=Kr,a5:=Ku,z5:=Ku,v5:=Ku,t9:=Kr,a9:=Ku,z9:=Ku,v9:=Ku,t21:=Kr,a21:=Ku,z21:=Ku,v21:=Ku,t46:=Kr,a46:=Ku,z46:=Ku,v46:=Ku,t116:=Kr,a116:=Ku,z116:=Ku,t117:=Kr,a117:=Ku,z117:=Ku,v117:=Ku,t124:=Kr,a124:=Ku,z124:=Ku
 v124:=Tryz.zeroValue413 }
open Go.RowKit Go.Lib in
theorem Tryz.strings_IndexAny_short(s chars:Bj)(w:World)(h2:2<=chars.size)(h8:s.size<=8)(hascii:∀(j:Nat) b,s.data.toList[j]?=some b->b.toNat<128) :
 Calls Tryz.prog 170 #[.string s,.string chars] w fun e w'=>e=.returned (Vj (Lib.indexAny s.data.toList chars.data.toList))/\∃pos,w'=w.iter s pos:=Any.strings_IndexAny_short Tryz.lays153 s chars w h2 h8 hascii
def Tryz.lays110_ren:Go.Shelf.Ren:=⟨fun|110=>29|109=>70|n=>n,fun|31=>42|9=>9|4=>4|3=>3|0=>0|n=>n,fun|n=>n⟩
theorem Tryz.lays110:Go.Proofs.Lays.n110 Tryz.prog Tryz.lays110_ren:={
 mixed:=Kr,f109:=Kr,f110:=Kr,t0:=Kr,a0:=Ku,z0:=Ku,v0:=Ku,t3:=Kr,a3:=Ku,z3:=Ku,v3:=Ku,t4:=Kr,a4:=Ku,z4:=Ku,v4:=Ku,t9:=Kr,a9:=Ku,z9:=Ku,v9:=Ku,t31:=Kr,a31:=Ku,z31:=Ku
 v31:=Tryz.zeroValue42 }
open Go.Lib in
theorem Tryz.slices_Contains_string(b off n c:Nat)(zs:List Bj)(x:Bj)(w:World)(hz:n<=zs.length)(hbig:n<=9223372036854775807)(hc:∀j,j<zs.length->w.cell? ⟨b,off+j,none⟩=some (.string (zs.getD j ByteArray.empty))) :
 Calls Tryz.prog 29 #[.slice (some ⟨b,off,none⟩) n c,.string x] w fun e w'=>e=.returned (.bool (Lib.containsS (zs.take n) x))/\w'=w:=Any.slices_Contains_string Tryz.lays110 b off n c zs x w hz hbig hc
open Go.Lib in
theorem Tryz.slices_Contains_string_empty(a:Option Addr)(c:Nat)(x:Bj)(w:World) :
 Calls Tryz.prog 29 #[.slice a 0 c,.string x] w fun e w'=>e=.returned (.bool false)/\w'=w:=Any.slices_Contains_string_empty Tryz.lays110 a c x w
def Tryz.laysNm220_ren:Go.Shelf.Ren:=⟨fun|20=>286|n=>n,fun|22=>52|3=>3|4=>4|0=>0|n=>n,fun|n=>n⟩
theorem Tryz.laysNm220:Go.Proofs.Lays2.n20 Tryz.prog Tryz.laysNm220_ren:={
 mixed:=Kr,f20:=Kr,t0:=Kr,a0:=Ku,z0:=Ku,v0:=Ku,t3:=Kr,a3:=Ku,z3:=Ku,v3:=Ku,t4:=Kr,a4:=Ku,z4:=Ku,v4:=Ku,t22:=Kr,a22:=Ku,z22:=Ku,v22:=Ku
 i3:=by kernel_rfl }
def Tryz.lays194_ren:Go.Shelf.Ren:=⟨fun|194=>306|n=>n,fun|31=>42|9=>9|3=>3|4=>4|0=>0|n=>n,fun|n=>n⟩
theorem Tryz.lays194:Go.Proofs.Lays.n194 Tryz.prog Tryz.lays194_ren:={
 mixed:=Kr,f194:=Kr,t0:=Kr,a0:=Ku,z0:=Ku,v0:=Ku,t3:=Kr,a3:=Ku,z3:=Ku,v3:=Ku,t4:=Kr,a4:=Ku,z4:=Ku,v4:=Ku,t9:=Kr,a9:=Ku,z9:=Ku,v9:=Ku,t31:=Kr,a31:=Ku,z31:=Ku
 v31:=Tryz.zeroValue42 }
open Go.RowKit Go.Lib Go.Sort in
theorem Tryz.slices_Compact_string(blk off cap:Nat)(zs:List (List UInt8))(w:World)(hH:Holds encStr w blk off zs.toArray)(hsz:zs.length<=9223372036854775807)(hcap:zs.length<=cap) :
 Calls Tryz.prog 306 #[.slice (some ⟨blk,off,none⟩) zs.length cap] w fun e w'=>e=.returned (.slice (some ⟨blk,off,none⟩) (Lib.compact zs).length cap)/\∃q,w'=putRow encStr (Sort.ahead w q) blk off (Lib.compact zs++List.replicate (zs.length-(Lib.compact zs).length) []).toArray:=Any.slices_Compact_string Tryz.lays194 blk off cap zs w hH hsz hcap
open Go.RowKit Go.Lib Go.Sort in
theorem Tryz.slices_Compact_string_empty(a:Option Addr)(cap:Nat)(w:World) :
 Calls Tryz.prog 306 #[.slice a 0 cap] w fun e w'=>e=.returned (.slice a 0 cap)/\w'=w:=Any.slices_Compact_string_empty Tryz.lays194 a cap w
open Go.RowKit Go.Lib Go.Sort in
theorem Tryz.slices_Compact_int_cells(b off n c:Nat)(zs:List Int)(w:World)(hz:n<=zs.length)(hbig:n<=9223372036854775807)(hcap:n<=c)(hc:∀j,j<zs.length->w.cell? ⟨b,off+j,none⟩=some (Vj (zs.getD j 0)))(hf:∀j,j<n->w.frozen? ⟨b,off+j,none⟩=false) :
 Calls Tryz.prog 286 #[.slice (some ⟨b,off,none⟩) n c] w fun e w'=>e=.returned (.slice (some ⟨b,off,none⟩) (Lib.compact (zs.take n)).length c)/\∃q,w'=(w.drewN q).setCells b off ((Lib.compact (zs.take n)++List.replicate (n-(Lib.compact (zs.take n)).length) 0).map (Value.int .i64)):=Any.slices_Compact_int_cells Tryz.laysNm220 b off n c zs w hz hbig hcap hc hf
