import Derived.Shelf.Strings.Builder1
import Derived.Shelf.Strings.Builder2
import Derived.Shelf.Strings.OnBuilder
import Derived.Shelf.Small.Utf8
import Derived.Shelf.Small.Bits
import Derived.Shelf.Small.Strs
import Derived.Shelf.Small.Wraps
import Derived.Shelf.Strconv.Atoi
import Derived.Shelf.Strconv.Itoa0
import Derived.Shelf.Strconv.Itoa1
import Derived.Shelf.LaysM
import Derived.Shelf.Strconv.Itoa2
import Derived.Shelf.Strconv.Itoa3
import Derived.Shelf.Strings.Search1
import Derived.Shelf.Strings.Search2
import Derived.Shelf.Strings.Search3
import Derived.Shelf.Strings.Cut
import Derived.Shelf.Strings.Count
import Derived.Shelf.Strings.Shaped
import Derived.Shelf.Strings.Split
import Derived.Shelf.Strings.SplitShaped
import Derived.Shelf.Strings.Runes
import Derived.Shelf.Strings.IndexAny
import Derived.Shelf.Strings.AsciiSet
import Derived.Shelf.Strings.IndexAnyAll
import Derived.Shelf.Unicode.DecodeSlow
import Derived.Shelf.Slices.Turned
import Derived.Ground.Names2Prog
import Derived.Shelf.Slices.CompactI
import Derived.Shelf.Slices.CompactS
import Derived.Shelf.Slices.Cells
import Derived.Test.YtpdonaienhociaaGreatDoorGA
import Derived.Test.YtpdonaienhociaaGreatDoorProg
set_option linter.all false
namespace Go.Proofs
open Go.Shelf
def Tryz.lays156_ren:Go.Shelf.Ren:=⟨fun | 156=>112 | 165=>179 | 166=>180 | 169=>181 | 240=>251 | 241=>252 | 276=>318 | 277=>319 | n=>n,fun | 31=>36 | 9=>9 | 3=>3 | 4=>4 | 0=>0 | 20=>20 | 72=>292 | 76=>296 | 70=>290 | 37=>22 | 75=>295 | 127=>364 | 164=>423 | 5=>5 | 80=>169 | n=>n,fun | n=>n⟩
theorem Tryz.lays156:Go.Proofs.Lays.n156 Tryz.prog Tryz.lays156_ren:={
 mixed:=Kr,f156:=Kr,f165:=Kr,f166:=Kr,f169:=Kr,f240:=Kr,f241:=Kr,f276:=Kr,f277:=Kr,t0:=Kr,a0:=Ku,z0:=Ku,v0:=Ku,t3:=Kr,a3:=Ku,z3:=Ku,v3:=Ku,t4:=Kr,a4:=Ku,z4:=Ku,v4:=Ku,t9:=Kr,a9:=Ku,z9:=Ku,v9:=Ku,t20:=Kr,a20:=Ku,z20:=Ku,v20:=Ku,t31:=Kr,a31:=Ku,z31:=Ku,v31:=Ku,t37:=Kr,a37:=Ku,z37:=Ku,v37:=Ku,t70:=Kr,a70:=Ku,z70:=Ku,v70:=Ku,t72:=Kr,a72:=Ku,z72:=Ku,v72:=Ku,t75:=Kr,a75:=Ku,z75:=Ku,v75:=Ku,t76:=Kr,a76:=Ku,z76:=Ku,v76:=Ku,t127:=Kr,a127:=Ku,z127:=Ku,v127:=Ku,t164:=Kr,a164:=Ku,z164:=Ku
 v164:=Tryz.zeroValue423 }
theorem Tryz.Builder_Extra_156:Builder.Extra Tryz.prog Tryz.lays156_ren:={
 sizeBuilder:=Kr,liesBuilder:=Kr,t5:=Kr,a5:=Ku,z5:=Ku,v5:=Ku,infoByte:=Kr,cellsByte:=Kr,sizeByte:=Kr
 neB5:=by decide }
open Go.RowKit in
theorem Tryz.strings_Join (bk o c:Nat) (xs:List Bj) (sep:Bj) (w:World) (hcells:∀ (j:Nat) x,xs[j]? = some x->w.cell? ⟨bk,o+j,none⟩=some (.string x)) (hbk:bk<w.heap.size) (hN:xs.length<=140737488355328) (hcap:xs.length<=c) (hlen:(Lib.join (xs.map (·.data.toList)) sep.data.toList).length<=140737488355328) :
 Calls Tryz.prog 112 #[.slice (some ⟨bk,o,none⟩) xs.length c,.string sep] w fun e w'=>e = .returned (.string ⟨(Lib.join (xs.map (·.data.toList)) sep.data.toList).toArray⟩)/\Below w.heap.size w w':=Any.strings_Join Tryz.lays156 Tryz.Builder_Extra_156 bk o c xs sep w hcells hbk hN hcap hlen
def Tryz.lays213_ren:Go.Shelf.Ren:=⟨fun | 213=>178 | 265=>250 | n=>n,fun | 9=>9 | 3=>3 | n=>n,fun | n=>n⟩
def Tryz.lays106_ren:Go.Shelf.Ren:=⟨fun | 106=>111 | 213=>178 | 265=>250 | n=>n,fun | 9=>9 | 3=>3 | n=>n,fun | n=>n⟩
theorem Tryz.lays106:Go.Proofs.Lays.n106 Tryz.prog Tryz.lays106_ren:={
 mixed:=Kr,f106:=Kr,f213:=Kr,f265:=Kr,t3:=Kr,a3:=Ku,z3:=Ku,v3:=Ku,t9:=Kr,a9:=Ku,z9:=Ku
 v9:=Tryz.zeroValue9 }
open Go.RowKit in
theorem Tryz.strings_Compare (a b:Bj) (w:World) :
 Calls Tryz.prog 111 #[.string a,.string b] w fun e w'=>e = .returned (Vj (Lib.compareBytes a.data.toList b.data.toList))/\w'=w:=Any.strings_Compare Tryz.lays106 a b w
def Tryz.lays172_ren:Go.Shelf.Ren:=⟨fun | 172=>322 | 244=>365 | 245=>366 | 247=>399 | 279=>400 | 280=>401 | 281=>402 | 282=>403 | 287=>415 | 316=>416 | 171=>34 | 205=>417 | 321=>422 | 322=>423 | 243=>84 | 246=>140 | 283=>199 | 284=>200 | 285=>201 | 286=>202 | 129=>242 | 317=>276 | 318=>277 | 319=>278 | 320=>279 | 337=>332 | 338=>333 | n=>n,fun | 9=>9 | 3=>3 | 75=>295 | 76=>296 | 4=>4 | 5=>5 | 167=>488 | 37=>22 | 0=>0 | 85=>489 | 2=>2 | 168=>491 | 53=>30 | 175=>505 | 46=>184 | 210=>509 | 127=>364 | 145=>518 | 143=>516 | 21=>21 | 171=>316 | 173=>319 | 212=>382 | 51=>357 | 20=>20 | 213=>383 | 232=>465 | 233=>466 | 80=>169 | n=>n,fun | 15=>10 | 16=>11 | 17=>3 | 18=>6 | 19=>7 | n=>n⟩
theorem Tryz.lays172:Go.Proofs.Lays.n172 Tryz.prog Tryz.lays172_ren:={
 mixed:=Kr,f129:=Kr,f171:=Kr,f172:=Kr,f205:=Kr,f243:=Kr,f244:=Kr,f245:=Kr,f246:=Kr,f247:=Kr,f279:=Kr,f280:=Kr,f281:=Kr,f282:=Kr,f283:=Kr,f284:=Kr,f285:=Kr,f286:=Kr,f287:=Kr,f316:=Kr,f317:=Kr,f318:=Kr,f319:=Kr,f320:=Kr,f321:=Kr,f322:=Kr,f337:=Kr,f338:=Kr,t0:=Kr,a0:=Ku,z0:=Ku,v0:=Ku,t2:=Kr,a2:=Ku,z2:=Ku,v2:=Ku,t3:=Kr,a3:=Ku,z3:=Ku,v3:=Ku,t4:=Kr,a4:=Ku,z4:=Ku,v4:=Ku,t5:=Kr,a5:=Ku,z5:=Ku,v5:=Ku,t9:=Kr,a9:=Ku,z9:=Ku,v9:=Ku,t20:=Kr,a20:=Ku,z20:=Ku,v20:=Ku,t21:=Kr,a21:=Ku,z21:=Ku,v21:=Ku,t37:=Kr,a37:=Ku,z37:=Ku,v37:=Ku,t46:=Kr,a46:=Ku,z46:=Ku,v46:=Ku,t51:=Kr,a51:=Ku,z51:=Ku,v51:=Ku,t53:=Kr,a53:=Ku,z53:=Ku,v53:=Ku,t75:=Kr,a75:=Ku,z75:=Ku,v75:=Ku,t76:=Kr,a76:=Ku,z76:=Ku,v76:=Ku,t85:=Kr,a85:=Ku,z85:=Ku,v85:=Ku,t127:=Kr,a127:=Ku,z127:=Ku,v127:=Ku,t143:=Kr,a143:=Ku,z143:=Ku,v143:=Ku,t145:=Kr,a145:=Ku,z145:=Ku,v145:=Ku,t167:=Kr,a167:=Ku,z167:=Ku,v167:=Ku,t168:=Kr,a168:=Ku,z168:=Ku,v168:=Ku,t171:=Kr,a171:=Ku,z171:=Ku,v171:=Ku,t173:=Kr,a173:=Ku,z173:=Ku,v173:=Ku,t175:=Kr,a175:=Ku,z175:=Ku,v175:=Ku,t210:=Kr,a210:=Ku,z210:=Ku,v210:=Ku,t212:=Kr,a212:=Ku,z212:=Ku,v212:=Ku,t213:=Kr,a213:=Ku,z213:=Ku,t232:=Kr,a232:=Ku,z232:=Ku,v232:=Ku,t233:=Kr,a233:=Ku,z233:=Ku,v233:=Ku,g15:=Kr,g16:=Kr,g17:=Kr,g18:=Kr
 g19:=by kernel_rfl }
open Go.RowKit in
theorem Tryz.strconv_Atoi (s:Bj) (n:Int) (hl:s.size<=18) (h:Lib.atoi s.data.toList=some n) (w:World) :
 Calls Tryz.prog 322 #[.string s] w fun e w'=>e = .returned (.tuple #[Vj n,.nilIface])/\∃ t,w'=Lib.bytesWorld w 5 t:=Any.strconv_Atoi Tryz.lays172 s n hl h w
def Tryz.laysM246_ren:Go.Shelf.Ren:=⟨fun | 246=>140 | 283=>199 | 284=>200 | 285=>201 | 286=>202 | 129=>242 | 317=>276 | 318=>277 | 319=>278 | 320=>279 | 337=>332 | 338=>333 | n=>n,fun | 2=>2 | 3=>3 | 9=>9 | 4=>4 | 171=>316 | 0=>0 | 53=>30 | 37=>22 | 5=>5 | 173=>319 | 212=>382 | 51=>357 | 20=>20 | 213=>383 | 46=>184 | 232=>465 | 233=>466 | n=>n,fun | 17=>3 | 18=>6 | 19=>7 | n=>n⟩
def Tryz.laysM243_ren:Go.Shelf.Ren:=⟨fun | 243=>84 | 246=>140 | 283=>199 | 284=>200 | 285=>201 | 286=>202 | 129=>242 | 317=>276 | 318=>277 | 319=>278 | 320=>279 | 337=>332 | 338=>333 | n=>n,fun | 3=>3 | 9=>9 | 2=>2 | 4=>4 | 171=>316 | 0=>0 | 53=>30 | 37=>22 | 5=>5 | 173=>319 | 212=>382 | 51=>357 | 20=>20 | 213=>383 | 46=>184 | 232=>465 | 233=>466 | n=>n,fun | 17=>3 | 18=>6 | 19=>7 | n=>n⟩
def Tryz.laysM171_ren:Go.Shelf.Ren:=⟨fun | 171=>34 | 243=>84 | 246=>140 | 283=>199 | 284=>200 | 285=>201 | 286=>202 | 129=>242 | 317=>276 | 318=>277 | 319=>278 | 320=>279 | 337=>332 | 338=>333 | n=>n,fun | 3=>3 | 9=>9 | 2=>2 | 4=>4 | 171=>316 | 0=>0 | 53=>30 | 37=>22 | 5=>5 | 173=>319 | 212=>382 | 51=>357 | 20=>20 | 213=>383 | 46=>184 | 232=>465 | 233=>466 | n=>n,fun | 17=>3 | 18=>6 | 19=>7 | n=>n⟩
theorem Tryz.laysM171:Go.Proofs.LaysM.n171 Tryz.prog Tryz.laysM171_ren:={
 mixed:=Kr,f129:=Kr,f171:=Kr,f243:=Kr,f246:=Kr,f283:=Kr,f284:=Kr,f285:=Kr,f286:=Kr,f317:=Kr,f318:=Kr,f319:=Kr,f320:=Kr,f337:=Kr,f338:=Kr,t0:=Kr,a0:=Ku,z0:=Ku,v0:=Ku,t2:=Kr,a2:=Ku,z2:=Ku,v2:=Ku,t3:=Kr,a3:=Ku,z3:=Ku,v3:=Ku,t4:=Kr,a4:=Ku,z4:=Ku,v4:=Ku,t5:=Kr,a5:=Ku,z5:=Ku,v5:=Ku,t9:=Kr,a9:=Ku,z9:=Ku,v9:=Ku,t20:=Kr,a20:=Ku,z20:=Ku,v20:=Ku,t37:=Kr,a37:=Ku,z37:=Ku,v37:=Ku,t46:=Kr,a46:=Ku,z46:=Ku,v46:=Ku,t51:=Kr,a51:=Ku,z51:=Ku,v51:=Ku,t53:=Kr,a53:=Ku,z53:=Ku,v53:=Ku,t171:=Kr,a171:=Ku,z171:=Ku,v171:=Ku,t173:=Kr,a173:=Ku,z173:=Ku,v173:=Ku,t212:=Kr,a212:=Ku,z212:=Ku,v212:=Ku,t213:=Kr,a213:=Ku,z213:=Ku,t232:=Kr,a232:=Ku,z232:=Ku,v232:=Ku,t233:=Kr,a233:=Ku,z233:=Ku,v233:=Ku,g17:=Kr,g18:=Kr,g19:=Kr,i0:=Kr,i2:=Kr,i3:=Kr,i4:=Kr,i5:=Kr,i9:=Kr,i20:=Kr,i37:=Kr,i46:=Kr,i51:=Kr,i53:=Kr,i171:=Kr,i173:=Kr,i212:=Kr,i232:=Kr,i233:=Kr,m17:=Kr,m18:=Kr
 m19:=by kernel_rfl }
open Go.RowKit Go.Sort Go.Lib in
theorem Tryz.strconv_Itoa (n : Int) (h0 : -9223372036854775808 ≤ n) (h1 : n ≤ 9223372036854775807) (w : World) (htab : Lib.TabIs Tryz.prog w "internal/strconv.uint64pow10" .u64 Lib.pow10Tab) :
 Calls Tryz.prog 34 #[Vj n] w fun e w'=>e = .returned (.string ⟨(Lib.itoa n).toArray⟩)/\∃ k os,w'=grow (w.drewN k) os:=Any.strconv_Itoa Tryz.laysM171 n h0 h1 w htab
def Tryz.lays219_ren:Go.Shelf.Ren:=⟨fun | 219=>249 | 217=>255 | 225=>191 | 224=>190 | 267=>317 | 266=>321 | 314=>363 | n=>n,fun | 9=>9 | 3=>3 | 4=>4 | 5=>5 | 46=>184 | 146=>460 | 51=>357 | n=>n,fun | 1=>2 | n=>n⟩
def Tryz.lays145_ren:Go.Shelf.Ren:=⟨fun | 145=>107 | 220=>176 | 219=>249 | 217=>255 | 225=>191 | 224=>190 | 267=>317 | 266=>321 | 314=>363 | n=>n,fun | 9=>9 | 4=>4 | 59=>209 | 3=>3 | 5=>5 | 46=>184 | 146=>460 | 51=>357 | n=>n,fun | 1=>2 | n=>n⟩
theorem Tryz.lays145:Go.Proofs.Lays.n145 Tryz.prog Tryz.lays145_ren:={
 mixed:=Kr,f145:=Kr,f217:=Kr,f219:=Kr,f220:=Kr,f224:=Kr,f225:=Kr,f266:=Kr,f267:=Kr,f314:=Kr,t3:=Kr,a3:=Ku,z3:=Ku,v3:=Ku,t4:=Kr,a4:=Ku,z4:=Ku,v4:=Ku,t5:=Kr,a5:=Ku,z5:=Ku,v5:=Ku,t9:=Kr,a9:=Ku,z9:=Ku,v9:=Ku,t46:=Kr,a46:=Ku,z46:=Ku,v46:=Ku,t51:=Kr,a51:=Ku,z51:=Ku,v51:=Ku,t59:=Kr,a59:=Ku,z59:=Ku,v59:=Ku,t146:=Kr,a146:=Ku,z146:=Ku,v146:=Ku
 g1:=by kernel_rfl }
open Go.RowKit Go.Lib in
theorem Tryz.strings_Cut (s sep:Bj) (m:Int) (w:World) (hs:s.size<4294967281) (hm:w.cell? ⟨2,0,none⟩=some (Vj m)) :
 Calls Tryz.prog 107 #[.string s,.string sep] w fun e w'=>e = .returned (.tuple #[.string ⟨(Lib.cut s.data.toList sep.data.toList).1.toArray⟩,.string ⟨(Lib.cut s.data.toList sep.data.toList).2.1.toArray⟩,.bool (Lib.cut s.data.toList sep.data.toList).2.2])/\∃ n,w'=w.drewN n:=Any.strings_Cut Tryz.lays145 s sep m w hs hm
def Tryz.lays221_ren:Go.Shelf.Ren:=⟨fun | 221=>194 | 268=>265 | 138=>266 | 143=>267 | 195=>326 | 197=>327 | 218=>328 | 219=>249 | 260=>368 | 217=>255 | 225=>191 | 224=>190 | 267=>317 | 266=>321 | 314=>363 | n=>n,fun | 9=>9 | 3=>3 | 31=>36 | 4=>4 | 0=>0 | 105=>434 | 21=>21 | 5=>5 | 46=>184 | 119=>494 | 139=>497 | 138=>496 | 146=>460 | 51=>357 | n=>n,fun | 1=>2 | 3=>8 | 4=>9 | n=>n⟩
def Tryz.lays146_ren:Go.Shelf.Ren:=⟨fun | 146=>131 | 221=>194 | 268=>265 | 138=>266 | 143=>267 | 195=>326 | 197=>327 | 218=>328 | 219=>249 | 260=>368 | 217=>255 | 225=>191 | 224=>190 | 267=>317 | 266=>321 | 314=>363 | n=>n,fun | 9=>9 | 31=>36 | 3=>3 | 4=>4 | 0=>0 | 105=>434 | 21=>21 | 5=>5 | 46=>184 | 119=>494 | 139=>497 | 138=>496 | 146=>460 | 51=>357 | n=>n,fun | 1=>2 | 3=>8 | 4=>9 | n=>n⟩
theorem Tryz.lays146:Go.Proofs.Lays.n146 Tryz.prog Tryz.lays146_ren:={
 mixed:=Kr,f138:=Kr,f143:=Kr,f146:=Kr,f195:=Kr,f197:=Kr,f217:=Kr,f218:=Kr,f219:=Kr,f221:=Kr,f224:=Kr,f225:=Kr,f260:=Kr,f266:=Kr,f267:=Kr,f268:=Kr,f314:=Kr,t0:=Kr,a0:=Ku,z0:=Ku,v0:=Ku,t3:=Kr,a3:=Ku,z3:=Ku,v3:=Ku,t4:=Kr,a4:=Ku,z4:=Ku,v4:=Ku,t5:=Kr,a5:=Ku,z5:=Ku,v5:=Ku,t9:=Kr,a9:=Ku,z9:=Ku,v9:=Ku,t21:=Kr,a21:=Ku,z21:=Ku,v21:=Ku,t31:=Kr,a31:=Ku,z31:=Ku,v31:=Ku,t46:=Kr,a46:=Ku,z46:=Ku,v46:=Ku,t51:=Kr,a51:=Ku,z51:=Ku,v51:=Ku,t105:=Kr,a105:=Ku,z105:=Ku,v105:=Ku,t119:=Kr,a119:=Ku,z119:=Ku,t138:=Kr,a138:=Ku,z138:=Ku,v138:=Ku,t139:=Kr,a139:=Ku,z139:=Ku,v139:=Ku,t146:=Kr,a146:=Ku,z146:=Ku,v146:=Ku,g1:=Kr,g3:=Kr
 g4:=by kernel_rfl }
open Go.RowKit Go.Lib in
theorem Tryz.strings_Split (s sep:Bj) (m:Int) (w:World) (hs:s.size<4294967281) (hm:w.cell? ⟨2,0,none⟩=some (Vj m)) (h1:1<=sep.size) :
 Calls Tryz.prog 131 #[.string s,.string sep] w fun e w' =>
  e = .returned (.slice (some ⟨w.heap.size,0,none⟩) (Lib.countB s sep+1) (Lib.countB s sep+1))/\w'=w.alloc (.cells ((Lib.splitB sep 0 (Lib.countB s sep) s).map Value.string).toArray 9):=Any.strings_Split Tryz.lays146 Kr s sep m w hs hm h1
def Tryz.lays153_ren:Go.Shelf.Ren:=⟨fun | 153=>69 | 152=>122 | 226=>123 | 227=>124 | 228=>125 | 137=>188 | 119=>189 | 224=>190 | 225=>191 | 217=>255 | 266=>321 | n=>n,fun | 9=>9 | 3=>3 | 4=>4 | 5=>5 | 21=>21 | 117=>223 | 116=>222 | 0=>0 | 46=>184 | 124=>306 | n=>n,fun | n=>n⟩
theorem Tryz.lays153:Go.Proofs.Lays.n153 Tryz.prog Tryz.lays153_ren:={
 mixed:=Kr,f119:=Kr,f137:=Kr,f152:=Kr,f153:=Kr,f217:=Kr,f224:=Kr,f225:=Kr,f226:=Kr,f227:=Kr,f228:=Kr,f266:=Kr,t0:=Kr,a0:=Ku,z0:=Ku,v0:=Ku,t3:=Kr,a3:=Ku,z3:=Ku,v3:=Ku,t4:=Kr,a4:=Ku,z4:=Ku,v4:=Ku,t5:=Kr,a5:=Ku,z5:=Ku,v5:=Ku,t9:=Kr,a9:=Ku,z9:=Ku,v9:=Ku,t21:=Kr,a21:=Ku,z21:=Ku,v21:=Ku,t46:=Kr,a46:=Ku,z46:=Ku,v46:=Ku,t116:=Kr,a116:=Ku,z116:=Ku,t117:=Kr,a117:=Ku,z117:=Ku,v117:=Ku,t124:=Kr,a124:=Ku,z124:=Ku
 v124:=Tryz.zeroValue306 }
open Go.RowKit Go.Lib in
theorem Tryz.strings_IndexAny_short (s chars:Bj) (w:World) (h2:2<=chars.size) (h8:s.size<=8) (hascii:∀ (j:Nat) b,s.data.toList[j]? = some b->b.toNat<128) :
 Calls Tryz.prog 69 #[.string s,.string chars] w fun e w'=>e = .returned (Vj (Lib.indexAny s.data.toList chars.data.toList))/\∃ pos,w'=w.iter s pos:=Any.strings_IndexAny_short Tryz.lays153 s chars w h2 h8 hascii
def Tryz.lays110_ren:Go.Shelf.Ren:=⟨fun | 110=>31 | 109=>79 | n=>n,fun | 31=>36 | 9=>9 | 4=>4 | 3=>3 | 0=>0 | n=>n,fun | n=>n⟩
theorem Tryz.lays110:Go.Proofs.Lays.n110 Tryz.prog Tryz.lays110_ren:={
 mixed:=Kr,f109:=Kr,f110:=Kr,t0:=Kr,a0:=Ku,z0:=Ku,v0:=Ku,t3:=Kr,a3:=Ku,z3:=Ku,v3:=Ku,t4:=Kr,a4:=Ku,z4:=Ku,v4:=Ku,t9:=Kr,a9:=Ku,z9:=Ku,v9:=Ku,t31:=Kr,a31:=Ku,z31:=Ku
 v31:=Tryz.zeroValue36 }
open Go.Lib in
theorem Tryz.slices_Contains_string (b off n c:Nat) (zs:List Bj) (x:Bj) (w:World) (hz:n<=zs.length) (hbig:n<=9223372036854775807) (hc:∀ j,j<zs.length->w.cell? ⟨b,off+j,none⟩=some (.string (zs.getD j ByteArray.empty))) :
 Calls Tryz.prog 31 #[.slice (some ⟨b,off,none⟩) n c,.string x] w fun e w'=>e = .returned (.bool (Lib.containsS (zs.take n) x))/\w'=w:=Any.slices_Contains_string Tryz.lays110 b off n c zs x w hz hbig hc
open Go.Lib in
theorem Tryz.slices_Contains_string_empty (a:Option Addr) (c:Nat) (x:Bj) (w:World) :
 Calls Tryz.prog 31 #[.slice a 0 c,.string x] w fun e w'=>e = .returned (.bool false)/\w'=w:=Any.slices_Contains_string_empty Tryz.lays110 a c x w
def Tryz.lays194_ren:Go.Shelf.Ren:=⟨fun | 194=>221 | n=>n,fun | 31=>36 | 9=>9 | 3=>3 | 4=>4 | 0=>0 | n=>n,fun | n=>n⟩
theorem Tryz.lays194:Go.Proofs.Lays.n194 Tryz.prog Tryz.lays194_ren:={
 mixed:=Kr,f194:=Kr,t0:=Kr,a0:=Ku,z0:=Ku,v0:=Ku,t3:=Kr,a3:=Ku,z3:=Ku,v3:=Ku,t4:=Kr,a4:=Ku,z4:=Ku,v4:=Ku,t9:=Kr,a9:=Ku,z9:=Ku,v9:=Ku,t31:=Kr,a31:=Ku,z31:=Ku
 v31:=Tryz.zeroValue36 }
open Go.RowKit Go.Lib Go.Sort in
theorem Tryz.slices_Compact_string (blk off cap:Nat) (zs:List (List UInt8)) (w:World) (hH:Holds encStr w blk off zs.toArray) (hsz:zs.length<=9223372036854775807) (hcap:zs.length<=cap) :
 Calls Tryz.prog 221 #[.slice (some ⟨blk,off,none⟩) zs.length cap] w fun e w'=>e = .returned (.slice (some ⟨blk,off,none⟩) (Lib.compact zs).length cap)/\∃ q,w'=putRow encStr (Sort.ahead w q) blk off (Lib.compact zs++List.replicate (zs.length-(Lib.compact zs).length) []).toArray:=Any.slices_Compact_string Tryz.lays194 blk off cap zs w hH hsz hcap
open Go.RowKit Go.Lib Go.Sort in
theorem Tryz.slices_Compact_string_empty (a:Option Addr) (cap:Nat) (w:World) :
 Calls Tryz.prog 221 #[.slice a 0 cap] w fun e w'=>e = .returned (.slice a 0 cap)/\w'=w:=Any.slices_Compact_string_empty Tryz.lays194 a cap w
