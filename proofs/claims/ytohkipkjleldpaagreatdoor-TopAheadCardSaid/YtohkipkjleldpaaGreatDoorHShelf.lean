/-
  DERIVED: THE SHELF's CONTRACTS AT THIS DUMP, IN PLAIN WORDS (tools/lay-plain.mjs out of 'TryzShelf.lean', which tools/lay-shelf.mjs wrote): THE SAME DECLARATIONS UNDER THE SAME NAMES: 'import', 'namespace', 'open', 'def', 'theorem' AND NOTHING ELSE: no command of the shelf's: FOR A HAND-IN. Each laying: the table of numbers ('.._ren') and one theorem, a field a fact of the dump's own or the kernel's comparison; each contract: ONE APPLICATION.
-/
import Derived.Shelf.Strings.Builder1
import Derived.Shelf.Strings.Builder2
import Derived.Shelf.Strings.OnBuilder
import Derived.Shelf.Small.Bits
import Derived.Shelf.Small.Strs
import Derived.Shelf.Small.Wraps
import Derived.Shelf.Strconv.Atoi
import Derived.Shelf.Strconv.Itoa0
import Derived.Shelf.Strconv.Itoa1
import Derived.Shelf.LaysM
import Derived.Shelf.Strconv.Itoa2
import Derived.Shelf.Strconv.Itoa3
import Derived.Shelf.Strings.Search1
import Derived.Shelf.Strings.Search2
import Derived.Shelf.Strings.Search3
import Derived.Shelf.Strings.Cut
import Derived.Shelf.Strings.Count
import Derived.Shelf.Strings.Shaped
import Derived.Shelf.Strings.Split
import Derived.Shelf.Strings.SplitShaped
import Derived.Shelf.Slices.Turned
import Derived.Ground.Names2Prog
import Derived.Shelf.Slices.CompactI
import Derived.Shelf.Slices.CompactS
import Derived.Shelf.Slices.Cells
import Derived.Test.YtohkipkjleldpaaGreatDoorProg
namespace Go.Proofs
open Go.Shelf
def Tryz.lays156_ren:Go.Shelf.Ren:=⟨fun | 156=>93 | 165=>152 | 166=>153 | 169=>154 | 240=>217 | 241=>218 | 276=>292 | 277=>293 | n=>n,fun | 31=>60 | 9=>9 | 3=>3 | 4=>4 | 0=>0 | 20=>20 | 72=>273 | 76=>277 | 70=>271 | 37=>22 | 75=>276 | 127=>335 | 164=>411 | 5=>5 | 80=>279 | n=>n,fun | n=>n⟩
theorem Tryz.lays156:Go.Proofs.Lays.n156 Tryz.prog Tryz.lays156_ren:={
 mixed:=by kernel_rfl
 f156:=Tryz.func93.trans (congrArg some (by kernel_rfl))
 f165:=Tryz.func152.trans (congrArg some (by kernel_rfl))
 f166:=Tryz.func153.trans (congrArg some (by kernel_rfl))
 f169:=Tryz.func154.trans (congrArg some (by kernel_rfl))
 f240:=Tryz.func217.trans (congrArg some (by kernel_rfl))
 f241:=Tryz.func218.trans (congrArg some (by kernel_rfl))
 f276:=Tryz.func292.trans (congrArg some (by kernel_rfl))
 f277:=Tryz.func293.trans (congrArg some (by kernel_rfl))
 t0:=Tryz.underlying0
 a0:=Tryz.isAgg0
 z0:=Tryz.sizeOf0
 v0:=Tryz.zeroValue0
 t3:=Tryz.underlying3
 a3:=Tryz.isAgg3
 z3:=Tryz.sizeOf3
 v3:=Tryz.zeroValue3
 t4:=Tryz.underlying4
 a4:=Tryz.isAgg4
 z4:=Tryz.sizeOf4
 v4:=Tryz.zeroValue4
 t9:=Tryz.underlying9
 a9:=Tryz.isAgg9
 z9:=Tryz.sizeOf9
 v9:=Tryz.zeroValue9
 t20:=Tryz.underlying20
 a20:=Tryz.isAgg20
 z20:=Tryz.sizeOf20
 v20:=Tryz.zeroValue20
 t31:=Tryz.underlying60
 a31:=Tryz.isAgg60
 z31:=Tryz.sizeOf60
 v31:=Tryz.zeroValue60
 t37:=Tryz.underlying22
 a37:=Tryz.isAgg22
 z37:=Tryz.sizeOf22
 v37:=Tryz.zeroValue22
 t70:=Tryz.underlying271
 a70:=Tryz.isAgg271
 z70:=Tryz.sizeOf271
 v70:=Tryz.zeroValue271
 t72:=Tryz.underlying273
 a72:=Tryz.isAgg273
 z72:=Tryz.sizeOf273
 v72:=Tryz.zeroValue273
 t75:=Tryz.underlying276
 a75:=Tryz.isAgg276
 z75:=Tryz.sizeOf276
 v75:=Tryz.zeroValue276
 t76:=Tryz.underlying277
 a76:=Tryz.isAgg277
 z76:=Tryz.sizeOf277
 v76:=Tryz.zeroValue277
 t127:=Tryz.underlying335
 a127:=Tryz.isAgg335
 z127:=Tryz.sizeOf335
 v127:=Tryz.zeroValue335
 t164:=Tryz.underlying411
 a164:=Tryz.isAgg411
 z164:=Tryz.sizeOf411
 v164:=Tryz.zeroValue411 }
theorem Tryz.Builder_Extra_156:Builder.Extra Tryz.prog Tryz.lays156_ren:={
 sizeBuilder:=by kernel_rfl
 liesBuilder:=by kernel_rfl
 t5:=Tryz.underlying5
 a5:=Tryz.isAgg5
 z5:=Tryz.sizeOf5
 v5:=Tryz.zeroValue5
 infoByte:=by kernel_rfl
 cellsByte:=by kernel_rfl
 sizeByte:=by kernel_rfl
 neB5:=by decide }
open Go.RowKit in
theorem Tryz.strings_Join (bk o c:Nat) (xs:List ByteArray) (sep:ByteArray) (w:World) (hcells:∀ (j:Nat) x,xs[j]? = some x→w.cell? ⟨bk,o+j,none⟩=some (.string x)) (hbk:bk<w.heap.size) (hN:xs.length≤140737488355328) (hcap:xs.length≤c) (hlen:(Lib.join (xs.map (·.data.toList)) sep.data.toList).length≤140737488355328) :
 Calls Tryz.prog 93 #[.slice (some ⟨bk,o,none⟩) xs.length c,.string sep] w fun e w'=>e = .returned (.string ⟨(Lib.join (xs.map (·.data.toList)) sep.data.toList).toArray⟩)∧Below w.heap.size w w':=Any.strings_Join Tryz.lays156 Tryz.Builder_Extra_156 bk o c xs sep w hcells hbk hN hcap hlen
def Tryz.lays106_ren:Go.Shelf.Ren:=⟨fun | 106=>69 | 213=>109 | 265=>181 | n=>n,fun | 9=>9 | 3=>3 | n=>n,fun | n=>n⟩
theorem Tryz.lays106:Go.Proofs.Lays.n106 Tryz.prog Tryz.lays106_ren:={
 mixed:=by kernel_rfl
 f106:=Tryz.func69.trans (congrArg some (by kernel_rfl))
 f213:=Tryz.func109.trans (congrArg some (by kernel_rfl))
 f265:=Tryz.func181.trans (congrArg some (by kernel_rfl))
 t3:=Tryz.underlying3
 a3:=Tryz.isAgg3
 z3:=Tryz.sizeOf3
 v3:=Tryz.zeroValue3
 t9:=Tryz.underlying9
 a9:=Tryz.isAgg9
 z9:=Tryz.sizeOf9
 v9:=Tryz.zeroValue9 }
open Go.RowKit in
theorem Tryz.strings_Compare (a b:ByteArray) (w:World) :
 Calls Tryz.prog 69 #[.string a,.string b] w fun e w'=>e = .returned (.int .i64 (Lib.compareBytes a.data.toList b.data.toList))∧w'=w:=Any.strings_Compare Tryz.lays106 a b w
def Tryz.lays172_ren:Go.Shelf.Ren:=⟨fun | 172=>371 | 244=>398 | 245=>399 | 247=>426 | 279=>427 | 280=>428 | 281=>429 | 282=>430 | 287=>448 | 316=>449 | 171=>45 | 205=>450 | 321=>456 | 322=>457 | 243=>88 | 246=>142 | 283=>204 | 284=>205 | 285=>206 | 286=>207 | 129=>171 | 317=>278 | 318=>279 | 319=>280 | 320=>281 | 337=>334 | 338=>335 | n=>n,fun | 9=>9 | 3=>3 | 75=>276 | 76=>277 | 4=>4 | 5=>5 | 167=>527 | 37=>22 | 0=>0 | 85=>528 | 2=>2 | 168=>530 | 53=>30 | 175=>544 | 46=>183 | 210=>548 | 127=>335 | 145=>557 | 143=>555 | 21=>21 | 171=>325 | 173=>327 | 212=>393 | 51=>298 | 20=>20 | 213=>394 | 232=>476 | 233=>477 | 80=>279 | n=>n,fun | 15=>10 | 16=>11 | 17=>3 | 18=>4 | 19=>5 | n=>n⟩
theorem Tryz.lays172:Go.Proofs.Lays.n172 Tryz.prog Tryz.lays172_ren:={
 mixed:=by kernel_rfl
 f129:=Tryz.func171.trans (congrArg some (by kernel_rfl))
 f171:=Tryz.func45.trans (congrArg some (by kernel_rfl))
 f172:=Tryz.func371.trans (congrArg some (by kernel_rfl))
 f205:=Tryz.func450.trans (congrArg some (by kernel_rfl))
 f243:=Tryz.func88.trans (congrArg some (by kernel_rfl))
 f244:=Tryz.func398.trans (congrArg some (by kernel_rfl))
 f245:=Tryz.func399.trans (congrArg some (by kernel_rfl))
 f246:=Tryz.func142.trans (congrArg some (by kernel_rfl))
 f247:=Tryz.func426.trans (congrArg some (by kernel_rfl))
 f279:=Tryz.func427.trans (congrArg some (by kernel_rfl))
 f280:=Tryz.func428.trans (congrArg some (by kernel_rfl))
 f281:=Tryz.func429.trans (congrArg some (by kernel_rfl))
 f282:=Tryz.func430.trans (congrArg some (by kernel_rfl))
 f283:=Tryz.func204.trans (congrArg some (by kernel_rfl))
 f284:=Tryz.func205.trans (congrArg some (by kernel_rfl))
 f285:=Tryz.func206.trans (congrArg some (by kernel_rfl))
 f286:=Tryz.func207.trans (congrArg some (by kernel_rfl))
 f287:=Tryz.func448.trans (congrArg some (by kernel_rfl))
 f316:=Tryz.func449.trans (congrArg some (by kernel_rfl))
 f317:=Tryz.func278.trans (congrArg some (by kernel_rfl))
 f318:=Tryz.func279.trans (congrArg some (by kernel_rfl))
 f319:=Tryz.func280.trans (congrArg some (by kernel_rfl))
 f320:=Tryz.func281.trans (congrArg some (by kernel_rfl))
 f321:=Tryz.func456.trans (congrArg some (by kernel_rfl))
 f322:=Tryz.func457.trans (congrArg some (by kernel_rfl))
 f337:=Tryz.func334.trans (congrArg some (by kernel_rfl))
 f338:=Tryz.func335.trans (congrArg some (by kernel_rfl))
 t0:=Tryz.underlying0
 a0:=Tryz.isAgg0
 z0:=Tryz.sizeOf0
 v0:=Tryz.zeroValue0
 t2:=Tryz.underlying2
 a2:=Tryz.isAgg2
 z2:=Tryz.sizeOf2
 v2:=Tryz.zeroValue2
 t3:=Tryz.underlying3
 a3:=Tryz.isAgg3
 z3:=Tryz.sizeOf3
 v3:=Tryz.zeroValue3
 t4:=Tryz.underlying4
 a4:=Tryz.isAgg4
 z4:=Tryz.sizeOf4
 v4:=Tryz.zeroValue4
 t5:=Tryz.underlying5
 a5:=Tryz.isAgg5
 z5:=Tryz.sizeOf5
 v5:=Tryz.zeroValue5
 t9:=Tryz.underlying9
 a9:=Tryz.isAgg9
 z9:=Tryz.sizeOf9
 v9:=Tryz.zeroValue9
 t20:=Tryz.underlying20
 a20:=Tryz.isAgg20
 z20:=Tryz.sizeOf20
 v20:=Tryz.zeroValue20
 t21:=Tryz.underlying21
 a21:=Tryz.isAgg21
 z21:=Tryz.sizeOf21
 v21:=Tryz.zeroValue21
 t37:=Tryz.underlying22
 a37:=Tryz.isAgg22
 z37:=Tryz.sizeOf22
 v37:=Tryz.zeroValue22
 t46:=Tryz.underlying183
 a46:=Tryz.isAgg183
 z46:=Tryz.sizeOf183
 v46:=Tryz.zeroValue183
 t51:=Tryz.underlying298
 a51:=Tryz.isAgg298
 z51:=Tryz.sizeOf298
 v51:=Tryz.zeroValue298
 t53:=Tryz.underlying30
 a53:=Tryz.isAgg30
 z53:=Tryz.sizeOf30
 v53:=Tryz.zeroValue30
 t75:=Tryz.underlying276
 a75:=Tryz.isAgg276
 z75:=Tryz.sizeOf276
 v75:=Tryz.zeroValue276
 t76:=Tryz.underlying277
 a76:=Tryz.isAgg277
 z76:=Tryz.sizeOf277
 v76:=Tryz.zeroValue277
 t85:=Tryz.underlying528
 a85:=Tryz.isAgg528
 z85:=Tryz.sizeOf528
 v85:=Tryz.zeroValue528
 t127:=Tryz.underlying335
 a127:=Tryz.isAgg335
 z127:=Tryz.sizeOf335
 v127:=Tryz.zeroValue335
 t143:=Tryz.underlying555
 a143:=Tryz.isAgg555
 z143:=Tryz.sizeOf555
 v143:=Tryz.zeroValue555
 t145:=Tryz.underlying557
 a145:=Tryz.isAgg557
 z145:=Tryz.sizeOf557
 v145:=Tryz.zeroValue557
 t167:=Tryz.underlying527
 a167:=Tryz.isAgg527
 z167:=Tryz.sizeOf527
 v167:=Tryz.zeroValue527
 t168:=Tryz.underlying530
 a168:=Tryz.isAgg530
 z168:=Tryz.sizeOf530
 v168:=Tryz.zeroValue530
 t171:=Tryz.underlying325
 a171:=Tryz.isAgg325
 z171:=Tryz.sizeOf325
 v171:=Tryz.zeroValue325
 t173:=Tryz.underlying327
 a173:=Tryz.isAgg327
 z173:=Tryz.sizeOf327
 v173:=Tryz.zeroValue327
 t175:=Tryz.underlying544
 a175:=Tryz.isAgg544
 z175:=Tryz.sizeOf544
 v175:=Tryz.zeroValue544
 t210:=Tryz.underlying548
 a210:=Tryz.isAgg548
 z210:=Tryz.sizeOf548
 v210:=Tryz.zeroValue548
 t212:=Tryz.underlying393
 a212:=Tryz.isAgg393
 z212:=Tryz.sizeOf393
 v212:=Tryz.zeroValue393
 t213:=Tryz.underlying394
 a213:=Tryz.isAgg394
 z213:=Tryz.sizeOf394
 t232:=Tryz.underlying476
 a232:=Tryz.isAgg476
 z232:=Tryz.sizeOf476
 v232:=Tryz.zeroValue476
 t233:=Tryz.underlying477
 a233:=Tryz.isAgg477
 z233:=Tryz.sizeOf477
 v233:=Tryz.zeroValue477
 g15:=by kernel_rfl
 g16:=by kernel_rfl
 g17:=by kernel_rfl
 g18:=by kernel_rfl
 g19:=by kernel_rfl }
open Go.RowKit in
theorem Tryz.strconv_Atoi (s:ByteArray) (n:Int) (hl:s.size≤18) (h:Lib.atoi s.data.toList=some n) (w:World) :
 Calls Tryz.prog 371 #[.string s] w fun e w'=>e = .returned (.tuple #[.int .i64 n,.nilIface])∧∃ t,w'=Lib.bytesWorld w 5 t:=Any.strconv_Atoi Tryz.lays172 s n hl h w
def Tryz.laysM171_ren:Go.Shelf.Ren:=⟨fun | 171=>45 | 243=>88 | 246=>142 | 283=>204 | 284=>205 | 285=>206 | 286=>207 | 129=>171 | 317=>278 | 318=>279 | 319=>280 | 320=>281 | 337=>334 | 338=>335 | n=>n,fun | 3=>3 | 9=>9 | 2=>2 | 4=>4 | 171=>325 | 0=>0 | 53=>30 | 37=>22 | 5=>5 | 173=>327 | 212=>393 | 51=>298 | 20=>20 | 213=>394 | 46=>183 | 232=>476 | 233=>477 | n=>n,fun | 17=>3 | 18=>4 | 19=>5 | n=>n⟩
theorem Tryz.laysM171:Go.Proofs.LaysM.n171 Tryz.prog Tryz.laysM171_ren:={
 mixed:=by kernel_rfl
 f129:=Tryz.func171.trans (congrArg some (by kernel_rfl))
 f171:=Tryz.func45.trans (congrArg some (by kernel_rfl))
 f243:=Tryz.func88.trans (congrArg some (by kernel_rfl))
 f246:=Tryz.func142.trans (congrArg some (by kernel_rfl))
 f283:=Tryz.func204.trans (congrArg some (by kernel_rfl))
 f284:=Tryz.func205.trans (congrArg some (by kernel_rfl))
 f285:=Tryz.func206.trans (congrArg some (by kernel_rfl))
 f286:=Tryz.func207.trans (congrArg some (by kernel_rfl))
 f317:=Tryz.func278.trans (congrArg some (by kernel_rfl))
 f318:=Tryz.func279.trans (congrArg some (by kernel_rfl))
 f319:=Tryz.func280.trans (congrArg some (by kernel_rfl))
 f320:=Tryz.func281.trans (congrArg some (by kernel_rfl))
 f337:=Tryz.func334.trans (congrArg some (by kernel_rfl))
 f338:=Tryz.func335.trans (congrArg some (by kernel_rfl))
 t0:=Tryz.underlying0
 a0:=Tryz.isAgg0
 z0:=Tryz.sizeOf0
 v0:=Tryz.zeroValue0
 t2:=Tryz.underlying2
 a2:=Tryz.isAgg2
 z2:=Tryz.sizeOf2
 v2:=Tryz.zeroValue2
 t3:=Tryz.underlying3
 a3:=Tryz.isAgg3
 z3:=Tryz.sizeOf3
 v3:=Tryz.zeroValue3
 t4:=Tryz.underlying4
 a4:=Tryz.isAgg4
 z4:=Tryz.sizeOf4
 v4:=Tryz.zeroValue4
 t5:=Tryz.underlying5
 a5:=Tryz.isAgg5
 z5:=Tryz.sizeOf5
 v5:=Tryz.zeroValue5
 t9:=Tryz.underlying9
 a9:=Tryz.isAgg9
 z9:=Tryz.sizeOf9
 v9:=Tryz.zeroValue9
 t20:=Tryz.underlying20
 a20:=Tryz.isAgg20
 z20:=Tryz.sizeOf20
 v20:=Tryz.zeroValue20
 t37:=Tryz.underlying22
 a37:=Tryz.isAgg22
 z37:=Tryz.sizeOf22
 v37:=Tryz.zeroValue22
 t46:=Tryz.underlying183
 a46:=Tryz.isAgg183
 z46:=Tryz.sizeOf183
 v46:=Tryz.zeroValue183
 t51:=Tryz.underlying298
 a51:=Tryz.isAgg298
 z51:=Tryz.sizeOf298
 v51:=Tryz.zeroValue298
 t53:=Tryz.underlying30
 a53:=Tryz.isAgg30
 z53:=Tryz.sizeOf30
 v53:=Tryz.zeroValue30
 t171:=Tryz.underlying325
 a171:=Tryz.isAgg325
 z171:=Tryz.sizeOf325
 v171:=Tryz.zeroValue325
 t173:=Tryz.underlying327
 a173:=Tryz.isAgg327
 z173:=Tryz.sizeOf327
 v173:=Tryz.zeroValue327
 t212:=Tryz.underlying393
 a212:=Tryz.isAgg393
 z212:=Tryz.sizeOf393
 v212:=Tryz.zeroValue393
 t213:=Tryz.underlying394
 a213:=Tryz.isAgg394
 z213:=Tryz.sizeOf394
 t232:=Tryz.underlying476
 a232:=Tryz.isAgg476
 z232:=Tryz.sizeOf476
 v232:=Tryz.zeroValue476
 t233:=Tryz.underlying477
 a233:=Tryz.isAgg477
 z233:=Tryz.sizeOf477
 v233:=Tryz.zeroValue477
 g17:=by kernel_rfl
 g18:=by kernel_rfl
 g19:=by kernel_rfl
 i0:=by kernel_rfl
 i2:=by kernel_rfl
 i3:=by kernel_rfl
 i4:=by kernel_rfl
 i5:=by kernel_rfl
 i9:=by kernel_rfl
 i20:=by kernel_rfl
 i37:=by kernel_rfl
 i46:=by kernel_rfl
 i51:=by kernel_rfl
 i53:=by kernel_rfl
 i171:=by kernel_rfl
 i173:=by kernel_rfl
 i212:=by kernel_rfl
 i232:=by kernel_rfl
 i233:=by kernel_rfl
 m17:=by kernel_rfl
 m18:=by kernel_rfl
 m19:=by kernel_rfl }
open Go.RowKit Go.Sort Go.Lib in
theorem Tryz.strconv_Itoa (n : Int) (h0 : -9223372036854775808 ≤ n) (h1 : n ≤ 9223372036854775807) (w : World) (htab : Lib.TabIs Tryz.prog w "internal/strconv.uint64pow10" .u64 Lib.pow10Tab) :
 Calls Tryz.prog 45 #[.int .i64 n] w fun e w'=>e = .returned (.string ⟨(Lib.itoa n).toArray⟩)∧∃ k os,w'=grow (w.drewN k) os:=Any.strconv_Itoa Tryz.laysM171 n h0 h1 w htab
def Tryz.lays145_ren:Go.Shelf.Ren:=⟨fun | 145=>94 | 220=>155 | 219=>219 | 217=>294 | 225=>295 | 224=>296 | 267=>297 | 266=>341 | 314=>342 | n=>n,fun | 9=>9 | 4=>4 | 59=>191 | 3=>3 | 5=>5 | 46=>183 | 146=>457 | 51=>298 | n=>n,fun | 1=>2 | n=>n⟩
theorem Tryz.lays145:Go.Proofs.Lays.n145 Tryz.prog Tryz.lays145_ren:={
 mixed:=by kernel_rfl
 f145:=Tryz.func94.trans (congrArg some (by kernel_rfl))
 f217:=Tryz.func294.trans (congrArg some (by kernel_rfl))
 f219:=Tryz.func219.trans (congrArg some (by kernel_rfl))
 f220:=Tryz.func155.trans (congrArg some (by kernel_rfl))
 f224:=Tryz.func296.trans (congrArg some (by kernel_rfl))
 f225:=Tryz.func295.trans (congrArg some (by kernel_rfl))
 f266:=Tryz.func341.trans (congrArg some (by kernel_rfl))
 f267:=Tryz.func297.trans (congrArg some (by kernel_rfl))
 f314:=Tryz.func342.trans (congrArg some (by kernel_rfl))
 t3:=Tryz.underlying3
 a3:=Tryz.isAgg3
 z3:=Tryz.sizeOf3
 v3:=Tryz.zeroValue3
 t4:=Tryz.underlying4
 a4:=Tryz.isAgg4
 z4:=Tryz.sizeOf4
 v4:=Tryz.zeroValue4
 t5:=Tryz.underlying5
 a5:=Tryz.isAgg5
 z5:=Tryz.sizeOf5
 v5:=Tryz.zeroValue5
 t9:=Tryz.underlying9
 a9:=Tryz.isAgg9
 z9:=Tryz.sizeOf9
 v9:=Tryz.zeroValue9
 t46:=Tryz.underlying183
 a46:=Tryz.isAgg183
 z46:=Tryz.sizeOf183
 v46:=Tryz.zeroValue183
 t51:=Tryz.underlying298
 a51:=Tryz.isAgg298
 z51:=Tryz.sizeOf298
 v51:=Tryz.zeroValue298
 t59:=Tryz.underlying191
 a59:=Tryz.isAgg191
 z59:=Tryz.sizeOf191
 v59:=Tryz.zeroValue191
 t146:=Tryz.underlying457
 a146:=Tryz.isAgg457
 z146:=Tryz.sizeOf457
 v146:=Tryz.zeroValue457
 g1:=by kernel_rfl }
open Go.RowKit Go.Lib in
theorem Tryz.strings_Cut (s sep:ByteArray) (m:Int) (w:World) (hs:s.size<4294967281) (hm:w.cell? ⟨2,0,none⟩=some (.int .i64 m)) :
 Calls Tryz.prog 94 #[.string s,.string sep] w fun e w'=>e = .returned (.tuple #[.string ⟨(Lib.cut s.data.toList sep.data.toList).1.toArray⟩,.string ⟨(Lib.cut s.data.toList sep.data.toList).2.1.toArray⟩,.bool (Lib.cut s.data.toList sep.data.toList).2.2])∧∃ n,w'=w.drewN n:=Any.strings_Cut Tryz.lays145 s sep m w hs hm
def Tryz.lays146_ren:Go.Shelf.Ren:=⟨fun | 146=>134 | 221=>200 | 268=>267 | 138=>268 | 143=>269 | 195=>328 | 197=>329 | 218=>330 | 219=>219 | 260=>364 | 217=>294 | 225=>295 | 224=>296 | 267=>297 | 266=>341 | 314=>342 | n=>n,fun | 9=>9 | 31=>60 | 3=>3 | 4=>4 | 0=>0 | 105=>449 | 21=>21 | 5=>5 | 46=>183 | 119=>504 | 139=>507 | 138=>506 | 146=>457 | 51=>298 | n=>n,fun | 1=>2 | 3=>8 | 4=>9 | n=>n⟩
theorem Tryz.lays146:Go.Proofs.Lays.n146 Tryz.prog Tryz.lays146_ren:={
 mixed:=by kernel_rfl
 f138:=Tryz.func268.trans (congrArg some (by kernel_rfl))
 f143:=Tryz.func269.trans (congrArg some (by kernel_rfl))
 f146:=Tryz.func134.trans (congrArg some (by kernel_rfl))
 f195:=Tryz.func328.trans (congrArg some (by kernel_rfl))
 f197:=Tryz.func329.trans (congrArg some (by kernel_rfl))
 f217:=Tryz.func294.trans (congrArg some (by kernel_rfl))
 f218:=Tryz.func330.trans (congrArg some (by kernel_rfl))
 f219:=Tryz.func219.trans (congrArg some (by kernel_rfl))
 f221:=Tryz.func200.trans (congrArg some (by kernel_rfl))
 f224:=Tryz.func296.trans (congrArg some (by kernel_rfl))
 f225:=Tryz.func295.trans (congrArg some (by kernel_rfl))
 f260:=Tryz.func364.trans (congrArg some (by kernel_rfl))
 f266:=Tryz.func341.trans (congrArg some (by kernel_rfl))
 f267:=Tryz.func297.trans (congrArg some (by kernel_rfl))
 f268:=Tryz.func267.trans (congrArg some (by kernel_rfl))
 f314:=Tryz.func342.trans (congrArg some (by kernel_rfl))
 t0:=Tryz.underlying0
 a0:=Tryz.isAgg0
 z0:=Tryz.sizeOf0
 v0:=Tryz.zeroValue0
 t3:=Tryz.underlying3
 a3:=Tryz.isAgg3
 z3:=Tryz.sizeOf3
 v3:=Tryz.zeroValue3
 t4:=Tryz.underlying4
 a4:=Tryz.isAgg4
 z4:=Tryz.sizeOf4
 v4:=Tryz.zeroValue4
 t5:=Tryz.underlying5
 a5:=Tryz.isAgg5
 z5:=Tryz.sizeOf5
 v5:=Tryz.zeroValue5
 t9:=Tryz.underlying9
 a9:=Tryz.isAgg9
 z9:=Tryz.sizeOf9
 v9:=Tryz.zeroValue9
 t21:=Tryz.underlying21
 a21:=Tryz.isAgg21
 z21:=Tryz.sizeOf21
 v21:=Tryz.zeroValue21
 t31:=Tryz.underlying60
 a31:=Tryz.isAgg60
 z31:=Tryz.sizeOf60
 v31:=Tryz.zeroValue60
 t46:=Tryz.underlying183
 a46:=Tryz.isAgg183
 z46:=Tryz.sizeOf183
 v46:=Tryz.zeroValue183
 t51:=Tryz.underlying298
 a51:=Tryz.isAgg298
 z51:=Tryz.sizeOf298
 v51:=Tryz.zeroValue298
 t105:=Tryz.underlying449
 a105:=Tryz.isAgg449
 z105:=Tryz.sizeOf449
 v105:=Tryz.zeroValue449
 t119:=Tryz.underlying504
 a119:=Tryz.isAgg504
 z119:=Tryz.sizeOf504
 t138:=Tryz.underlying506
 a138:=Tryz.isAgg506
 z138:=Tryz.sizeOf506
 v138:=Tryz.zeroValue506
 t139:=Tryz.underlying507
 a139:=Tryz.isAgg507
 z139:=Tryz.sizeOf507
 v139:=Tryz.zeroValue507
 t146:=Tryz.underlying457
 a146:=Tryz.isAgg457
 z146:=Tryz.sizeOf457
 v146:=Tryz.zeroValue457
 g1:=by kernel_rfl
 g3:=by kernel_rfl
 g4:=by kernel_rfl }
open Go.RowKit Go.Lib in
theorem Tryz.strings_Split (s sep:ByteArray) (m:Int) (w:World) (hs:s.size<4294967281) (hm:w.cell? ⟨2,0,none⟩=some (.int .i64 m)) (h1:1≤sep.size) :
 Calls Tryz.prog 134 #[.string s,.string sep] w fun e w' =>
  e = .returned (.slice (some ⟨w.heap.size,0,none⟩) (Lib.countB s sep+1) (Lib.countB s sep+1))∧w'=w.alloc (.cells ((Lib.splitB sep 0 (Lib.countB s sep) s).map Value.string).toArray 9):=Any.strings_Split Tryz.lays146 (by kernel_rfl) s sep m w hs hm h1
def Tryz.lays110_ren:Go.Shelf.Ren:=⟨fun | 110=>15 | 109=>47 | n=>n,fun | 31=>60 | 9=>9 | 4=>4 | 3=>3 | 0=>0 | n=>n,fun | n=>n⟩
theorem Tryz.lays110:Go.Proofs.Lays.n110 Tryz.prog Tryz.lays110_ren:={
 mixed:=by kernel_rfl
 f109:=Tryz.func47.trans (congrArg some (by kernel_rfl))
 f110:=Tryz.func15.trans (congrArg some (by kernel_rfl))
 t0:=Tryz.underlying0
 a0:=Tryz.isAgg0
 z0:=Tryz.sizeOf0
 v0:=Tryz.zeroValue0
 t3:=Tryz.underlying3
 a3:=Tryz.isAgg3
 z3:=Tryz.sizeOf3
 v3:=Tryz.zeroValue3
 t4:=Tryz.underlying4
 a4:=Tryz.isAgg4
 z4:=Tryz.sizeOf4
 v4:=Tryz.zeroValue4
 t9:=Tryz.underlying9
 a9:=Tryz.isAgg9
 z9:=Tryz.sizeOf9
 v9:=Tryz.zeroValue9
 t31:=Tryz.underlying60
 a31:=Tryz.isAgg60
 z31:=Tryz.sizeOf60
 v31:=Tryz.zeroValue60 }
open Go.Lib in
theorem Tryz.slices_Contains_string (b off n c:Nat) (zs:List ByteArray) (x:ByteArray) (w:World) (hz:n≤zs.length) (hbig:n≤9223372036854775807) (hc:∀ j,j<zs.length→w.cell? ⟨b,off+j,none⟩=some (.string (zs.getD j ByteArray.empty))) :
 Calls Tryz.prog 15 #[.slice (some ⟨b,off,none⟩) n c,.string x] w fun e w'=>e = .returned (.bool (Lib.containsS (zs.take n) x))∧w'=w:=Any.slices_Contains_string Tryz.lays110 b off n c zs x w hz hbig hc
open Go.Lib in
theorem Tryz.slices_Contains_string_empty (a:Option Addr) (c:Nat) (x:ByteArray) (w:World) :
 Calls Tryz.prog 15 #[.slice a 0 c,.string x] w fun e w'=>e = .returned (.bool false)∧w'=w:=Any.slices_Contains_string_empty Tryz.lays110 a c x w
def Tryz.lays194_ren:Go.Shelf.Ren:=⟨fun | 194=>311 | n=>n,fun | 31=>60 | 9=>9 | 3=>3 | 4=>4 | 0=>0 | n=>n,fun | n=>n⟩
theorem Tryz.lays194:Go.Proofs.Lays.n194 Tryz.prog Tryz.lays194_ren:={
 mixed:=by kernel_rfl
 f194:=Tryz.func311.trans (congrArg some (by kernel_rfl))
 t0:=Tryz.underlying0
 a0:=Tryz.isAgg0
 z0:=Tryz.sizeOf0
 v0:=Tryz.zeroValue0
 t3:=Tryz.underlying3
 a3:=Tryz.isAgg3
 z3:=Tryz.sizeOf3
 v3:=Tryz.zeroValue3
 t4:=Tryz.underlying4
 a4:=Tryz.isAgg4
 z4:=Tryz.sizeOf4
 v4:=Tryz.zeroValue4
 t9:=Tryz.underlying9
 a9:=Tryz.isAgg9
 z9:=Tryz.sizeOf9
 v9:=Tryz.zeroValue9
 t31:=Tryz.underlying60
 a31:=Tryz.isAgg60
 z31:=Tryz.sizeOf60
 v31:=Tryz.zeroValue60 }
open Go.RowKit Go.Lib Go.Sort in
theorem Tryz.slices_Compact_string (blk off cap:Nat) (zs:List (List UInt8)) (w:World) (hH:Holds encStr w blk off zs.toArray) (hsz:zs.length≤9223372036854775807) (hcap:zs.length≤cap) :
 Calls Tryz.prog 311 #[.slice (some ⟨blk,off,none⟩) zs.length cap] w fun e w'=>e = .returned (.slice (some ⟨blk,off,none⟩) (Lib.compact zs).length cap)∧∃ q,w'=putRow encStr (Sort.ahead w q) blk off (Lib.compact zs++List.replicate (zs.length-(Lib.compact zs).length) []).toArray:=Any.slices_Compact_string Tryz.lays194 blk off cap zs w hH hsz hcap
open Go.RowKit Go.Lib Go.Sort in
theorem Tryz.slices_Compact_string_empty (a:Option Addr) (cap:Nat) (w:World) :
 Calls Tryz.prog 311 #[.slice a 0 cap] w fun e w'=>e = .returned (.slice a 0 cap)∧w'=w:=Any.slices_Compact_string_empty Tryz.lays194 a cap w
end Go.Proofs
