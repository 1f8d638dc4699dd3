/-
  DERIVED: THE SHELF's CONTRACTS AT THIS DUMP, IN PLAIN WORDS (tools/lay-plain.mjs out of 'TryzShelf.lean', which tools/lay-shelf.mjs wrote): THE SAME DECLARATIONS UNDER THE SAME NAMES: 'import', 'namespace', 'open', 'def', 'theorem' AND NOTHING ELSE: no command of the shelf's: FOR A HAND-IN. Each laying: the table of numbers ('.._ren') and one theorem, a field a fact of the dump's own or the kernel's comparison; each contract: ONE APPLICATION.
-/
import Derived.Shelf.Strings.Builder1
import Derived.Shelf.Strings.Builder2
import Derived.Shelf.Strings.OnBuilder
import Derived.Shelf.Small.Bits
import Derived.Shelf.Small.Strs
import Derived.Shelf.Small.Wraps
import Derived.Shelf.Strconv.Itoa0
import Derived.Shelf.Strconv.Itoa1
import Derived.Shelf.LaysM
import Derived.Shelf.Strconv.Itoa2
import Derived.Shelf.Strconv.Itoa3
import Derived.Shelf.Strings.Search1
import Derived.Shelf.Strings.Search2
import Derived.Shelf.Strings.Search3
import Derived.Shelf.Strings.Cut
import Derived.Shelf.Strings.Count
import Derived.Shelf.Strings.Shaped
import Derived.Shelf.Strings.Split
import Derived.Shelf.Strings.SplitShaped
import Derived.Shelf.Slices.Turned
import Derived.Shelf.Slices.CompactS
import Derived.Shelf.Slices.Cells
import Derived.Test.YtagijlhciclafaaGreatDoorProg
namespace Go.Proofs
open Go.Shelf
def Tryz.lays156_ren:Go.Shelf.Ren:=⟨fun | 156=>168 | 165=>220 | 166=>221 | 169=>222 | 240=>267 | 241=>268 | 276=>304 | 277=>305 | n=>n,fun | 31=>29 | 9=>9 | 3=>3 | 4=>4 | 0=>0 | 20=>20 | 72=>287 | 76=>291 | 70=>284 | 37=>285 | 75=>290 | 127=>328 | 164=>353 | 5=>5 | 80=>293 | n=>n,fun | n=>n⟩
theorem Tryz.lays156:Go.Proofs.Lays.n156 Tryz.prog Tryz.lays156_ren:={
 mixed:=by kernel_rfl
 f156:=Tryz.func168.trans (congrArg some (by kernel_rfl))
 f165:=Tryz.func220.trans (congrArg some (by kernel_rfl))
 f166:=Tryz.func221.trans (congrArg some (by kernel_rfl))
 f169:=Tryz.func222.trans (congrArg some (by kernel_rfl))
 f240:=Tryz.func267.trans (congrArg some (by kernel_rfl))
 f241:=Tryz.func268.trans (congrArg some (by kernel_rfl))
 f276:=Tryz.func304.trans (congrArg some (by kernel_rfl))
 f277:=Tryz.func305.trans (congrArg some (by kernel_rfl))
 t0:=Tryz.underlying0
 a0:=Tryz.isAgg0
 z0:=Tryz.sizeOf0
 v0:=Tryz.zeroValue0
 t3:=Tryz.underlying3
 a3:=Tryz.isAgg3
 z3:=Tryz.sizeOf3
 v3:=Tryz.zeroValue3
 t4:=Tryz.underlying4
 a4:=Tryz.isAgg4
 z4:=Tryz.sizeOf4
 v4:=Tryz.zeroValue4
 t9:=Tryz.underlying9
 a9:=Tryz.isAgg9
 z9:=Tryz.sizeOf9
 v9:=Tryz.zeroValue9
 t20:=Tryz.underlying20
 a20:=Tryz.isAgg20
 z20:=Tryz.sizeOf20
 v20:=Tryz.zeroValue20
 t31:=Tryz.underlying29
 a31:=Tryz.isAgg29
 z31:=Tryz.sizeOf29
 v31:=Tryz.zeroValue29
 t37:=Tryz.underlying285
 a37:=Tryz.isAgg285
 z37:=Tryz.sizeOf285
 v37:=Tryz.zeroValue285
 t70:=Tryz.underlying284
 a70:=Tryz.isAgg284
 z70:=Tryz.sizeOf284
 v70:=Tryz.zeroValue284
 t72:=Tryz.underlying287
 a72:=Tryz.isAgg287
 z72:=Tryz.sizeOf287
 v72:=Tryz.zeroValue287
 t75:=Tryz.underlying290
 a75:=Tryz.isAgg290
 z75:=Tryz.sizeOf290
 v75:=Tryz.zeroValue290
 t76:=Tryz.underlying291
 a76:=Tryz.isAgg291
 z76:=Tryz.sizeOf291
 v76:=Tryz.zeroValue291
 t127:=Tryz.underlying328
 a127:=Tryz.isAgg328
 z127:=Tryz.sizeOf328
 v127:=Tryz.zeroValue328
 t164:=Tryz.underlying353
 a164:=Tryz.isAgg353
 z164:=Tryz.sizeOf353
 v164:=Tryz.zeroValue353 }
theorem Tryz.Builder_Extra_156:Builder.Extra Tryz.prog Tryz.lays156_ren:={
 sizeBuilder:=by kernel_rfl
 liesBuilder:=by kernel_rfl
 t5:=Tryz.underlying5
 a5:=Tryz.isAgg5
 z5:=Tryz.sizeOf5
 v5:=Tryz.zeroValue5
 infoByte:=by kernel_rfl
 cellsByte:=by kernel_rfl
 sizeByte:=by kernel_rfl
 neB5:=by decide }
open Go.RowKit in
theorem Tryz.strings_Join (bk o c:Nat) (xs:List ByteArray) (sep:ByteArray) (w:World) (hcells:∀ (j:Nat) x,xs[j]? = some x→w.cell? ⟨bk,o+j,none⟩=some (.string x)) (hbk:bk<w.heap.size) (hN:xs.length≤140737488355328) (hcap:xs.length≤c) (hlen:(Lib.join (xs.map (·.data.toList)) sep.data.toList).length≤140737488355328) :
 Calls Tryz.prog 168 #[.slice (some ⟨bk,o,none⟩) xs.length c,.string sep] w fun e w'=>e = .returned (.string ⟨(Lib.join (xs.map (·.data.toList)) sep.data.toList).toArray⟩)∧Below w.heap.size w w':=Any.strings_Join Tryz.lays156 Tryz.Builder_Extra_156 bk o c xs sep w hcells hbk hN hcap hlen
def Tryz.lays106_ren:Go.Shelf.Ren:=⟨fun | 106=>99 | 213=>157 | 265=>213 | n=>n,fun | 9=>9 | 3=>3 | n=>n,fun | n=>n⟩
theorem Tryz.lays106:Go.Proofs.Lays.n106 Tryz.prog Tryz.lays106_ren:={
 mixed:=by kernel_rfl
 f106:=Tryz.func99.trans (congrArg some (by kernel_rfl))
 f213:=Tryz.func157.trans (congrArg some (by kernel_rfl))
 f265:=Tryz.func213.trans (congrArg some (by kernel_rfl))
 t3:=Tryz.underlying3
 a3:=Tryz.isAgg3
 z3:=Tryz.sizeOf3
 v3:=Tryz.zeroValue3
 t9:=Tryz.underlying9
 a9:=Tryz.isAgg9
 z9:=Tryz.sizeOf9
 v9:=Tryz.zeroValue9 }
open Go.RowKit in
theorem Tryz.strings_Compare (a b:ByteArray) (w:World) :
 Calls Tryz.prog 99 #[.string a,.string b] w fun e w'=>e = .returned (.int .i64 (Lib.compareBytes a.data.toList b.data.toList))∧w'=w:=Any.strings_Compare Tryz.lays106 a b w
def Tryz.laysM171_ren:Go.Shelf.Ren:=⟨fun | 171=>167 | 243=>219 | 246=>266 | 283=>300 | 284=>301 | 285=>302 | 286=>303 | 129=>189 | 317=>320 | 318=>321 | 319=>322 | 320=>323 | 337=>336 | 338=>337 | n=>n,fun | 3=>3 | 9=>9 | 2=>2 | 4=>4 | 171=>349 | 0=>0 | 53=>206 | 37=>285 | 5=>5 | 173=>351 | 212=>368 | 51=>261 | 20=>20 | 213=>369 | 46=>168 | 232=>383 | 233=>384 | n=>n,fun | 17=>2 | 18=>5 | 19=>6 | n=>n⟩
theorem Tryz.laysM171:Go.Proofs.LaysM.n171 Tryz.prog Tryz.laysM171_ren:={
 mixed:=by kernel_rfl
 f129:=Tryz.func189.trans (congrArg some (by kernel_rfl))
 f171:=Tryz.func167.trans (congrArg some (by kernel_rfl))
 f243:=Tryz.func219.trans (congrArg some (by kernel_rfl))
 f246:=Tryz.func266.trans (congrArg some (by kernel_rfl))
 f283:=Tryz.func300.trans (congrArg some (by kernel_rfl))
 f284:=Tryz.func301.trans (congrArg some (by kernel_rfl))
 f285:=Tryz.func302.trans (congrArg some (by kernel_rfl))
 f286:=Tryz.func303.trans (congrArg some (by kernel_rfl))
 f317:=Tryz.func320.trans (congrArg some (by kernel_rfl))
 f318:=Tryz.func321.trans (congrArg some (by kernel_rfl))
 f319:=Tryz.func322.trans (congrArg some (by kernel_rfl))
 f320:=Tryz.func323.trans (congrArg some (by kernel_rfl))
 f337:=Tryz.func336.trans (congrArg some (by kernel_rfl))
 f338:=Tryz.func337.trans (congrArg some (by kernel_rfl))
 t0:=Tryz.underlying0
 a0:=Tryz.isAgg0
 z0:=Tryz.sizeOf0
 v0:=Tryz.zeroValue0
 t2:=Tryz.underlying2
 a2:=Tryz.isAgg2
 z2:=Tryz.sizeOf2
 v2:=Tryz.zeroValue2
 t3:=Tryz.underlying3
 a3:=Tryz.isAgg3
 z3:=Tryz.sizeOf3
 v3:=Tryz.zeroValue3
 t4:=Tryz.underlying4
 a4:=Tryz.isAgg4
 z4:=Tryz.sizeOf4
 v4:=Tryz.zeroValue4
 t5:=Tryz.underlying5
 a5:=Tryz.isAgg5
 z5:=Tryz.sizeOf5
 v5:=Tryz.zeroValue5
 t9:=Tryz.underlying9
 a9:=Tryz.isAgg9
 z9:=Tryz.sizeOf9
 v9:=Tryz.zeroValue9
 t20:=Tryz.underlying20
 a20:=Tryz.isAgg20
 z20:=Tryz.sizeOf20
 v20:=Tryz.zeroValue20
 t37:=Tryz.underlying285
 a37:=Tryz.isAgg285
 z37:=Tryz.sizeOf285
 v37:=Tryz.zeroValue285
 t46:=Tryz.underlying168
 a46:=Tryz.isAgg168
 z46:=Tryz.sizeOf168
 v46:=Tryz.zeroValue168
 t51:=Tryz.underlying261
 a51:=Tryz.isAgg261
 z51:=Tryz.sizeOf261
 v51:=Tryz.zeroValue261
 t53:=Tryz.underlying206
 a53:=Tryz.isAgg206
 z53:=Tryz.sizeOf206
 v53:=Tryz.zeroValue206
 t171:=Tryz.underlying349
 a171:=Tryz.isAgg349
 z171:=Tryz.sizeOf349
 v171:=Tryz.zeroValue349
 t173:=Tryz.underlying351
 a173:=Tryz.isAgg351
 z173:=Tryz.sizeOf351
 v173:=Tryz.zeroValue351
 t212:=Tryz.underlying368
 a212:=Tryz.isAgg368
 z212:=Tryz.sizeOf368
 v212:=Tryz.zeroValue368
 t213:=Tryz.underlying369
 a213:=Tryz.isAgg369
 z213:=Tryz.sizeOf369
 t232:=Tryz.underlying383
 a232:=Tryz.isAgg383
 z232:=Tryz.sizeOf383
 v232:=Tryz.zeroValue383
 t233:=Tryz.underlying384
 a233:=Tryz.isAgg384
 z233:=Tryz.sizeOf384
 v233:=Tryz.zeroValue384
 g17:=by kernel_rfl
 g18:=by kernel_rfl
 g19:=by kernel_rfl
 i0:=by kernel_rfl
 i2:=by kernel_rfl
 i3:=by kernel_rfl
 i4:=by kernel_rfl
 i5:=by kernel_rfl
 i9:=by kernel_rfl
 i20:=by kernel_rfl
 i37:=by kernel_rfl
 i46:=by kernel_rfl
 i51:=by kernel_rfl
 i53:=by kernel_rfl
 i171:=by kernel_rfl
 i173:=by kernel_rfl
 i212:=by kernel_rfl
 i232:=by kernel_rfl
 i233:=by kernel_rfl
 m17:=by kernel_rfl
 m18:=by kernel_rfl
 m19:=by kernel_rfl }
open Go.RowKit Go.Sort Go.Lib in
theorem Tryz.strconv_Itoa (n : Int) (h0 : -9223372036854775808 ≤ n) (h1 : n ≤ 9223372036854775807) (w : World) (htab : Lib.TabIs Tryz.prog w "internal/strconv.uint64pow10" .u64 Lib.pow10Tab) :
 Calls Tryz.prog 167 #[.int .i64 n] w fun e w'=>e = .returned (.string ⟨(Lib.itoa n).toArray⟩)∧∃ k os,w'=grow (w.drewN k) os:=Any.strconv_Itoa Tryz.laysM171 n h0 h1 w htab
def Tryz.lays145_ren:Go.Shelf.Ren:=⟨fun | 145=>154 | 220=>211 | 219=>264 | 217=>293 | 225=>294 | 224=>295 | 267=>296 | 266=>315 | 314=>316 | n=>n,fun | 9=>9 | 4=>4 | 59=>237 | 3=>3 | 5=>5 | 46=>168 | 146=>363 | 51=>261 | n=>n,fun | 1=>1 | n=>n⟩
theorem Tryz.lays145:Go.Proofs.Lays.n145 Tryz.prog Tryz.lays145_ren:={
 mixed:=by kernel_rfl
 f145:=Tryz.func154.trans (congrArg some (by kernel_rfl))
 f217:=Tryz.func293.trans (congrArg some (by kernel_rfl))
 f219:=Tryz.func264.trans (congrArg some (by kernel_rfl))
 f220:=Tryz.func211.trans (congrArg some (by kernel_rfl))
 f224:=Tryz.func295.trans (congrArg some (by kernel_rfl))
 f225:=Tryz.func294.trans (congrArg some (by kernel_rfl))
 f266:=Tryz.func315.trans (congrArg some (by kernel_rfl))
 f267:=Tryz.func296.trans (congrArg some (by kernel_rfl))
 f314:=Tryz.func316.trans (congrArg some (by kernel_rfl))
 t3:=Tryz.underlying3
 a3:=Tryz.isAgg3
 z3:=Tryz.sizeOf3
 v3:=Tryz.zeroValue3
 t4:=Tryz.underlying4
 a4:=Tryz.isAgg4
 z4:=Tryz.sizeOf4
 v4:=Tryz.zeroValue4
 t5:=Tryz.underlying5
 a5:=Tryz.isAgg5
 z5:=Tryz.sizeOf5
 v5:=Tryz.zeroValue5
 t9:=Tryz.underlying9
 a9:=Tryz.isAgg9
 z9:=Tryz.sizeOf9
 v9:=Tryz.zeroValue9
 t46:=Tryz.underlying168
 a46:=Tryz.isAgg168
 z46:=Tryz.sizeOf168
 v46:=Tryz.zeroValue168
 t51:=Tryz.underlying261
 a51:=Tryz.isAgg261
 z51:=Tryz.sizeOf261
 v51:=Tryz.zeroValue261
 t59:=Tryz.underlying237
 a59:=Tryz.isAgg237
 z59:=Tryz.sizeOf237
 v59:=Tryz.zeroValue237
 t146:=Tryz.underlying363
 a146:=Tryz.isAgg363
 z146:=Tryz.sizeOf363
 v146:=Tryz.zeroValue363
 g1:=by kernel_rfl }
open Go.RowKit Go.Lib in
theorem Tryz.strings_Cut (s sep:ByteArray) (m:Int) (w:World) (hs:s.size<4294967281) (hm:w.cell? ⟨1,0,none⟩=some (.int .i64 m)) :
 Calls Tryz.prog 154 #[.string s,.string sep] w fun e w'=>e = .returned (.tuple #[.string ⟨(Lib.cut s.data.toList sep.data.toList).1.toArray⟩,.string ⟨(Lib.cut s.data.toList sep.data.toList).2.1.toArray⟩,.bool (Lib.cut s.data.toList sep.data.toList).2.2])∧∃ n,w'=w.drewN n:=Any.strings_Cut Tryz.lays145 s sep m w hs hm
def Tryz.lays146_ren:Go.Shelf.Ren:=⟨fun | 146=>212 | 221=>265 | 268=>297 | 138=>298 | 143=>299 | 195=>317 | 197=>318 | 218=>319 | 219=>264 | 260=>335 | 217=>293 | 225=>294 | 224=>295 | 267=>296 | 266=>315 | 314=>316 | n=>n,fun | 9=>9 | 31=>29 | 3=>3 | 4=>4 | 0=>0 | 105=>365 | 21=>21 | 5=>5 | 46=>168 | 119=>379 | 139=>382 | 138=>381 | 146=>363 | 51=>261 | n=>n,fun | 1=>1 | 3=>3 | 4=>4 | n=>n⟩
theorem Tryz.lays146:Go.Proofs.Lays.n146 Tryz.prog Tryz.lays146_ren:={
 mixed:=by kernel_rfl
 f138:=Tryz.func298.trans (congrArg some (by kernel_rfl))
 f143:=Tryz.func299.trans (congrArg some (by kernel_rfl))
 f146:=Tryz.func212.trans (congrArg some (by kernel_rfl))
 f195:=Tryz.func317.trans (congrArg some (by kernel_rfl))
 f197:=Tryz.func318.trans (congrArg some (by kernel_rfl))
 f217:=Tryz.func293.trans (congrArg some (by kernel_rfl))
 f218:=Tryz.func319.trans (congrArg some (by kernel_rfl))
 f219:=Tryz.func264.trans (congrArg some (by kernel_rfl))
 f221:=Tryz.func265.trans (congrArg some (by kernel_rfl))
 f224:=Tryz.func295.trans (congrArg some (by kernel_rfl))
 f225:=Tryz.func294.trans (congrArg some (by kernel_rfl))
 f260:=Tryz.func335.trans (congrArg some (by kernel_rfl))
 f266:=Tryz.func315.trans (congrArg some (by kernel_rfl))
 f267:=Tryz.func296.trans (congrArg some (by kernel_rfl))
 f268:=Tryz.func297.trans (congrArg some (by kernel_rfl))
 f314:=Tryz.func316.trans (congrArg some (by kernel_rfl))
 t0:=Tryz.underlying0
 a0:=Tryz.isAgg0
 z0:=Tryz.sizeOf0
 v0:=Tryz.zeroValue0
 t3:=Tryz.underlying3
 a3:=Tryz.isAgg3
 z3:=Tryz.sizeOf3
 v3:=Tryz.zeroValue3
 t4:=Tryz.underlying4
 a4:=Tryz.isAgg4
 z4:=Tryz.sizeOf4
 v4:=Tryz.zeroValue4
 t5:=Tryz.underlying5
 a5:=Tryz.isAgg5
 z5:=Tryz.sizeOf5
 v5:=Tryz.zeroValue5
 t9:=Tryz.underlying9
 a9:=Tryz.isAgg9
 z9:=Tryz.sizeOf9
 v9:=Tryz.zeroValue9
 t21:=Tryz.underlying21
 a21:=Tryz.isAgg21
 z21:=Tryz.sizeOf21
 v21:=Tryz.zeroValue21
 t31:=Tryz.underlying29
 a31:=Tryz.isAgg29
 z31:=Tryz.sizeOf29
 v31:=Tryz.zeroValue29
 t46:=Tryz.underlying168
 a46:=Tryz.isAgg168
 z46:=Tryz.sizeOf168
 v46:=Tryz.zeroValue168
 t51:=Tryz.underlying261
 a51:=Tryz.isAgg261
 z51:=Tryz.sizeOf261
 v51:=Tryz.zeroValue261
 t105:=Tryz.underlying365
 a105:=Tryz.isAgg365
 z105:=Tryz.sizeOf365
 v105:=Tryz.zeroValue365
 t119:=Tryz.underlying379
 a119:=Tryz.isAgg379
 z119:=Tryz.sizeOf379
 t138:=Tryz.underlying381
 a138:=Tryz.isAgg381
 z138:=Tryz.sizeOf381
 v138:=Tryz.zeroValue381
 t139:=Tryz.underlying382
 a139:=Tryz.isAgg382
 z139:=Tryz.sizeOf382
 v139:=Tryz.zeroValue382
 t146:=Tryz.underlying363
 a146:=Tryz.isAgg363
 z146:=Tryz.sizeOf363
 v146:=Tryz.zeroValue363
 g1:=by kernel_rfl
 g3:=by kernel_rfl
 g4:=by kernel_rfl }
open Go.RowKit Go.Lib in
theorem Tryz.strings_Split (s sep:ByteArray) (m:Int) (w:World) (hs:s.size<4294967281) (hm:w.cell? ⟨1,0,none⟩=some (.int .i64 m)) (h1:1≤sep.size) :
 Calls Tryz.prog 212 #[.string s,.string sep] w fun e w' =>
  e = .returned (.slice (some ⟨w.heap.size,0,none⟩) (Lib.countB s sep+1) (Lib.countB s sep+1))∧w'=w.alloc (.cells ((Lib.splitB sep 0 (Lib.countB s sep) s).map Value.string).toArray 9):=Any.strings_Split Tryz.lays146 (by kernel_rfl) s sep m w hs hm h1
def Tryz.lays110_ren:Go.Shelf.Ren:=⟨fun | 110=>112 | 109=>176 | n=>n,fun | 31=>29 | 9=>9 | 4=>4 | 3=>3 | 0=>0 | n=>n,fun | n=>n⟩
theorem Tryz.lays110:Go.Proofs.Lays.n110 Tryz.prog Tryz.lays110_ren:={
 mixed:=by kernel_rfl
 f109:=Tryz.func176.trans (congrArg some (by kernel_rfl))
 f110:=Tryz.func112.trans (congrArg some (by kernel_rfl))
 t0:=Tryz.underlying0
 a0:=Tryz.isAgg0
 z0:=Tryz.sizeOf0
 v0:=Tryz.zeroValue0
 t3:=Tryz.underlying3
 a3:=Tryz.isAgg3
 z3:=Tryz.sizeOf3
 v3:=Tryz.zeroValue3
 t4:=Tryz.underlying4
 a4:=Tryz.isAgg4
 z4:=Tryz.sizeOf4
 v4:=Tryz.zeroValue4
 t9:=Tryz.underlying9
 a9:=Tryz.isAgg9
 z9:=Tryz.sizeOf9
 v9:=Tryz.zeroValue9
 t31:=Tryz.underlying29
 a31:=Tryz.isAgg29
 z31:=Tryz.sizeOf29
 v31:=Tryz.zeroValue29 }
open Go.Lib in
theorem Tryz.slices_Contains_string (b off n c:Nat) (zs:List ByteArray) (x:ByteArray) (w:World) (hz:n≤zs.length) (hbig:n≤9223372036854775807) (hc:∀ j,j<zs.length→w.cell? ⟨b,off+j,none⟩=some (.string (zs.getD j ByteArray.empty))) :
 Calls Tryz.prog 112 #[.slice (some ⟨b,off,none⟩) n c,.string x] w fun e w'=>e = .returned (.bool (Lib.containsS (zs.take n) x))∧w'=w:=Any.slices_Contains_string Tryz.lays110 b off n c zs x w hz hbig hc
open Go.Lib in
theorem Tryz.slices_Contains_string_empty (a:Option Addr) (c:Nat) (x:ByteArray) (w:World) :
 Calls Tryz.prog 112 #[.slice a 0 c,.string x] w fun e w'=>e = .returned (.bool false)∧w'=w:=Any.slices_Contains_string_empty Tryz.lays110 a c x w
def Tryz.lays194_ren:Go.Shelf.Ren:=⟨fun | 194=>74 | n=>n,fun | 31=>29 | 9=>9 | 3=>3 | 4=>4 | 0=>0 | n=>n,fun | n=>n⟩
theorem Tryz.lays194:Go.Proofs.Lays.n194 Tryz.prog Tryz.lays194_ren:={
 mixed:=by kernel_rfl
 f194:=Tryz.func74.trans (congrArg some (by kernel_rfl))
 t0:=Tryz.underlying0
 a0:=Tryz.isAgg0
 z0:=Tryz.sizeOf0
 v0:=Tryz.zeroValue0
 t3:=Tryz.underlying3
 a3:=Tryz.isAgg3
 z3:=Tryz.sizeOf3
 v3:=Tryz.zeroValue3
 t4:=Tryz.underlying4
 a4:=Tryz.isAgg4
 z4:=Tryz.sizeOf4
 v4:=Tryz.zeroValue4
 t9:=Tryz.underlying9
 a9:=Tryz.isAgg9
 z9:=Tryz.sizeOf9
 v9:=Tryz.zeroValue9
 t31:=Tryz.underlying29
 a31:=Tryz.isAgg29
 z31:=Tryz.sizeOf29
 v31:=Tryz.zeroValue29 }
open Go.RowKit Go.Lib Go.Sort in
theorem Tryz.slices_Compact_string (blk off cap:Nat) (zs:List (List UInt8)) (w:World) (hH:Holds encStr w blk off zs.toArray) (hsz:zs.length≤9223372036854775807) (hcap:zs.length≤cap) :
 Calls Tryz.prog 74 #[.slice (some ⟨blk,off,none⟩) zs.length cap] w fun e w'=>e = .returned (.slice (some ⟨blk,off,none⟩) (Lib.compact zs).length cap)∧∃ q,w'=putRow encStr (Sort.ahead w q) blk off (Lib.compact zs++List.replicate (zs.length-(Lib.compact zs).length) []).toArray:=Any.slices_Compact_string Tryz.lays194 blk off cap zs w hH hsz hcap
open Go.RowKit Go.Lib Go.Sort in
theorem Tryz.slices_Compact_string_empty (a:Option Addr) (cap:Nat) (w:World) :
 Calls Tryz.prog 74 #[.slice a 0 cap] w fun e w'=>e = .returned (.slice a 0 cap)∧w'=w:=Any.slices_Compact_string_empty Tryz.lays194 a cap w
end Go.Proofs
