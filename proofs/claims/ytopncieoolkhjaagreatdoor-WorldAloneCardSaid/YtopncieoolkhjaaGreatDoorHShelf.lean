/-
  DERIVED: THE SHELF's CONTRACTS AT THIS DUMP, IN PLAIN WORDS (tools/lay-plain.mjs out of 'TryzShelf.lean', which tools/lay-shelf.mjs wrote): THE SAME DECLARATIONS UNDER THE SAME NAMES: 'import', 'namespace', 'open', 'def', 'theorem' AND NOTHING ELSE: no command of the shelf's: FOR A HAND-IN. Each laying: the table of numbers ('.._ren') and one theorem, a field a fact of the dump's own or the kernel's comparison; each contract: ONE APPLICATION.
-/
import Derived.Shelf.Strings.Builder1
import Derived.Shelf.Strings.Builder2
import Derived.Shelf.Strings.OnBuilder
import Derived.Shelf.Small.Strs
import Derived.Shelf.Small.Wraps
import Derived.Shelf.Strconv.Itoa0
import Derived.Shelf.Strconv.Itoa1
import Derived.Shelf.LaysM
import Derived.Shelf.Strconv.Itoa2
import Derived.Shelf.Strconv.Itoa3
import Derived.Shelf.Strings.Search1
import Derived.Shelf.Strings.Search2
import Derived.Shelf.Strings.Search3
import Derived.Shelf.Strings.Cut
import Derived.Shelf.Strings.Count
import Derived.Shelf.Strings.Shaped
import Derived.Shelf.Strings.Split
import Derived.Shelf.Strings.SplitShaped
import Derived.Shelf.Unicode.DecodeSlow
import Derived.Shelf.Slices.Turned
import Derived.Ground.Names2Prog
import Derived.Shelf.Slices.CompactI
import Derived.Shelf.Slices.CompactS
import Derived.Shelf.Slices.Cells
import Derived.Test.YtopncieoolkhjaaGreatDoorProg
namespace Go.Proofs
open Go.Shelf
def Tryz.lays156_ren : Go.Shelf.Ren := ⟨fun | 156 => 160 | 165 => 211 | 166 => 212 | 169 => 213 | 240 => 254 | 241 => 255 | 276 => 287 | 277 => 288 | n => n,fun | 31 => 36 | 9 => 9 | 3 => 3 | 4 => 4 | 0 => 0 | 20 => 20 | 72 => 305 | 76 => 309 | 70 => 303 | 37 => 22 | 75 => 308 | 127 => 344 | 164 => 367 | 5 => 5 | 80 => 311 | n => n,fun | n => n⟩
theorem Tryz.lays156 : Go.Proofs.Lays.n156 Tryz.prog Tryz.lays156_ren := {
 mixed := by kernel_rfl
 f156 := Tryz.func160.trans (congrArg some (by kernel_rfl))
 f165 := Tryz.func211.trans (congrArg some (by kernel_rfl))
 f166 := Tryz.func212.trans (congrArg some (by kernel_rfl))
 f169 := Tryz.func213.trans (congrArg some (by kernel_rfl))
 f240 := Tryz.func254.trans (congrArg some (by kernel_rfl))
 f241 := Tryz.func255.trans (congrArg some (by kernel_rfl))
 f276 := Tryz.func287.trans (congrArg some (by kernel_rfl))
 f277 := Tryz.func288.trans (congrArg some (by kernel_rfl))
 t0 := Tryz.underlying0
 a0 := Tryz.isAgg0
 z0 := Tryz.sizeOf0
 v0 := Tryz.zeroValue0
 t3 := Tryz.underlying3
 a3 := Tryz.isAgg3
 z3 := Tryz.sizeOf3
 v3 := Tryz.zeroValue3
 t4 := Tryz.underlying4
 a4 := Tryz.isAgg4
 z4 := Tryz.sizeOf4
 v4 := Tryz.zeroValue4
 t9 := Tryz.underlying9
 a9 := Tryz.isAgg9
 z9 := Tryz.sizeOf9
 v9 := Tryz.zeroValue9
 t20 := Tryz.underlying20
 a20 := Tryz.isAgg20
 z20 := Tryz.sizeOf20
 v20 := Tryz.zeroValue20
 t31 := Tryz.underlying36
 a31 := Tryz.isAgg36
 z31 := Tryz.sizeOf36
 v31 := Tryz.zeroValue36
 t37 := Tryz.underlying22
 a37 := Tryz.isAgg22
 z37 := Tryz.sizeOf22
 v37 := Tryz.zeroValue22
 t70 := Tryz.underlying303
 a70 := Tryz.isAgg303
 z70 := Tryz.sizeOf303
 v70 := Tryz.zeroValue303
 t72 := Tryz.underlying305
 a72 := Tryz.isAgg305
 z72 := Tryz.sizeOf305
 v72 := Tryz.zeroValue305
 t75 := Tryz.underlying308
 a75 := Tryz.isAgg308
 z75 := Tryz.sizeOf308
 v75 := Tryz.zeroValue308
 t76 := Tryz.underlying309
 a76 := Tryz.isAgg309
 z76 := Tryz.sizeOf309
 v76 := Tryz.zeroValue309
 t127 := Tryz.underlying344
 a127 := Tryz.isAgg344
 z127 := Tryz.sizeOf344
 v127 := Tryz.zeroValue344
 t164 := Tryz.underlying367
 a164 := Tryz.isAgg367
 z164 := Tryz.sizeOf367
 v164 := Tryz.zeroValue367 }
theorem Tryz.Builder_Extra_156 : Builder.Extra Tryz.prog Tryz.lays156_ren := {
 sizeBuilder := by kernel_rfl
 liesBuilder := by kernel_rfl
 t5 := Tryz.underlying5
 a5 := Tryz.isAgg5
 z5 := Tryz.sizeOf5
 v5 := Tryz.zeroValue5
 infoByte := by kernel_rfl
 cellsByte := by kernel_rfl
 sizeByte := by kernel_rfl
 neB5 := by decide }
open Go.RowKit in
theorem Tryz.strings_Join (bk o c:Nat) (xs:List ByteArray) (sep:ByteArray) (w:World) (hcells:∀ (j:Nat) x,xs[j]? = some x → w.cell? ⟨bk,o + j,none⟩ = some (.string x)) (hbk:bk < w.heap.size) (hN:xs.length ≤ 140737488355328) (hcap:xs.length ≤ c) (hlen:(Lib.join (xs.map (·.data.toList)) sep.data.toList).length ≤ 140737488355328) :
 Calls Tryz.prog 160 #[.slice (some ⟨bk,o,none⟩) xs.length c,.string sep] w fun e w' => e = .returned (.string ⟨(Lib.join (xs.map (·.data.toList)) sep.data.toList).toArray⟩) ∧ Below w.heap.size w w' := Any.strings_Join Tryz.lays156 Tryz.Builder_Extra_156 bk o c xs sep w hcells hbk hN hcap hlen
def Tryz.lays106_ren : Go.Shelf.Ren := ⟨fun | 106 => 159 | 213 => 210 | 265 => 253 | n => n,fun | 9 => 9 | 3 => 3 | n => n,fun | n => n⟩
theorem Tryz.lays106 : Go.Proofs.Lays.n106 Tryz.prog Tryz.lays106_ren := {
 mixed := by kernel_rfl
 f106 := Tryz.func159.trans (congrArg some (by kernel_rfl))
 f213 := Tryz.func210.trans (congrArg some (by kernel_rfl))
 f265 := Tryz.func253.trans (congrArg some (by kernel_rfl))
 t3 := Tryz.underlying3
 a3 := Tryz.isAgg3
 z3 := Tryz.sizeOf3
 v3 := Tryz.zeroValue3
 t9 := Tryz.underlying9
 a9 := Tryz.isAgg9
 z9 := Tryz.sizeOf9
 v9 := Tryz.zeroValue9 }
open Go.RowKit in
theorem Tryz.strings_Compare (a b:ByteArray) (w:World) :
 Calls Tryz.prog 159 #[.string a,.string b] w fun e w' => e = .returned (.int .i64 (Lib.compareBytes a.data.toList b.data.toList)) ∧ w' = w := Any.strings_Compare Tryz.lays106 a b w
def Tryz.laysM171_ren : Go.Shelf.Ren := ⟨fun | 171 => 149 | 243 => 207 | 246 => 251 | 283 => 279 | 284 => 280 | 285 => 281 | 286 => 282 | 129 => 206 | 317 => 306 | 318 => 307 | 319 => 308 | 320 => 309 | 337 => 318 | 338 => 319 | n => n,fun | 3 => 3 | 9 => 9 | 2 => 2 | 4 => 4 | 171 => 362 | 0 => 0 | 53 => 30 | 37 => 22 | 5 => 5 | 173 => 364 | 212 => 382 | 51 => 300 | 20 => 20 | 213 => 383 | 46 => 249 | 232 => 394 | 233 => 395 | n => n,fun | 17 => 5 | 18 => 8 | 19 => 9 | n => n⟩
theorem Tryz.laysM171 : Go.Proofs.LaysM.n171 Tryz.prog Tryz.laysM171_ren := {
 mixed := by kernel_rfl
 f129 := Tryz.func206.trans (congrArg some (by kernel_rfl))
 f171 := Tryz.func149.trans (congrArg some (by kernel_rfl))
 f243 := Tryz.func207.trans (congrArg some (by kernel_rfl))
 f246 := Tryz.func251.trans (congrArg some (by kernel_rfl))
 f283 := Tryz.func279.trans (congrArg some (by kernel_rfl))
 f284 := Tryz.func280.trans (congrArg some (by kernel_rfl))
 f285 := Tryz.func281.trans (congrArg some (by kernel_rfl))
 f286 := Tryz.func282.trans (congrArg some (by kernel_rfl))
 f317 := Tryz.func306.trans (congrArg some (by kernel_rfl))
 f318 := Tryz.func307.trans (congrArg some (by kernel_rfl))
 f319 := Tryz.func308.trans (congrArg some (by kernel_rfl))
 f320 := Tryz.func309.trans (congrArg some (by kernel_rfl))
 f337 := Tryz.func318.trans (congrArg some (by kernel_rfl))
 f338 := Tryz.func319.trans (congrArg some (by kernel_rfl))
 t0 := Tryz.underlying0
 a0 := Tryz.isAgg0
 z0 := Tryz.sizeOf0
 v0 := Tryz.zeroValue0
 t2 := Tryz.underlying2
 a2 := Tryz.isAgg2
 z2 := Tryz.sizeOf2
 v2 := Tryz.zeroValue2
 t3 := Tryz.underlying3
 a3 := Tryz.isAgg3
 z3 := Tryz.sizeOf3
 v3 := Tryz.zeroValue3
 t4 := Tryz.underlying4
 a4 := Tryz.isAgg4
 z4 := Tryz.sizeOf4
 v4 := Tryz.zeroValue4
 t5 := Tryz.underlying5
 a5 := Tryz.isAgg5
 z5 := Tryz.sizeOf5
 v5 := Tryz.zeroValue5
 t9 := Tryz.underlying9
 a9 := Tryz.isAgg9
 z9 := Tryz.sizeOf9
 v9 := Tryz.zeroValue9
 t20 := Tryz.underlying20
 a20 := Tryz.isAgg20
 z20 := Tryz.sizeOf20
 v20 := Tryz.zeroValue20
 t37 := Tryz.underlying22
 a37 := Tryz.isAgg22
 z37 := Tryz.sizeOf22
 v37 := Tryz.zeroValue22
 t46 := Tryz.underlying249
 a46 := Tryz.isAgg249
 z46 := Tryz.sizeOf249
 v46 := Tryz.zeroValue249
 t51 := Tryz.underlying300
 a51 := Tryz.isAgg300
 z51 := Tryz.sizeOf300
 v51 := Tryz.zeroValue300
 t53 := Tryz.underlying30
 a53 := Tryz.isAgg30
 z53 := Tryz.sizeOf30
 v53 := Tryz.zeroValue30
 t171 := Tryz.underlying362
 a171 := Tryz.isAgg362
 z171 := Tryz.sizeOf362
 v171 := Tryz.zeroValue362
 t173 := Tryz.underlying364
 a173 := Tryz.isAgg364
 z173 := Tryz.sizeOf364
 v173 := Tryz.zeroValue364
 t212 := Tryz.underlying382
 a212 := Tryz.isAgg382
 z212 := Tryz.sizeOf382
 v212 := Tryz.zeroValue382
 t213 := Tryz.underlying383
 a213 := Tryz.isAgg383
 z213 := Tryz.sizeOf383
 t232 := Tryz.underlying394
 a232 := Tryz.isAgg394
 z232 := Tryz.sizeOf394
 v232 := Tryz.zeroValue394
 t233 := Tryz.underlying395
 a233 := Tryz.isAgg395
 z233 := Tryz.sizeOf395
 v233 := Tryz.zeroValue395
 g17 := by kernel_rfl
 g18 := by kernel_rfl
 g19 := by kernel_rfl
 i0 := by kernel_rfl
 i2 := by kernel_rfl
 i3 := by kernel_rfl
 i4 := by kernel_rfl
 i5 := by kernel_rfl
 i9 := by kernel_rfl
 i20 := by kernel_rfl
 i37 := by kernel_rfl
 i46 := by kernel_rfl
 i51 := by kernel_rfl
 i53 := by kernel_rfl
 i171 := by kernel_rfl
 i173 := by kernel_rfl
 i212 := by kernel_rfl
 i232 := by kernel_rfl
 i233 := by kernel_rfl
 m17 := by kernel_rfl
 m18 := by kernel_rfl
 m19 := by kernel_rfl }
open Go.RowKit Go.Sort Go.Lib in
theorem Tryz.strconv_Itoa (n : Int) (h0 : -9223372036854775808 ≤ n) (h1 : n ≤ 9223372036854775807) (w : World) (htab : Lib.TabIs Tryz.prog w "internal/strconv.uint64pow10" .u64 Lib.pow10Tab) :
 Calls Tryz.prog 149 #[.int .i64 n] w fun e w' => e = .returned (.string ⟨(Lib.itoa n).toArray⟩) ∧ ∃ k os,w' = grow (w.drewN k) os := Any.strconv_Itoa Tryz.laysM171 n h0 h1 w htab
def Tryz.lays145_ren : Go.Shelf.Ren := ⟨fun | 145 => 157 | 220 => 208 | 219 => 252 | 217 => 283 | 225 => 284 | 224 => 285 | 267 => 286 | 266 => 310 | 314 => 311 | n => n,fun | 9 => 9 | 4 => 4 | 59 => 259 | 3 => 3 | 5 => 5 | 46 => 249 | 146 => 384 | 51 => 300 | n => n,fun | 1 => 2 | n => n⟩
theorem Tryz.lays145 : Go.Proofs.Lays.n145 Tryz.prog Tryz.lays145_ren := {
 mixed := by kernel_rfl
 f145 := Tryz.func157.trans (congrArg some (by kernel_rfl))
 f217 := Tryz.func283.trans (congrArg some (by kernel_rfl))
 f219 := Tryz.func252.trans (congrArg some (by kernel_rfl))
 f220 := Tryz.func208.trans (congrArg some (by kernel_rfl))
 f224 := Tryz.func285.trans (congrArg some (by kernel_rfl))
 f225 := Tryz.func284.trans (congrArg some (by kernel_rfl))
 f266 := Tryz.func310.trans (congrArg some (by kernel_rfl))
 f267 := Tryz.func286.trans (congrArg some (by kernel_rfl))
 f314 := Tryz.func311.trans (congrArg some (by kernel_rfl))
 t3 := Tryz.underlying3
 a3 := Tryz.isAgg3
 z3 := Tryz.sizeOf3
 v3 := Tryz.zeroValue3
 t4 := Tryz.underlying4
 a4 := Tryz.isAgg4
 z4 := Tryz.sizeOf4
 v4 := Tryz.zeroValue4
 t5 := Tryz.underlying5
 a5 := Tryz.isAgg5
 z5 := Tryz.sizeOf5
 v5 := Tryz.zeroValue5
 t9 := Tryz.underlying9
 a9 := Tryz.isAgg9
 z9 := Tryz.sizeOf9
 v9 := Tryz.zeroValue9
 t46 := Tryz.underlying249
 a46 := Tryz.isAgg249
 z46 := Tryz.sizeOf249
 v46 := Tryz.zeroValue249
 t51 := Tryz.underlying300
 a51 := Tryz.isAgg300
 z51 := Tryz.sizeOf300
 v51 := Tryz.zeroValue300
 t59 := Tryz.underlying259
 a59 := Tryz.isAgg259
 z59 := Tryz.sizeOf259
 v59 := Tryz.zeroValue259
 t146 := Tryz.underlying384
 a146 := Tryz.isAgg384
 z146 := Tryz.sizeOf384
 v146 := Tryz.zeroValue384
 g1 := by kernel_rfl }
open Go.RowKit Go.Lib in
theorem Tryz.strings_Cut (s sep:ByteArray) (m:Int) (w:World) (hs:s.size < 4294967281) (hm:w.cell? ⟨2,0,none⟩ = some (.int .i64 m)) :
 Calls Tryz.prog 157 #[.string s,.string sep] w fun e w' => e = .returned (.tuple #[.string ⟨(Lib.cut s.data.toList sep.data.toList).1.toArray⟩,.string ⟨(Lib.cut s.data.toList sep.data.toList).2.1.toArray⟩,.bool (Lib.cut s.data.toList sep.data.toList).2.2]) ∧ ∃ n,w' = w.drewN n := Any.strings_Cut Tryz.lays145 s sep m w hs hm
def Tryz.lays146_ren : Go.Shelf.Ren := ⟨fun | 146 => 170 | 221 => 219 | 268 => 258 | 138 => 259 | 143 => 260 | 195 => 290 | 197 => 291 | 218 => 292 | 219 => 252 | 260 => 313 | 217 => 283 | 225 => 284 | 224 => 285 | 267 => 286 | 266 => 310 | 314 => 311 | n => n,fun | 9 => 9 | 31 => 36 | 3 => 3 | 4 => 4 | 0 => 0 | 105 => 370 | 21 => 21 | 5 => 5 | 46 => 249 | 119 => 389 | 139 => 392 | 138 => 391 | 146 => 384 | 51 => 300 | n => n,fun | 1 => 2 | 3 => 6 | 4 => 7 | n => n⟩
theorem Tryz.lays146 : Go.Proofs.Lays.n146 Tryz.prog Tryz.lays146_ren := {
 mixed := by kernel_rfl
 f138 := Tryz.func259.trans (congrArg some (by kernel_rfl))
 f143 := Tryz.func260.trans (congrArg some (by kernel_rfl))
 f146 := Tryz.func170.trans (congrArg some (by kernel_rfl))
 f195 := Tryz.func290.trans (congrArg some (by kernel_rfl))
 f197 := Tryz.func291.trans (congrArg some (by kernel_rfl))
 f217 := Tryz.func283.trans (congrArg some (by kernel_rfl))
 f218 := Tryz.func292.trans (congrArg some (by kernel_rfl))
 f219 := Tryz.func252.trans (congrArg some (by kernel_rfl))
 f221 := Tryz.func219.trans (congrArg some (by kernel_rfl))
 f224 := Tryz.func285.trans (congrArg some (by kernel_rfl))
 f225 := Tryz.func284.trans (congrArg some (by kernel_rfl))
 f260 := Tryz.func313.trans (congrArg some (by kernel_rfl))
 f266 := Tryz.func310.trans (congrArg some (by kernel_rfl))
 f267 := Tryz.func286.trans (congrArg some (by kernel_rfl))
 f268 := Tryz.func258.trans (congrArg some (by kernel_rfl))
 f314 := Tryz.func311.trans (congrArg some (by kernel_rfl))
 t0 := Tryz.underlying0
 a0 := Tryz.isAgg0
 z0 := Tryz.sizeOf0
 v0 := Tryz.zeroValue0
 t3 := Tryz.underlying3
 a3 := Tryz.isAgg3
 z3 := Tryz.sizeOf3
 v3 := Tryz.zeroValue3
 t4 := Tryz.underlying4
 a4 := Tryz.isAgg4
 z4 := Tryz.sizeOf4
 v4 := Tryz.zeroValue4
 t5 := Tryz.underlying5
 a5 := Tryz.isAgg5
 z5 := Tryz.sizeOf5
 v5 := Tryz.zeroValue5
 t9 := Tryz.underlying9
 a9 := Tryz.isAgg9
 z9 := Tryz.sizeOf9
 v9 := Tryz.zeroValue9
 t21 := Tryz.underlying21
 a21 := Tryz.isAgg21
 z21 := Tryz.sizeOf21
 v21 := Tryz.zeroValue21
 t31 := Tryz.underlying36
 a31 := Tryz.isAgg36
 z31 := Tryz.sizeOf36
 v31 := Tryz.zeroValue36
 t46 := Tryz.underlying249
 a46 := Tryz.isAgg249
 z46 := Tryz.sizeOf249
 v46 := Tryz.zeroValue249
 t51 := Tryz.underlying300
 a51 := Tryz.isAgg300
 z51 := Tryz.sizeOf300
 v51 := Tryz.zeroValue300
 t105 := Tryz.underlying370
 a105 := Tryz.isAgg370
 z105 := Tryz.sizeOf370
 v105 := Tryz.zeroValue370
 t119 := Tryz.underlying389
 a119 := Tryz.isAgg389
 z119 := Tryz.sizeOf389
 t138 := Tryz.underlying391
 a138 := Tryz.isAgg391
 z138 := Tryz.sizeOf391
 v138 := Tryz.zeroValue391
 t139 := Tryz.underlying392
 a139 := Tryz.isAgg392
 z139 := Tryz.sizeOf392
 v139 := Tryz.zeroValue392
 t146 := Tryz.underlying384
 a146 := Tryz.isAgg384
 z146 := Tryz.sizeOf384
 v146 := Tryz.zeroValue384
 g1 := by kernel_rfl
 g3 := by kernel_rfl
 g4 := by kernel_rfl }
open Go.RowKit Go.Lib in
theorem Tryz.strings_Split (s sep:ByteArray) (m:Int) (w:World) (hs:s.size < 4294967281) (hm:w.cell? ⟨2,0,none⟩ = some (.int .i64 m)) (h1:1 ≤ sep.size) :
 Calls Tryz.prog 170 #[.string s,.string sep] w fun e w' =>
  e = .returned (.slice (some ⟨w.heap.size,0,none⟩) (Lib.countB s sep + 1) (Lib.countB s sep + 1)) ∧ w' = w.alloc (.cells ((Lib.splitB sep 0 (Lib.countB s sep) s).map Value.string).toArray 9) := Any.strings_Split Tryz.lays146 (by kernel_rfl) s sep m w hs hm h1
def Tryz.lays110_ren : Go.Shelf.Ren := ⟨fun | 110 => 110 | 109 => 175 | n => n,fun | 31 => 36 | 9 => 9 | 4 => 4 | 3 => 3 | 0 => 0 | n => n,fun | n => n⟩
theorem Tryz.lays110 : Go.Proofs.Lays.n110 Tryz.prog Tryz.lays110_ren := {
 mixed := by kernel_rfl
 f109 := Tryz.func175.trans (congrArg some (by kernel_rfl))
 f110 := Tryz.func110.trans (congrArg some (by kernel_rfl))
 t0 := Tryz.underlying0
 a0 := Tryz.isAgg0
 z0 := Tryz.sizeOf0
 v0 := Tryz.zeroValue0
 t3 := Tryz.underlying3
 a3 := Tryz.isAgg3
 z3 := Tryz.sizeOf3
 v3 := Tryz.zeroValue3
 t4 := Tryz.underlying4
 a4 := Tryz.isAgg4
 z4 := Tryz.sizeOf4
 v4 := Tryz.zeroValue4
 t9 := Tryz.underlying9
 a9 := Tryz.isAgg9
 z9 := Tryz.sizeOf9
 v9 := Tryz.zeroValue9
 t31 := Tryz.underlying36
 a31 := Tryz.isAgg36
 z31 := Tryz.sizeOf36
 v31 := Tryz.zeroValue36 }
open Go.Lib in
theorem Tryz.slices_Contains_string (b off n c:Nat) (zs:List ByteArray) (x:ByteArray) (w:World) (hz:n ≤ zs.length) (hbig:n ≤ 9223372036854775807) (hc:∀ j,j < zs.length → w.cell? ⟨b,off + j,none⟩ = some (.string (zs.getD j ByteArray.empty))) :
 Calls Tryz.prog 110 #[.slice (some ⟨b,off,none⟩) n c,.string x] w fun e w' => e = .returned (.bool (Lib.containsS (zs.take n) x)) ∧ w' = w := Any.slices_Contains_string Tryz.lays110 b off n c zs x w hz hbig hc
open Go.Lib in
theorem Tryz.slices_Contains_string_empty (a:Option Addr) (c:Nat) (x:ByteArray) (w:World) :
 Calls Tryz.prog 110 #[.slice a 0 c,.string x] w fun e w' => e = .returned (.bool false) ∧ w' = w := Any.slices_Contains_string_empty Tryz.lays110 a c x w
def Tryz.laysNm220_ren : Go.Shelf.Ren := ⟨fun | 20 => 80 | n => n,fun | 22 => 85 | 3 => 3 | 4 => 4 | 0 => 0 | n => n,fun | n => n⟩
theorem Tryz.laysNm220 : Go.Proofs.Lays2.n20 Tryz.prog Tryz.laysNm220_ren := {
 mixed := by kernel_rfl
 f20 := Tryz.func80.trans (congrArg some (by kernel_rfl))
 t0 := Tryz.underlying0
 a0 := Tryz.isAgg0
 z0 := Tryz.sizeOf0
 v0 := Tryz.zeroValue0
 t3 := Tryz.underlying3
 a3 := Tryz.isAgg3
 z3 := Tryz.sizeOf3
 v3 := Tryz.zeroValue3
 t4 := Tryz.underlying4
 a4 := Tryz.isAgg4
 z4 := Tryz.sizeOf4
 v4 := Tryz.zeroValue4
 t22 := Tryz.underlying85
 a22 := Tryz.isAgg85
 z22 := Tryz.sizeOf85
 v22 := Tryz.zeroValue85
 i3 := by kernel_rfl }
def Tryz.lays194_ren : Go.Shelf.Ren := ⟨fun | 194 => 233 | n => n,fun | 31 => 36 | 9 => 9 | 3 => 3 | 4 => 4 | 0 => 0 | n => n,fun | n => n⟩
theorem Tryz.lays194 : Go.Proofs.Lays.n194 Tryz.prog Tryz.lays194_ren := {
 mixed := by kernel_rfl
 f194 := Tryz.func233.trans (congrArg some (by kernel_rfl))
 t0 := Tryz.underlying0
 a0 := Tryz.isAgg0
 z0 := Tryz.sizeOf0
 v0 := Tryz.zeroValue0
 t3 := Tryz.underlying3
 a3 := Tryz.isAgg3
 z3 := Tryz.sizeOf3
 v3 := Tryz.zeroValue3
 t4 := Tryz.underlying4
 a4 := Tryz.isAgg4
 z4 := Tryz.sizeOf4
 v4 := Tryz.zeroValue4
 t9 := Tryz.underlying9
 a9 := Tryz.isAgg9
 z9 := Tryz.sizeOf9
 v9 := Tryz.zeroValue9
 t31 := Tryz.underlying36
 a31 := Tryz.isAgg36
 z31 := Tryz.sizeOf36
 v31 := Tryz.zeroValue36 }
open Go.RowKit Go.Lib Go.Sort in
theorem Tryz.slices_Compact_string (blk off cap:Nat) (zs:List (List UInt8)) (w:World) (hH:Holds encStr w blk off zs.toArray) (hsz:zs.length ≤ 9223372036854775807) (hcap:zs.length ≤ cap) :
 Calls Tryz.prog 233 #[.slice (some ⟨blk,off,none⟩) zs.length cap] w fun e w' => e = .returned (.slice (some ⟨blk,off,none⟩) (Lib.compact zs).length cap) ∧ ∃ q,w' = putRow encStr (Sort.ahead w q) blk off (Lib.compact zs ++ List.replicate (zs.length - (Lib.compact zs).length) []).toArray := Any.slices_Compact_string Tryz.lays194 blk off cap zs w hH hsz hcap
open Go.RowKit Go.Lib Go.Sort in
theorem Tryz.slices_Compact_string_empty (a:Option Addr) (cap:Nat) (w:World) :
 Calls Tryz.prog 233 #[.slice a 0 cap] w fun e w' => e = .returned (.slice a 0 cap) ∧ w' = w := Any.slices_Compact_string_empty Tryz.lays194 a cap w
open Go.RowKit Go.Lib Go.Sort in
theorem Tryz.slices_Compact_int_cells (b off n c:Nat) (zs:List Int) (w:World) (hz:n ≤ zs.length) (hbig:n ≤ 9223372036854775807) (hcap:n ≤ c) (hc:∀ j,j < zs.length → w.cell? ⟨b,off + j,none⟩ = some (.int .i64 (zs.getD j 0))) (hf:∀ j,j < n → w.frozen? ⟨b,off + j,none⟩ = false) :
 Calls Tryz.prog 80 #[.slice (some ⟨b,off,none⟩) n c] w fun e w' => e = .returned (.slice (some ⟨b,off,none⟩) (Lib.compact (zs.take n)).length c) ∧ ∃ q,w' = (w.drewN q).setCells b off ((Lib.compact (zs.take n) ++ List.replicate (n - (Lib.compact (zs.take n)).length) 0).map (Value.int .i64)) := Any.slices_Compact_int_cells Tryz.laysNm220 b off n c zs w hz hbig hcap hc hf
end Go.Proofs
