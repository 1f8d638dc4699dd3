/-
  DERIVED: THE SHELF's CONTRACTS AT THIS DUMP, IN PLAIN WORDS (tools/lay-plain.mjs out of 'TryzShelf.lean', which tools/lay-shelf.mjs wrote): THE SAME DECLARATIONS UNDER THE SAME NAMES: 'import', 'namespace', 'open', 'def', 'theorem' AND NOTHING ELSE: no command of the shelf's: FOR A HAND-IN. Each laying: the table of numbers ('.._ren') and one theorem, a field a fact of the dump's own or the kernel's comparison; each contract: ONE APPLICATION.
-/
import Derived.Shelf.Strings.Builder1
import Derived.Shelf.Strings.Builder2
import Derived.Shelf.Strings.OnBuilder
import Derived.Shelf.Small.Bits
import Derived.Shelf.Small.Strs
import Derived.Shelf.Small.Wraps
import Derived.Shelf.Utf8.RuneCount
import Derived.Shelf.Strconv.Itoa0
import Derived.Shelf.Strconv.Itoa1
import Derived.Shelf.LaysM
import Derived.Shelf.Strconv.Itoa2
import Derived.Shelf.Strconv.Itoa3
import Derived.Shelf.Strings.Search1
import Derived.Shelf.Strings.Search2
import Derived.Shelf.Strings.Search3
import Derived.Shelf.Strings.Cut
import Derived.Shelf.Strings.Count
import Derived.Shelf.Strings.Shaped
import Derived.Shelf.Strings.Split
import Derived.Shelf.Strings.SplitShaped
import Derived.Shelf.Unicode.Decode
import Derived.Shelf.Strings.RuneCount
import Derived.Shelf.Strings.Explode
import Derived.Shelf.Unicode.DecodeSlow
import Derived.Shelf.Unicode.DecodeAny
import Derived.Shelf.Slices.Turned
import Derived.Ground.Names2Prog
import Derived.Shelf.Slices.CompactI
import Derived.Shelf.Slices.CompactS
import Derived.Shelf.Slices.SearchI
import Derived.Shelf.Slices.Cells
import Derived.Ground.SlgmProg
import Derived.Shelf.SortM.Plain
import Derived.Shelf.SortM.SortNone
import Derived.Test.YtoancknoinilaaaGreatDoorProg
namespace Go.Proofs
open Go.Shelf
def Tryz.lays156_ren : Go.Shelf.Ren := ⟨fun | 156 => 132 | 165 => 197 | 166 => 75 | 169 => 80 | 240 => 130 | 241 => 238 | 276 => 192 | 277 => 264 | n => n,fun | 31 => 48 | 9 => 9 | 3 => 3 | 4 => 4 | 0 => 0 | 20 => 20 | 72 => 136 | 76 => 139 | 70 => 133 | 37 => 134 | 75 => 138 | 127 => 199 | 164 => 256 | 5 => 5 | 80 => 146 | n => n,fun | n => n⟩
theorem Tryz.lays156 : Go.Proofs.Lays.n156 Tryz.prog Tryz.lays156_ren := {
 mixed := by kernel_rfl
 f156 := Tryz.func132.trans (congrArg some (by kernel_rfl))
 f165 := Tryz.func197.trans (congrArg some (by kernel_rfl))
 f166 := Tryz.func75.trans (congrArg some (by kernel_rfl))
 f169 := Tryz.func80.trans (congrArg some (by kernel_rfl))
 f240 := Tryz.func130.trans (congrArg some (by kernel_rfl))
 f241 := Tryz.func238.trans (congrArg some (by kernel_rfl))
 f276 := Tryz.func192.trans (congrArg some (by kernel_rfl))
 f277 := Tryz.func264.trans (congrArg some (by kernel_rfl))
 t0 := Tryz.underlying0
 a0 := Tryz.isAgg0
 z0 := Tryz.sizeOf0
 v0 := Tryz.zeroValue0
 t3 := Tryz.underlying3
 a3 := Tryz.isAgg3
 z3 := Tryz.sizeOf3
 v3 := Tryz.zeroValue3
 t4 := Tryz.underlying4
 a4 := Tryz.isAgg4
 z4 := Tryz.sizeOf4
 v4 := Tryz.zeroValue4
 t9 := Tryz.underlying9
 a9 := Tryz.isAgg9
 z9 := Tryz.sizeOf9
 v9 := Tryz.zeroValue9
 t20 := Tryz.underlying20
 a20 := Tryz.isAgg20
 z20 := Tryz.sizeOf20
 v20 := Tryz.zeroValue20
 t31 := Tryz.underlying48
 a31 := Tryz.isAgg48
 z31 := Tryz.sizeOf48
 v31 := Tryz.zeroValue48
 t37 := Tryz.underlying134
 a37 := Tryz.isAgg134
 z37 := Tryz.sizeOf134
 v37 := Tryz.zeroValue134
 t70 := Tryz.underlying133
 a70 := Tryz.isAgg133
 z70 := Tryz.sizeOf133
 v70 := Tryz.zeroValue133
 t72 := Tryz.underlying136
 a72 := Tryz.isAgg136
 z72 := Tryz.sizeOf136
 v72 := Tryz.zeroValue136
 t75 := Tryz.underlying138
 a75 := Tryz.isAgg138
 z75 := Tryz.sizeOf138
 v75 := Tryz.zeroValue138
 t76 := Tryz.underlying139
 a76 := Tryz.isAgg139
 z76 := Tryz.sizeOf139
 v76 := Tryz.zeroValue139
 t127 := Tryz.underlying199
 a127 := Tryz.isAgg199
 z127 := Tryz.sizeOf199
 v127 := Tryz.zeroValue199
 t164 := Tryz.underlying256
 a164 := Tryz.isAgg256
 z164 := Tryz.sizeOf256
 v164 := Tryz.zeroValue256 }
theorem Tryz.Builder_Extra_156 : Builder.Extra Tryz.prog Tryz.lays156_ren := {
 sizeBuilder := by kernel_rfl
 liesBuilder := by kernel_rfl
 t5 := Tryz.underlying5
 a5 := Tryz.isAgg5
 z5 := Tryz.sizeOf5
 v5 := Tryz.zeroValue5
 infoByte := by kernel_rfl
 cellsByte := by kernel_rfl
 sizeByte := by kernel_rfl
 neB5 := by decide }
open Go.RowKit in
theorem Tryz.strings_Join (bk o c:Nat) (xs:List ByteArray) (sep:ByteArray) (w:World) (hcells:∀ (j:Nat) x,xs[j]? = some x → w.cell? ⟨bk,o + j,none⟩ = some (.string x)) (hbk:bk < w.heap.size) (hN:xs.length ≤ 140737488355328) (hcap:xs.length ≤ c) (hlen:(Lib.join (xs.map (·.data.toList)) sep.data.toList).length ≤ 140737488355328) :
 Calls Tryz.prog 132 #[.slice (some ⟨bk,o,none⟩) xs.length c,.string sep] w fun e w' => e = .returned (.string ⟨(Lib.join (xs.map (·.data.toList)) sep.data.toList).toArray⟩) ∧ Below w.heap.size w w' := Any.strings_Join Tryz.lays156 Tryz.Builder_Extra_156 bk o c xs sep w hcells hbk hN hcap hlen
def Tryz.lays106_ren : Go.Shelf.Ren := ⟨fun | 106 => 148 | 213 => 200 | 265 => 240 | n => n,fun | 9 => 9 | 3 => 3 | n => n,fun | n => n⟩
theorem Tryz.lays106 : Go.Proofs.Lays.n106 Tryz.prog Tryz.lays106_ren := {
 mixed := by kernel_rfl
 f106 := Tryz.func148.trans (congrArg some (by kernel_rfl))
 f213 := Tryz.func200.trans (congrArg some (by kernel_rfl))
 f265 := Tryz.func240.trans (congrArg some (by kernel_rfl))
 t3 := Tryz.underlying3
 a3 := Tryz.isAgg3
 z3 := Tryz.sizeOf3
 v3 := Tryz.zeroValue3
 t9 := Tryz.underlying9
 a9 := Tryz.isAgg9
 z9 := Tryz.sizeOf9
 v9 := Tryz.zeroValue9 }
open Go.RowKit in
theorem Tryz.strings_Compare (a b:ByteArray) (w:World) :
 Calls Tryz.prog 148 #[.string a,.string b] w fun e w' => e = .returned (.int .i64 (Lib.compareBytes a.data.toList b.data.toList)) ∧ w' = w := Any.strings_Compare Tryz.lays106 a b w
def Tryz.laysM171_ren : Go.Shelf.Ren := ⟨fun | 171 => 79 | 243 => 133 | 246 => 131 | 283 => 193 | 284 => 194 | 285 => 195 | 286 => 196 | 129 => 234 | 317 => 233 | 318 => 235 | 319 => 236 | 320 => 237 | 337 => 262 | 338 => 263 | n => n,fun | 3 => 3 | 9 => 9 | 2 => 2 | 4 => 4 | 171 => 258 | 0 => 0 | 53 => 259 | 37 => 134 | 5 => 5 | 173 => 262 | 212 => 316 | 51 => 317 | 20 => 20 | 213 => 318 | 46 => 296 | 232 => 365 | 233 => 366 | n => n,fun | 17 => 2 | 18 => 6 | 19 => 7 | n => n⟩
theorem Tryz.laysM171 : Go.Proofs.LaysM.n171 Tryz.prog Tryz.laysM171_ren := {
 mixed := by kernel_rfl
 f129 := Tryz.func234.trans (congrArg some (by kernel_rfl))
 f171 := Tryz.func79.trans (congrArg some (by kernel_rfl))
 f243 := Tryz.func133.trans (congrArg some (by kernel_rfl))
 f246 := Tryz.func131.trans (congrArg some (by kernel_rfl))
 f283 := Tryz.func193.trans (congrArg some (by kernel_rfl))
 f284 := Tryz.func194.trans (congrArg some (by kernel_rfl))
 f285 := Tryz.func195.trans (congrArg some (by kernel_rfl))
 f286 := Tryz.func196.trans (congrArg some (by kernel_rfl))
 f317 := Tryz.func233.trans (congrArg some (by kernel_rfl))
 f318 := Tryz.func235.trans (congrArg some (by kernel_rfl))
 f319 := Tryz.func236.trans (congrArg some (by kernel_rfl))
 f320 := Tryz.func237.trans (congrArg some (by kernel_rfl))
 f337 := Tryz.func262.trans (congrArg some (by kernel_rfl))
 f338 := Tryz.func263.trans (congrArg some (by kernel_rfl))
 t0 := Tryz.underlying0
 a0 := Tryz.isAgg0
 z0 := Tryz.sizeOf0
 v0 := Tryz.zeroValue0
 t2 := Tryz.underlying2
 a2 := Tryz.isAgg2
 z2 := Tryz.sizeOf2
 v2 := Tryz.zeroValue2
 t3 := Tryz.underlying3
 a3 := Tryz.isAgg3
 z3 := Tryz.sizeOf3
 v3 := Tryz.zeroValue3
 t4 := Tryz.underlying4
 a4 := Tryz.isAgg4
 z4 := Tryz.sizeOf4
 v4 := Tryz.zeroValue4
 t5 := Tryz.underlying5
 a5 := Tryz.isAgg5
 z5 := Tryz.sizeOf5
 v5 := Tryz.zeroValue5
 t9 := Tryz.underlying9
 a9 := Tryz.isAgg9
 z9 := Tryz.sizeOf9
 v9 := Tryz.zeroValue9
 t20 := Tryz.underlying20
 a20 := Tryz.isAgg20
 z20 := Tryz.sizeOf20
 v20 := Tryz.zeroValue20
 t37 := Tryz.underlying134
 a37 := Tryz.isAgg134
 z37 := Tryz.sizeOf134
 v37 := Tryz.zeroValue134
 t46 := Tryz.underlying296
 a46 := Tryz.isAgg296
 z46 := Tryz.sizeOf296
 v46 := Tryz.zeroValue296
 t51 := Tryz.underlying317
 a51 := Tryz.isAgg317
 z51 := Tryz.sizeOf317
 v51 := Tryz.zeroValue317
 t53 := Tryz.underlying259
 a53 := Tryz.isAgg259
 z53 := Tryz.sizeOf259
 v53 := Tryz.zeroValue259
 t171 := Tryz.underlying258
 a171 := Tryz.isAgg258
 z171 := Tryz.sizeOf258
 v171 := Tryz.zeroValue258
 t173 := Tryz.underlying262
 a173 := Tryz.isAgg262
 z173 := Tryz.sizeOf262
 v173 := Tryz.zeroValue262
 t212 := Tryz.underlying316
 a212 := Tryz.isAgg316
 z212 := Tryz.sizeOf316
 v212 := Tryz.zeroValue316
 t213 := Tryz.underlying318
 a213 := Tryz.isAgg318
 z213 := Tryz.sizeOf318
 t232 := Tryz.underlying365
 a232 := Tryz.isAgg365
 z232 := Tryz.sizeOf365
 v232 := Tryz.zeroValue365
 t233 := Tryz.underlying366
 a233 := Tryz.isAgg366
 z233 := Tryz.sizeOf366
 v233 := Tryz.zeroValue366
 g17 := by kernel_rfl
 g18 := by kernel_rfl
 g19 := by kernel_rfl
 i0 := by kernel_rfl
 i2 := by kernel_rfl
 i3 := by kernel_rfl
 i4 := by kernel_rfl
 i5 := by kernel_rfl
 i9 := by kernel_rfl
 i20 := by kernel_rfl
 i37 := by kernel_rfl
 i46 := by kernel_rfl
 i51 := by kernel_rfl
 i53 := by kernel_rfl
 i171 := by kernel_rfl
 i173 := by kernel_rfl
 i212 := by kernel_rfl
 i232 := by kernel_rfl
 i233 := by kernel_rfl
 m17 := by kernel_rfl
 m18 := by kernel_rfl
 m19 := by kernel_rfl }
open Go.RowKit Go.Sort Go.Lib in
theorem Tryz.strconv_Itoa (n : Int) (h0 : -9223372036854775808 ≤ n) (h1 : n ≤ 9223372036854775807) (w : World) (htab : Lib.TabIs Tryz.prog w "internal/strconv.uint64pow10" .u64 Lib.pow10Tab) :
 Calls Tryz.prog 79 #[.int .i64 n] w fun e w' => e = .returned (.string ⟨(Lib.itoa n).toArray⟩) ∧ ∃ k os,w' = grow (w.drewN k) os := Any.strconv_Itoa Tryz.laysM171 n h0 h1 w htab
def Tryz.lays145_ren : Go.Shelf.Ren := ⟨fun | 145 => 145 | 220 => 198 | 219 => 239 | 217 => 265 | 225 => 266 | 224 => 267 | 267 => 268 | 266 => 301 | 314 => 302 | n => n,fun | 9 => 9 | 4 => 4 | 59 => 205 | 3 => 3 | 5 => 5 | 46 => 296 | 146 => 367 | 51 => 317 | n => n,fun | 1 => 3 | n => n⟩
theorem Tryz.lays145 : Go.Proofs.Lays.n145 Tryz.prog Tryz.lays145_ren := {
 mixed := by kernel_rfl
 f145 := Tryz.func145.trans (congrArg some (by kernel_rfl))
 f217 := Tryz.func265.trans (congrArg some (by kernel_rfl))
 f219 := Tryz.func239.trans (congrArg some (by kernel_rfl))
 f220 := Tryz.func198.trans (congrArg some (by kernel_rfl))
 f224 := Tryz.func267.trans (congrArg some (by kernel_rfl))
 f225 := Tryz.func266.trans (congrArg some (by kernel_rfl))
 f266 := Tryz.func301.trans (congrArg some (by kernel_rfl))
 f267 := Tryz.func268.trans (congrArg some (by kernel_rfl))
 f314 := Tryz.func302.trans (congrArg some (by kernel_rfl))
 t3 := Tryz.underlying3
 a3 := Tryz.isAgg3
 z3 := Tryz.sizeOf3
 v3 := Tryz.zeroValue3
 t4 := Tryz.underlying4
 a4 := Tryz.isAgg4
 z4 := Tryz.sizeOf4
 v4 := Tryz.zeroValue4
 t5 := Tryz.underlying5
 a5 := Tryz.isAgg5
 z5 := Tryz.sizeOf5
 v5 := Tryz.zeroValue5
 t9 := Tryz.underlying9
 a9 := Tryz.isAgg9
 z9 := Tryz.sizeOf9
 v9 := Tryz.zeroValue9
 t46 := Tryz.underlying296
 a46 := Tryz.isAgg296
 z46 := Tryz.sizeOf296
 v46 := Tryz.zeroValue296
 t51 := Tryz.underlying317
 a51 := Tryz.isAgg317
 z51 := Tryz.sizeOf317
 v51 := Tryz.zeroValue317
 t59 := Tryz.underlying205
 a59 := Tryz.isAgg205
 z59 := Tryz.sizeOf205
 v59 := Tryz.zeroValue205
 t146 := Tryz.underlying367
 a146 := Tryz.isAgg367
 z146 := Tryz.sizeOf367
 v146 := Tryz.zeroValue367
 g1 := by kernel_rfl }
open Go.RowKit Go.Lib in
theorem Tryz.strings_Cut (s sep:ByteArray) (m:Int) (w:World) (hs:s.size < 4294967281) (hm:w.cell? ⟨3,0,none⟩ = some (.int .i64 m)) :
 Calls Tryz.prog 145 #[.string s,.string sep] w fun e w' => e = .returned (.tuple #[.string ⟨(Lib.cut s.data.toList sep.data.toList).1.toArray⟩,.string ⟨(Lib.cut s.data.toList sep.data.toList).2.1.toArray⟩,.bool (Lib.cut s.data.toList sep.data.toList).2.2]) ∧ ∃ n,w' = w.drewN n := Any.strings_Cut Tryz.lays145 s sep m w hs hm
def Tryz.lays146_ren : Go.Shelf.Ren := ⟨fun | 146 => 177 | 221 => 221 | 268 => 253 | 138 => 254 | 143 => 255 | 195 => 290 | 197 => 291 | 218 => 292 | 219 => 239 | 260 => 321 | 217 => 265 | 225 => 266 | 224 => 267 | 267 => 268 | 266 => 301 | 314 => 302 | n => n,fun | 9 => 9 | 31 => 48 | 3 => 3 | 4 => 4 | 0 => 0 | 105 => 354 | 21 => 21 | 5 => 5 | 46 => 296 | 119 => 390 | 139 => 393 | 138 => 392 | 146 => 367 | 51 => 317 | n => n,fun | 1 => 3 | 3 => 8 | 4 => 9 | n => n⟩
theorem Tryz.lays146 : Go.Proofs.Lays.n146 Tryz.prog Tryz.lays146_ren := {
 mixed := by kernel_rfl
 f138 := Tryz.func254.trans (congrArg some (by kernel_rfl))
 f143 := Tryz.func255.trans (congrArg some (by kernel_rfl))
 f146 := Tryz.func177.trans (congrArg some (by kernel_rfl))
 f195 := Tryz.func290.trans (congrArg some (by kernel_rfl))
 f197 := Tryz.func291.trans (congrArg some (by kernel_rfl))
 f217 := Tryz.func265.trans (congrArg some (by kernel_rfl))
 f218 := Tryz.func292.trans (congrArg some (by kernel_rfl))
 f219 := Tryz.func239.trans (congrArg some (by kernel_rfl))
 f221 := Tryz.func221.trans (congrArg some (by kernel_rfl))
 f224 := Tryz.func267.trans (congrArg some (by kernel_rfl))
 f225 := Tryz.func266.trans (congrArg some (by kernel_rfl))
 f260 := Tryz.func321.trans (congrArg some (by kernel_rfl))
 f266 := Tryz.func301.trans (congrArg some (by kernel_rfl))
 f267 := Tryz.func268.trans (congrArg some (by kernel_rfl))
 f268 := Tryz.func253.trans (congrArg some (by kernel_rfl))
 f314 := Tryz.func302.trans (congrArg some (by kernel_rfl))
 t0 := Tryz.underlying0
 a0 := Tryz.isAgg0
 z0 := Tryz.sizeOf0
 v0 := Tryz.zeroValue0
 t3 := Tryz.underlying3
 a3 := Tryz.isAgg3
 z3 := Tryz.sizeOf3
 v3 := Tryz.zeroValue3
 t4 := Tryz.underlying4
 a4 := Tryz.isAgg4
 z4 := Tryz.sizeOf4
 v4 := Tryz.zeroValue4
 t5 := Tryz.underlying5
 a5 := Tryz.isAgg5
 z5 := Tryz.sizeOf5
 v5 := Tryz.zeroValue5
 t9 := Tryz.underlying9
 a9 := Tryz.isAgg9
 z9 := Tryz.sizeOf9
 v9 := Tryz.zeroValue9
 t21 := Tryz.underlying21
 a21 := Tryz.isAgg21
 z21 := Tryz.sizeOf21
 v21 := Tryz.zeroValue21
 t31 := Tryz.underlying48
 a31 := Tryz.isAgg48
 z31 := Tryz.sizeOf48
 v31 := Tryz.zeroValue48
 t46 := Tryz.underlying296
 a46 := Tryz.isAgg296
 z46 := Tryz.sizeOf296
 v46 := Tryz.zeroValue296
 t51 := Tryz.underlying317
 a51 := Tryz.isAgg317
 z51 := Tryz.sizeOf317
 v51 := Tryz.zeroValue317
 t105 := Tryz.underlying354
 a105 := Tryz.isAgg354
 z105 := Tryz.sizeOf354
 v105 := Tryz.zeroValue354
 t119 := Tryz.underlying390
 a119 := Tryz.isAgg390
 z119 := Tryz.sizeOf390
 t138 := Tryz.underlying392
 a138 := Tryz.isAgg392
 z138 := Tryz.sizeOf392
 v138 := Tryz.zeroValue392
 t139 := Tryz.underlying393
 a139 := Tryz.isAgg393
 z139 := Tryz.sizeOf393
 v139 := Tryz.zeroValue393
 t146 := Tryz.underlying367
 a146 := Tryz.isAgg367
 z146 := Tryz.sizeOf367
 v146 := Tryz.zeroValue367
 g1 := by kernel_rfl
 g3 := by kernel_rfl
 g4 := by kernel_rfl }
open Go.RowKit Go.Lib in
theorem Tryz.strings_Split (s sep:ByteArray) (m:Int) (w:World) (hs:s.size < 4294967281) (hm:w.cell? ⟨3,0,none⟩ = some (.int .i64 m)) (h1:1 ≤ sep.size) :
 Calls Tryz.prog 177 #[.string s,.string sep] w fun e w' =>
  e = .returned (.slice (some ⟨w.heap.size,0,none⟩) (Lib.countB s sep + 1) (Lib.countB s sep + 1)) ∧ w' = w.alloc (.cells ((Lib.splitB sep 0 (Lib.countB s sep) s).map Value.string).toArray 9) := Any.strings_Split Tryz.lays146 (by kernel_rfl) s sep m w hs hm h1
def Tryz.lays110_ren : Go.Shelf.Ren := ⟨fun | 110 => 121 | 109 => 188 | n => n,fun | 31 => 48 | 9 => 9 | 4 => 4 | 3 => 3 | 0 => 0 | n => n,fun | n => n⟩
theorem Tryz.lays110 : Go.Proofs.Lays.n110 Tryz.prog Tryz.lays110_ren := {
 mixed := by kernel_rfl
 f109 := Tryz.func188.trans (congrArg some (by kernel_rfl))
 f110 := Tryz.func121.trans (congrArg some (by kernel_rfl))
 t0 := Tryz.underlying0
 a0 := Tryz.isAgg0
 z0 := Tryz.sizeOf0
 v0 := Tryz.zeroValue0
 t3 := Tryz.underlying3
 a3 := Tryz.isAgg3
 z3 := Tryz.sizeOf3
 v3 := Tryz.zeroValue3
 t4 := Tryz.underlying4
 a4 := Tryz.isAgg4
 z4 := Tryz.sizeOf4
 v4 := Tryz.zeroValue4
 t9 := Tryz.underlying9
 a9 := Tryz.isAgg9
 z9 := Tryz.sizeOf9
 v9 := Tryz.zeroValue9
 t31 := Tryz.underlying48
 a31 := Tryz.isAgg48
 z31 := Tryz.sizeOf48
 v31 := Tryz.zeroValue48 }
open Go.Lib in
theorem Tryz.slices_Contains_string (b off n c:Nat) (zs:List ByteArray) (x:ByteArray) (w:World) (hz:n ≤ zs.length) (hbig:n ≤ 9223372036854775807) (hc:∀ j,j < zs.length → w.cell? ⟨b,off + j,none⟩ = some (.string (zs.getD j ByteArray.empty))) :
 Calls Tryz.prog 121 #[.slice (some ⟨b,off,none⟩) n c,.string x] w fun e w' => e = .returned (.bool (Lib.containsS (zs.take n) x)) ∧ w' = w := Any.slices_Contains_string Tryz.lays110 b off n c zs x w hz hbig hc
open Go.Lib in
theorem Tryz.slices_Contains_string_empty (a:Option Addr) (c:Nat) (x:ByteArray) (w:World) :
 Calls Tryz.prog 121 #[.slice a 0 c,.string x] w fun e w' => e = .returned (.bool false) ∧ w' = w := Any.slices_Contains_string_empty Tryz.lays110 a c x w
def Tryz.lays194_ren : Go.Shelf.Ren := ⟨fun | 194 => 294 | n => n,fun | 31 => 48 | 9 => 9 | 3 => 3 | 4 => 4 | 0 => 0 | n => n,fun | n => n⟩
theorem Tryz.lays194 : Go.Proofs.Lays.n194 Tryz.prog Tryz.lays194_ren := {
 mixed := by kernel_rfl
 f194 := Tryz.func294.trans (congrArg some (by kernel_rfl))
 t0 := Tryz.underlying0
 a0 := Tryz.isAgg0
 z0 := Tryz.sizeOf0
 v0 := Tryz.zeroValue0
 t3 := Tryz.underlying3
 a3 := Tryz.isAgg3
 z3 := Tryz.sizeOf3
 v3 := Tryz.zeroValue3
 t4 := Tryz.underlying4
 a4 := Tryz.isAgg4
 z4 := Tryz.sizeOf4
 v4 := Tryz.zeroValue4
 t9 := Tryz.underlying9
 a9 := Tryz.isAgg9
 z9 := Tryz.sizeOf9
 v9 := Tryz.zeroValue9
 t31 := Tryz.underlying48
 a31 := Tryz.isAgg48
 z31 := Tryz.sizeOf48
 v31 := Tryz.zeroValue48 }
open Go.RowKit Go.Lib Go.Sort in
theorem Tryz.slices_Compact_string (blk off cap:Nat) (zs:List (List UInt8)) (w:World) (hH:Holds encStr w blk off zs.toArray) (hsz:zs.length ≤ 9223372036854775807) (hcap:zs.length ≤ cap) :
 Calls Tryz.prog 294 #[.slice (some ⟨blk,off,none⟩) zs.length cap] w fun e w' => e = .returned (.slice (some ⟨blk,off,none⟩) (Lib.compact zs).length cap) ∧ ∃ q,w' = putRow encStr (Sort.ahead w q) blk off (Lib.compact zs ++ List.replicate (zs.length - (Lib.compact zs).length) []).toArray := Any.slices_Compact_string Tryz.lays194 blk off cap zs w hH hsz hcap
open Go.RowKit Go.Lib Go.Sort in
theorem Tryz.slices_Compact_string_empty (a:Option Addr) (cap:Nat) (w:World) :
 Calls Tryz.prog 294 #[.slice a 0 cap] w fun e w' => e = .returned (.slice a 0 cap) ∧ w' = w := Any.slices_Compact_string_empty Tryz.lays194 a cap w
def Tryz.laysSlM5_f324_ren : Go.Shelf.Ren := ⟨fun | 5 => 324 | 8 => 244 | 7 => 332 | 19 => 278 | 20 => 234 | 10 => 334 | 11 => 335 | 12 => 336 | 13 => 337 | 14 => 338 | 15 => 339 | 16 => 340 | 17 => 341 | 18 => 342 | 30 => 343 | 31 => 305 | 32 => 306 | 33 => 344 | 34 => 345 | 35 => 199 | 40 => 346 | n => n,fun | 23 => 247 | 25 => 3 | 3 => 3 | 32 => 296 | 22 => 247 | 0 => 0 | 44 => 317 | 46 => 259 | 4 => 4 | 36 => 341 | 35 => 340 | 41 => 345 | 5 => 5 | 9 => 9 | 53 => 369 | 57 => 373 | 63 => 384 | 64 => 385 | n => n,fun | n => n⟩
theorem Tryz.laysSlM5_f324 : Go.Proofs.SlLaysM.n5 Tryz.prog Tryz.laysSlM5_f324_ren := {
 mixed := by kernel_rfl
 f5 := ⟨Tryz.f324.name,by decide,Tryz.func324.trans (congrArg some (by kernel_rfl))⟩
 f7 := ⟨Tryz.f332.name,by decide,Tryz.func332.trans (congrArg some (by kernel_rfl))⟩
 f8 := Tryz.func244.trans (congrArg some (by kernel_rfl))
 f10 := ⟨Tryz.f334.name,by decide,Tryz.func334.trans (congrArg some (by kernel_rfl))⟩
 f11 := ⟨Tryz.f335.name,by decide,Tryz.func335.trans (congrArg some (by kernel_rfl))⟩
 f12 := ⟨Tryz.f336.name,by decide,Tryz.func336.trans (congrArg some (by kernel_rfl))⟩
 f13 := ⟨Tryz.f337.name,by decide,Tryz.func337.trans (congrArg some (by kernel_rfl))⟩
 f14 := ⟨Tryz.f338.name,by decide,Tryz.func338.trans (congrArg some (by kernel_rfl))⟩
 f15 := ⟨Tryz.f339.name,by decide,Tryz.func339.trans (congrArg some (by kernel_rfl))⟩
 f16 := ⟨Tryz.f340.name,by decide,Tryz.func340.trans (congrArg some (by kernel_rfl))⟩
 f17 := ⟨Tryz.f341.name,by decide,Tryz.func341.trans (congrArg some (by kernel_rfl))⟩
 f18 := ⟨Tryz.f342.name,by decide,Tryz.func342.trans (congrArg some (by kernel_rfl))⟩
 f19 := Tryz.func278.trans (congrArg some (by kernel_rfl))
 f20 := Tryz.func234.trans (congrArg some (by kernel_rfl))
 f30 := ⟨Tryz.f343.name,by decide,Tryz.func343.trans (congrArg some (by kernel_rfl))⟩
 f31 := Tryz.func305.trans (congrArg some (by kernel_rfl))
 f32 := Tryz.func306.trans (congrArg some (by kernel_rfl))
 f33 := ⟨Tryz.f344.name,by decide,Tryz.func344.trans (congrArg some (by kernel_rfl))⟩
 f34 := ⟨Tryz.f345.name,by decide,Tryz.func345.trans (congrArg some (by kernel_rfl))⟩
 f35 := ⟨Tryz.f199.name,by decide,Tryz.func199.trans (congrArg some (by kernel_rfl))⟩
 f40 := ⟨Tryz.f346.name,by decide,Tryz.func346.trans (congrArg some (by kernel_rfl))⟩
 t0 := Tryz.underlying0
 a0 := Tryz.isAgg0
 z0 := Tryz.sizeOf0
 v0 := Tryz.zeroValue0
 t3 := Tryz.underlying3
 a3 := Tryz.isAgg3
 z3 := Tryz.sizeOf3
 v3 := Tryz.zeroValue3
 t4 := Tryz.underlying4
 a4 := Tryz.isAgg4
 z4 := Tryz.sizeOf4
 v4 := Tryz.zeroValue4
 t5 := Tryz.underlying5
 a5 := Tryz.isAgg5
 z5 := Tryz.sizeOf5
 v5 := Tryz.zeroValue5
 t9 := Tryz.underlying9
 a9 := Tryz.isAgg9
 z9 := Tryz.sizeOf9
 v9 := Tryz.zeroValue9
 t22 := Tryz.underlying247
 a22 := Tryz.isAgg247
 z22 := Tryz.sizeOf247
 v22 := Tryz.zeroValue247
 t23 := Tryz.underlying247
 a23 := Tryz.isAgg247
 z23 := Tryz.sizeOf247
 v23 := Tryz.zeroValue247
 t25 := Tryz.underlying3
 a25 := Tryz.isAgg3
 z25 := Tryz.sizeOf3
 v25 := Tryz.zeroValue3
 t32 := Tryz.underlying296
 a32 := Tryz.isAgg296
 z32 := Tryz.sizeOf296
 v32 := Tryz.zeroValue296
 t35 := Tryz.underlying340
 a35 := Tryz.isAgg340
 z35 := Tryz.sizeOf340
 v35 := Tryz.zeroValue340
 t36 := Tryz.underlying341
 a36 := Tryz.isAgg341
 z36 := Tryz.sizeOf341
 v36 := Tryz.zeroValue341
 t41 := Tryz.underlying345
 a41 := Tryz.isAgg345
 z41 := Tryz.sizeOf345
 v41 := Tryz.zeroValue345
 t44 := Tryz.underlying317
 a44 := Tryz.isAgg317
 z44 := Tryz.sizeOf317
 v44 := Tryz.zeroValue317
 t46 := Tryz.underlying259
 a46 := Tryz.isAgg259
 z46 := Tryz.sizeOf259
 v46 := Tryz.zeroValue259
 t53 := Tryz.underlying369
 a53 := Tryz.isAgg369
 z53 := Tryz.sizeOf369
 v53 := Tryz.zeroValue369
 t57 := Tryz.underlying373
 a57 := Tryz.isAgg373
 z57 := Tryz.sizeOf373
 v57 := Tryz.zeroValue373
 t63 := Tryz.underlying384
 a63 := Tryz.isAgg384
 z63 := Tryz.sizeOf384
 v63 := Tryz.zeroValue384
 t64 := Tryz.underlying385
 a64 := Tryz.isAgg385
 z64 := Tryz.sizeOf385
 v64 := Tryz.zeroValue385 }
open Go.Sort Go.RowKit in
theorem Tryz.slices_Sort_int (blk off cap:Nat) (zs:List Int) (w:World) (hH:Holds (Value.int .i64) w blk off zs.toArray) (hblk:blk < w.heap.size) (hsz:zs.length < 4611686018427387904) :
 Calls Tryz.prog 324 #[.slice (some ⟨blk,off,none⟩) zs.length cap] w fun e w' =>
  e = .returned (.tuple #[]) ∧ ∃ n os,w' = grow (putRow (Value.int .i64) (Sort.ahead w n) blk off (zs.mergeSort fun x y => decide (x ≤ y)).toArray) os := AnyM.slices_Sort_int Tryz.laysSlM5_f324 blk off cap zs w hH hblk hsz
def Tryz.laysSlM6_f250_ren : Go.Shelf.Ren := ⟨fun | 6 => 250 | 8 => 244 | 9 => 280 | 19 => 278 | 20 => 234 | 21 => 309 | 22 => 310 | 23 => 311 | 24 => 312 | 25 => 313 | 26 => 314 | 27 => 315 | 28 => 316 | 29 => 317 | 36 => 327 | 31 => 305 | 32 => 306 | 37 => 328 | 38 => 329 | 39 => 246 | 41 => 333 | n => n,fun | 27 => 48 | 29 => 9 | 3 => 3 | 32 => 296 | 26 => 48 | 0 => 0 | 44 => 317 | 46 => 259 | 4 => 4 | 36 => 341 | 35 => 340 | 41 => 345 | 5 => 5 | 9 => 9 | 53 => 369 | 57 => 373 | 63 => 384 | 64 => 385 | n => n,fun | n => n⟩
theorem Tryz.laysSlM6_f250 : Go.Proofs.SlLaysM.n6 Tryz.prog Tryz.laysSlM6_f250_ren := {
 mixed := by kernel_rfl
 f6 := ⟨Tryz.f250.name,by decide,Tryz.func250.trans (congrArg some (by kernel_rfl))⟩
 f8 := Tryz.func244.trans (congrArg some (by kernel_rfl))
 f9 := ⟨Tryz.f280.name,by decide,Tryz.func280.trans (congrArg some (by kernel_rfl))⟩
 f19 := Tryz.func278.trans (congrArg some (by kernel_rfl))
 f20 := Tryz.func234.trans (congrArg some (by kernel_rfl))
 f21 := ⟨Tryz.f309.name,by decide,Tryz.func309.trans (congrArg some (by kernel_rfl))⟩
 f22 := ⟨Tryz.f310.name,by decide,Tryz.func310.trans (congrArg some (by kernel_rfl))⟩
 f23 := ⟨Tryz.f311.name,by decide,Tryz.func311.trans (congrArg some (by kernel_rfl))⟩
 f24 := ⟨Tryz.f312.name,by decide,Tryz.func312.trans (congrArg some (by kernel_rfl))⟩
 f25 := ⟨Tryz.f313.name,by decide,Tryz.func313.trans (congrArg some (by kernel_rfl))⟩
 f26 := ⟨Tryz.f314.name,by decide,Tryz.func314.trans (congrArg some (by kernel_rfl))⟩
 f27 := ⟨Tryz.f315.name,by decide,Tryz.func315.trans (congrArg some (by kernel_rfl))⟩
 f28 := ⟨Tryz.f316.name,by decide,Tryz.func316.trans (congrArg some (by kernel_rfl))⟩
 f29 := ⟨Tryz.f317.name,by decide,Tryz.func317.trans (congrArg some (by kernel_rfl))⟩
 f31 := Tryz.func305.trans (congrArg some (by kernel_rfl))
 f32 := Tryz.func306.trans (congrArg some (by kernel_rfl))
 f36 := ⟨Tryz.f327.name,by decide,Tryz.func327.trans (congrArg some (by kernel_rfl))⟩
 f37 := ⟨Tryz.f328.name,by decide,Tryz.func328.trans (congrArg some (by kernel_rfl))⟩
 f38 := ⟨Tryz.f329.name,by decide,Tryz.func329.trans (congrArg some (by kernel_rfl))⟩
 f39 := ⟨Tryz.f246.name,by decide,Tryz.func246.trans (congrArg some (by kernel_rfl))⟩
 f41 := ⟨Tryz.f333.name,by decide,Tryz.func333.trans (congrArg some (by kernel_rfl))⟩
 t0 := Tryz.underlying0
 a0 := Tryz.isAgg0
 z0 := Tryz.sizeOf0
 v0 := Tryz.zeroValue0
 t3 := Tryz.underlying3
 a3 := Tryz.isAgg3
 z3 := Tryz.sizeOf3
 v3 := Tryz.zeroValue3
 t4 := Tryz.underlying4
 a4 := Tryz.isAgg4
 z4 := Tryz.sizeOf4
 v4 := Tryz.zeroValue4
 t5 := Tryz.underlying5
 a5 := Tryz.isAgg5
 z5 := Tryz.sizeOf5
 v5 := Tryz.zeroValue5
 t9 := Tryz.underlying9
 a9 := Tryz.isAgg9
 z9 := Tryz.sizeOf9
 v9 := Tryz.zeroValue9
 t26 := Tryz.underlying48
 a26 := Tryz.isAgg48
 z26 := Tryz.sizeOf48
 v26 := Tryz.zeroValue48
 t27 := Tryz.underlying48
 a27 := Tryz.isAgg48
 z27 := Tryz.sizeOf48
 v27 := Tryz.zeroValue48
 t29 := Tryz.underlying9
 a29 := Tryz.isAgg9
 z29 := Tryz.sizeOf9
 v29 := Tryz.zeroValue9
 t32 := Tryz.underlying296
 a32 := Tryz.isAgg296
 z32 := Tryz.sizeOf296
 v32 := Tryz.zeroValue296
 t35 := Tryz.underlying340
 a35 := Tryz.isAgg340
 z35 := Tryz.sizeOf340
 v35 := Tryz.zeroValue340
 t36 := Tryz.underlying341
 a36 := Tryz.isAgg341
 z36 := Tryz.sizeOf341
 v36 := Tryz.zeroValue341
 t41 := Tryz.underlying345
 a41 := Tryz.isAgg345
 z41 := Tryz.sizeOf345
 v41 := Tryz.zeroValue345
 t44 := Tryz.underlying317
 a44 := Tryz.isAgg317
 z44 := Tryz.sizeOf317
 v44 := Tryz.zeroValue317
 t46 := Tryz.underlying259
 a46 := Tryz.isAgg259
 z46 := Tryz.sizeOf259
 v46 := Tryz.zeroValue259
 t53 := Tryz.underlying369
 a53 := Tryz.isAgg369
 z53 := Tryz.sizeOf369
 v53 := Tryz.zeroValue369
 t57 := Tryz.underlying373
 a57 := Tryz.isAgg373
 z57 := Tryz.sizeOf373
 v57 := Tryz.zeroValue373
 t63 := Tryz.underlying384
 a63 := Tryz.isAgg384
 z63 := Tryz.sizeOf384
 v63 := Tryz.zeroValue384
 t64 := Tryz.underlying385
 a64 := Tryz.isAgg385
 z64 := Tryz.sizeOf385
 v64 := Tryz.zeroValue385 }
open Go.Sort Go.RowKit in
theorem Tryz.slices_Sort_string (blk off cap:Nat) (ss:List (List UInt8)) (w:World) (hH:Holds encStr w blk off ss.toArray) (hblk:blk < w.heap.size) (hsz:ss.length < 4611686018427387904) :
 Calls Tryz.prog 250 #[.slice (some ⟨blk,off,none⟩) ss.length cap] w fun e w' =>
  e = .returned (.tuple #[]) ∧ ∃ n os,w' = grow (putRow encStr (Sort.ahead w n) blk off (ss.mergeSort fun x y => decide (x ≤ y)).toArray) os := AnyM.slices_Sort_string Tryz.laysSlM6_f250 blk off cap ss w hH hblk hsz
open Go.RowKit Go.Sort in
theorem Tryz.slices_Sort_string_none (p:Option Addr) (cap:Nat) (w:World) :
 Calls Tryz.prog 250 #[.slice p 0 cap] w fun e w' => e = .returned (.tuple #[]) ∧ w' = w := AnyM.slices_Sort_string_none Tryz.laysSlM6_f250 p cap w
open Go.RowKit Go.Sort in
theorem Tryz.slices_Sort_int_none (p:Option Addr) (cap:Nat) (w:World) :
 Calls Tryz.prog 324 #[.slice p 0 cap] w fun e w' => e = .returned (.tuple #[]) ∧ w' = w := AnyM.slices_Sort_int_none Tryz.laysSlM5_f324 p cap w
end Go.Proofs
