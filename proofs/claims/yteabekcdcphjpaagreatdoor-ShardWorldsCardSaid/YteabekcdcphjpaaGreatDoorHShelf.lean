/-
  DERIVED: THE SHELF's CONTRACTS AT THIS DUMP, IN PLAIN WORDS (tools/lay-plain.mjs out of 'TryzShelf.lean', which tools/lay-shelf.mjs wrote): THE SAME DECLARATIONS UNDER THE SAME NAMES: 'import', 'namespace', 'open', 'def', 'theorem' AND NOTHING ELSE: no command of the shelf's: FOR A HAND-IN. Each laying: the table of numbers ('.._ren') and one theorem, a field a fact of the dump's own or the kernel's comparison; each contract: ONE APPLICATION.
-/
import Derived.Shelf.Strings.Builder1
import Derived.Shelf.Strings.Builder2
import Derived.Shelf.Strings.OnBuilder
import Derived.Shelf.Small.Bits
import Derived.Shelf.Small.Strs
import Derived.Shelf.Small.Wraps
import Derived.Shelf.Strconv.Itoa0
import Derived.Shelf.Strconv.Itoa1
import Derived.Shelf.LaysM
import Derived.Shelf.Strconv.Itoa2
import Derived.Shelf.Strconv.Itoa3
import Derived.Shelf.Strconv.Itoa4
import Derived.Shelf.Strings.Search1
import Derived.Shelf.Strings.Search2
import Derived.Shelf.Strings.Search3
import Derived.Shelf.Strings.Cut
import Derived.Shelf.Strings.Count
import Derived.Shelf.Strings.Shaped
import Derived.Shelf.Strings.Split
import Derived.Shelf.Strings.SplitShaped
import Derived.Shelf.Bits.Mul64
import Derived.Shelf.Unicode.DecodeSlow
import Derived.Shelf.Slices.Turned
import Derived.Shelf.Slices.CompactS
import Derived.Shelf.Slices.Cells
import Derived.Test.YteabekcdcphjpaaGreatDoorProg
namespace Go.Proofs
open Go.Shelf
def Tryz.lays169_ren : Go.Shelf.Ren := ⟨fun | 169 => 49 | n => n,fun | 70 => 71 | 9 => 9 | 0 => 0 | 72 => 74 | 37 => 72 | 127 => 186 | 3 => 3 | 5 => 5 | n => n,fun | n => n⟩
theorem Tryz.lays169 : Go.Proofs.Lays.n169 Tryz.prog Tryz.lays169_ren := {
 mixed := by kernel_rfl
 f169 := Tryz.func49.trans (congrArg some (by kernel_rfl))
 t0 := Tryz.underlying0
 a0 := Tryz.isAgg0
 z0 := Tryz.sizeOf0
 v0 := Tryz.zeroValue0
 t3 := Tryz.underlying3
 a3 := Tryz.isAgg3
 z3 := Tryz.sizeOf3
 v3 := Tryz.zeroValue3
 t9 := Tryz.underlying9
 a9 := Tryz.isAgg9
 z9 := Tryz.sizeOf9
 v9 := Tryz.zeroValue9
 t37 := Tryz.underlying72
 a37 := Tryz.isAgg72
 z37 := Tryz.sizeOf72
 v37 := Tryz.zeroValue72
 t70 := Tryz.underlying71
 a70 := Tryz.isAgg71
 z70 := Tryz.sizeOf71
 v70 := Tryz.zeroValue71
 t72 := Tryz.underlying74
 a72 := Tryz.isAgg74
 z72 := Tryz.sizeOf74
 v72 := Tryz.zeroValue74
 t127 := Tryz.underlying186
 a127 := Tryz.isAgg186
 z127 := Tryz.sizeOf186
 v127 := Tryz.zeroValue186 }
theorem Tryz.Builder_Extra_169 : Builder.Extra Tryz.prog Tryz.lays169_ren := {
 sizeBuilder := by kernel_rfl
 liesBuilder := by kernel_rfl
 t5 := Tryz.underlying5
 a5 := Tryz.isAgg5
 z5 := Tryz.sizeOf5
 v5 := Tryz.zeroValue5
 infoByte := by kernel_rfl
 cellsByte := by kernel_rfl
 sizeByte := by kernel_rfl
 neB5 := by decide }
def Tryz.lays156_ren : Go.Shelf.Ren := ⟨fun | 156 => 44 | 165 => 106 | 166 => 38 | 169 => 49 | 240 => 100 | 241 => 178 | 276 => 171 | 277 => 238 | n => n,fun | 31 => 56 | 9 => 9 | 3 => 3 | 4 => 4 | 0 => 0 | 20 => 20 | 72 => 74 | 76 => 78 | 70 => 71 | 37 => 72 | 75 => 76 | 127 => 186 | 164 => 244 | 5 => 5 | 80 => 100 | n => n,fun | n => n⟩
theorem Tryz.lays156 : Go.Proofs.Lays.n156 Tryz.prog Tryz.lays156_ren := {
 mixed := by kernel_rfl
 f156 := Tryz.func44.trans (congrArg some (by kernel_rfl))
 f165 := Tryz.func106.trans (congrArg some (by kernel_rfl))
 f166 := Tryz.func38.trans (congrArg some (by kernel_rfl))
 f169 := Tryz.func49.trans (congrArg some (by kernel_rfl))
 f240 := Tryz.func100.trans (congrArg some (by kernel_rfl))
 f241 := Tryz.func178.trans (congrArg some (by kernel_rfl))
 f276 := Tryz.func171.trans (congrArg some (by kernel_rfl))
 f277 := Tryz.func238.trans (congrArg some (by kernel_rfl))
 t0 := Tryz.underlying0
 a0 := Tryz.isAgg0
 z0 := Tryz.sizeOf0
 v0 := Tryz.zeroValue0
 t3 := Tryz.underlying3
 a3 := Tryz.isAgg3
 z3 := Tryz.sizeOf3
 v3 := Tryz.zeroValue3
 t4 := Tryz.underlying4
 a4 := Tryz.isAgg4
 z4 := Tryz.sizeOf4
 v4 := Tryz.zeroValue4
 t9 := Tryz.underlying9
 a9 := Tryz.isAgg9
 z9 := Tryz.sizeOf9
 v9 := Tryz.zeroValue9
 t20 := Tryz.underlying20
 a20 := Tryz.isAgg20
 z20 := Tryz.sizeOf20
 v20 := Tryz.zeroValue20
 t31 := Tryz.underlying56
 a31 := Tryz.isAgg56
 z31 := Tryz.sizeOf56
 v31 := Tryz.zeroValue56
 t37 := Tryz.underlying72
 a37 := Tryz.isAgg72
 z37 := Tryz.sizeOf72
 v37 := Tryz.zeroValue72
 t70 := Tryz.underlying71
 a70 := Tryz.isAgg71
 z70 := Tryz.sizeOf71
 v70 := Tryz.zeroValue71
 t72 := Tryz.underlying74
 a72 := Tryz.isAgg74
 z72 := Tryz.sizeOf74
 v72 := Tryz.zeroValue74
 t75 := Tryz.underlying76
 a75 := Tryz.isAgg76
 z75 := Tryz.sizeOf76
 v75 := Tryz.zeroValue76
 t76 := Tryz.underlying78
 a76 := Tryz.isAgg78
 z76 := Tryz.sizeOf78
 v76 := Tryz.zeroValue78
 t127 := Tryz.underlying186
 a127 := Tryz.isAgg186
 z127 := Tryz.sizeOf186
 v127 := Tryz.zeroValue186
 t164 := Tryz.underlying244
 a164 := Tryz.isAgg244
 z164 := Tryz.sizeOf244
 v164 := Tryz.zeroValue244 }
theorem Tryz.Builder_Extra_156 : Builder.Extra Tryz.prog Tryz.lays156_ren := {
 sizeBuilder := by kernel_rfl
 liesBuilder := by kernel_rfl
 t5 := Tryz.underlying5
 a5 := Tryz.isAgg5
 z5 := Tryz.sizeOf5
 v5 := Tryz.zeroValue5
 infoByte := by kernel_rfl
 cellsByte := by kernel_rfl
 sizeByte := by kernel_rfl
 neB5 := by decide }
open Go.RowKit in
theorem Tryz.strings_Join (bk o c:Nat) (xs:List ByteArray) (sep:ByteArray) (w:World) (hcells:∀ (j:Nat) x,xs[j]? = some x → w.cell? ⟨bk,o + j,none⟩ = some (.string x)) (hbk:bk < w.heap.size) (hN:xs.length ≤ 140737488355328) (hcap:xs.length ≤ c) (hlen:(Lib.join (xs.map (·.data.toList)) sep.data.toList).length ≤ 140737488355328) :
 Calls Tryz.prog 44 #[.slice (some ⟨bk,o,none⟩) xs.length c,.string sep] w fun e w' => e = .returned (.string ⟨(Lib.join (xs.map (·.data.toList)) sep.data.toList).toArray⟩) ∧ Below w.heap.size w w' := Any.strings_Join Tryz.lays156 Tryz.Builder_Extra_156 bk o c xs sep w hcells hbk hN hcap hlen
def Tryz.lays213_ren : Go.Shelf.Ren := ⟨fun | 213 => 246 | 265 => 269 | n => n,fun | 9 => 9 | 3 => 3 | n => n,fun | n => n⟩
def Tryz.lays106_ren : Go.Shelf.Ren := ⟨fun | 106 => 199 | 213 => 246 | 265 => 269 | n => n,fun | 9 => 9 | 3 => 3 | n => n,fun | n => n⟩
theorem Tryz.lays106 : Go.Proofs.Lays.n106 Tryz.prog Tryz.lays106_ren := {
 mixed := by kernel_rfl
 f106 := Tryz.func199.trans (congrArg some (by kernel_rfl))
 f213 := Tryz.func246.trans (congrArg some (by kernel_rfl))
 f265 := Tryz.func269.trans (congrArg some (by kernel_rfl))
 t3 := Tryz.underlying3
 a3 := Tryz.isAgg3
 z3 := Tryz.sizeOf3
 v3 := Tryz.zeroValue3
 t9 := Tryz.underlying9
 a9 := Tryz.isAgg9
 z9 := Tryz.sizeOf9
 v9 := Tryz.zeroValue9 }
open Go.RowKit in
theorem Tryz.strings_Compare (a b:ByteArray) (w:World) :
 Calls Tryz.prog 199 #[.string a,.string b] w fun e w' => e = .returned (.int .i64 (Lib.compareBytes a.data.toList b.data.toList)) ∧ w' = w := Any.strings_Compare Tryz.lays106 a b w
def Tryz.laysM246_ren : Go.Shelf.Ren := ⟨fun | 246 => 110 | 283 => 180 | 284 => 181 | 285 => 182 | 286 => 183 | 129 => 220 | 317 => 239 | 318 => 240 | 319 => 241 | 320 => 242 | 337 => 265 | 338 => 266 | n => n,fun | 2 => 2 | 3 => 3 | 9 => 9 | 4 => 4 | 171 => 256 | 0 => 0 | 53 => 160 | 37 => 72 | 5 => 5 | 173 => 259 | 212 => 307 | 51 => 289 | 20 => 20 | 213 => 308 | 46 => 237 | 232 => 334 | 233 => 335 | n => n,fun | 17 => 1 | 18 => 3 | 19 => 4 | n => n⟩
def Tryz.laysM243_ren : Go.Shelf.Ren := ⟨fun | 243 => 101 | 246 => 110 | 283 => 180 | 284 => 181 | 285 => 182 | 286 => 183 | 129 => 220 | 317 => 239 | 318 => 240 | 319 => 241 | 320 => 242 | 337 => 265 | 338 => 266 | n => n,fun | 3 => 3 | 9 => 9 | 2 => 2 | 4 => 4 | 171 => 256 | 0 => 0 | 53 => 160 | 37 => 72 | 5 => 5 | 173 => 259 | 212 => 307 | 51 => 289 | 20 => 20 | 213 => 308 | 46 => 237 | 232 => 334 | 233 => 335 | n => n,fun | 17 => 1 | 18 => 3 | 19 => 4 | n => n⟩
def Tryz.laysM171_ren : Go.Shelf.Ren := ⟨fun | 171 => 39 | 243 => 101 | 246 => 110 | 283 => 180 | 284 => 181 | 285 => 182 | 286 => 183 | 129 => 220 | 317 => 239 | 318 => 240 | 319 => 241 | 320 => 242 | 337 => 265 | 338 => 266 | n => n,fun | 3 => 3 | 9 => 9 | 2 => 2 | 4 => 4 | 171 => 256 | 0 => 0 | 53 => 160 | 37 => 72 | 5 => 5 | 173 => 259 | 212 => 307 | 51 => 289 | 20 => 20 | 213 => 308 | 46 => 237 | 232 => 334 | 233 => 335 | n => n,fun | 17 => 1 | 18 => 3 | 19 => 4 | n => n⟩
theorem Tryz.laysM171 : Go.Proofs.LaysM.n171 Tryz.prog Tryz.laysM171_ren := {
 mixed := by kernel_rfl
 f129 := Tryz.func220.trans (congrArg some (by kernel_rfl))
 f171 := Tryz.func39.trans (congrArg some (by kernel_rfl))
 f243 := Tryz.func101.trans (congrArg some (by kernel_rfl))
 f246 := Tryz.func110.trans (congrArg some (by kernel_rfl))
 f283 := Tryz.func180.trans (congrArg some (by kernel_rfl))
 f284 := Tryz.func181.trans (congrArg some (by kernel_rfl))
 f285 := Tryz.func182.trans (congrArg some (by kernel_rfl))
 f286 := Tryz.func183.trans (congrArg some (by kernel_rfl))
 f317 := Tryz.func239.trans (congrArg some (by kernel_rfl))
 f318 := Tryz.func240.trans (congrArg some (by kernel_rfl))
 f319 := Tryz.func241.trans (congrArg some (by kernel_rfl))
 f320 := Tryz.func242.trans (congrArg some (by kernel_rfl))
 f337 := Tryz.func265.trans (congrArg some (by kernel_rfl))
 f338 := Tryz.func266.trans (congrArg some (by kernel_rfl))
 t0 := Tryz.underlying0
 a0 := Tryz.isAgg0
 z0 := Tryz.sizeOf0
 v0 := Tryz.zeroValue0
 t2 := Tryz.underlying2
 a2 := Tryz.isAgg2
 z2 := Tryz.sizeOf2
 v2 := Tryz.zeroValue2
 t3 := Tryz.underlying3
 a3 := Tryz.isAgg3
 z3 := Tryz.sizeOf3
 v3 := Tryz.zeroValue3
 t4 := Tryz.underlying4
 a4 := Tryz.isAgg4
 z4 := Tryz.sizeOf4
 v4 := Tryz.zeroValue4
 t5 := Tryz.underlying5
 a5 := Tryz.isAgg5
 z5 := Tryz.sizeOf5
 v5 := Tryz.zeroValue5
 t9 := Tryz.underlying9
 a9 := Tryz.isAgg9
 z9 := Tryz.sizeOf9
 v9 := Tryz.zeroValue9
 t20 := Tryz.underlying20
 a20 := Tryz.isAgg20
 z20 := Tryz.sizeOf20
 v20 := Tryz.zeroValue20
 t37 := Tryz.underlying72
 a37 := Tryz.isAgg72
 z37 := Tryz.sizeOf72
 v37 := Tryz.zeroValue72
 t46 := Tryz.underlying237
 a46 := Tryz.isAgg237
 z46 := Tryz.sizeOf237
 v46 := Tryz.zeroValue237
 t51 := Tryz.underlying289
 a51 := Tryz.isAgg289
 z51 := Tryz.sizeOf289
 v51 := Tryz.zeroValue289
 t53 := Tryz.underlying160
 a53 := Tryz.isAgg160
 z53 := Tryz.sizeOf160
 v53 := Tryz.zeroValue160
 t171 := Tryz.underlying256
 a171 := Tryz.isAgg256
 z171 := Tryz.sizeOf256
 v171 := Tryz.zeroValue256
 t173 := Tryz.underlying259
 a173 := Tryz.isAgg259
 z173 := Tryz.sizeOf259
 v173 := Tryz.zeroValue259
 t212 := Tryz.underlying307
 a212 := Tryz.isAgg307
 z212 := Tryz.sizeOf307
 v212 := Tryz.zeroValue307
 t213 := Tryz.underlying308
 a213 := Tryz.isAgg308
 z213 := Tryz.sizeOf308
 t232 := Tryz.underlying334
 a232 := Tryz.isAgg334
 z232 := Tryz.sizeOf334
 v232 := Tryz.zeroValue334
 t233 := Tryz.underlying335
 a233 := Tryz.isAgg335
 z233 := Tryz.sizeOf335
 v233 := Tryz.zeroValue335
 g17 := by kernel_rfl
 g18 := by kernel_rfl
 g19 := by kernel_rfl
 i0 := by kernel_rfl
 i2 := by kernel_rfl
 i3 := by kernel_rfl
 i4 := by kernel_rfl
 i5 := by kernel_rfl
 i9 := by kernel_rfl
 i20 := by kernel_rfl
 i37 := by kernel_rfl
 i46 := by kernel_rfl
 i51 := by kernel_rfl
 i53 := by kernel_rfl
 i171 := by kernel_rfl
 i173 := by kernel_rfl
 i212 := by kernel_rfl
 i232 := by kernel_rfl
 i233 := by kernel_rfl
 m17 := by kernel_rfl
 m18 := by kernel_rfl
 m19 := by kernel_rfl }
open Go.RowKit Go.Sort Go.Lib in
theorem Tryz.strconv_Itoa (n : Int) (h0 : -9223372036854775808 ≤ n) (h1 : n ≤ 9223372036854775807) (w : World) (htab : Lib.TabIs Tryz.prog w "internal/strconv.uint64pow10" .u64 Lib.pow10Tab) :
 Calls Tryz.prog 39 #[.int .i64 n] w fun e w' => e = .returned (.string ⟨(Lib.itoa n).toArray⟩) ∧ ∃ k os,w' = grow (w.drewN k) os := Any.strconv_Itoa Tryz.laysM171 n h0 h1 w htab
def Tryz.laysM173_ren : Go.Shelf.Ren := ⟨fun | 173 => 48 | 246 => 110 | 283 => 180 | 284 => 181 | 285 => 182 | 286 => 183 | 129 => 220 | 317 => 239 | 318 => 240 | 319 => 241 | 320 => 242 | 337 => 265 | 338 => 266 | n => n,fun | 2 => 2 | 3 => 3 | 9 => 9 | 4 => 4 | 171 => 256 | 0 => 0 | 53 => 160 | 37 => 72 | 5 => 5 | 173 => 259 | 212 => 307 | 51 => 289 | 20 => 20 | 213 => 308 | 46 => 237 | 232 => 334 | 233 => 335 | n => n,fun | 17 => 1 | 18 => 3 | 19 => 4 | n => n⟩
theorem Tryz.laysM173 : Go.Proofs.LaysM.n173 Tryz.prog Tryz.laysM173_ren := {
 mixed := by kernel_rfl
 f129 := Tryz.func220.trans (congrArg some (by kernel_rfl))
 f173 := Tryz.func48.trans (congrArg some (by kernel_rfl))
 f246 := Tryz.func110.trans (congrArg some (by kernel_rfl))
 f283 := Tryz.func180.trans (congrArg some (by kernel_rfl))
 f284 := Tryz.func181.trans (congrArg some (by kernel_rfl))
 f285 := Tryz.func182.trans (congrArg some (by kernel_rfl))
 f286 := Tryz.func183.trans (congrArg some (by kernel_rfl))
 f317 := Tryz.func239.trans (congrArg some (by kernel_rfl))
 f318 := Tryz.func240.trans (congrArg some (by kernel_rfl))
 f319 := Tryz.func241.trans (congrArg some (by kernel_rfl))
 f320 := Tryz.func242.trans (congrArg some (by kernel_rfl))
 f337 := Tryz.func265.trans (congrArg some (by kernel_rfl))
 f338 := Tryz.func266.trans (congrArg some (by kernel_rfl))
 t0 := Tryz.underlying0
 a0 := Tryz.isAgg0
 z0 := Tryz.sizeOf0
 v0 := Tryz.zeroValue0
 t2 := Tryz.underlying2
 a2 := Tryz.isAgg2
 z2 := Tryz.sizeOf2
 v2 := Tryz.zeroValue2
 t3 := Tryz.underlying3
 a3 := Tryz.isAgg3
 z3 := Tryz.sizeOf3
 v3 := Tryz.zeroValue3
 t4 := Tryz.underlying4
 a4 := Tryz.isAgg4
 z4 := Tryz.sizeOf4
 v4 := Tryz.zeroValue4
 t5 := Tryz.underlying5
 a5 := Tryz.isAgg5
 z5 := Tryz.sizeOf5
 v5 := Tryz.zeroValue5
 t9 := Tryz.underlying9
 a9 := Tryz.isAgg9
 z9 := Tryz.sizeOf9
 v9 := Tryz.zeroValue9
 t20 := Tryz.underlying20
 a20 := Tryz.isAgg20
 z20 := Tryz.sizeOf20
 v20 := Tryz.zeroValue20
 t37 := Tryz.underlying72
 a37 := Tryz.isAgg72
 z37 := Tryz.sizeOf72
 v37 := Tryz.zeroValue72
 t46 := Tryz.underlying237
 a46 := Tryz.isAgg237
 z46 := Tryz.sizeOf237
 v46 := Tryz.zeroValue237
 t51 := Tryz.underlying289
 a51 := Tryz.isAgg289
 z51 := Tryz.sizeOf289
 v51 := Tryz.zeroValue289
 t53 := Tryz.underlying160
 a53 := Tryz.isAgg160
 z53 := Tryz.sizeOf160
 v53 := Tryz.zeroValue160
 t171 := Tryz.underlying256
 a171 := Tryz.isAgg256
 z171 := Tryz.sizeOf256
 v171 := Tryz.zeroValue256
 t173 := Tryz.underlying259
 a173 := Tryz.isAgg259
 z173 := Tryz.sizeOf259
 v173 := Tryz.zeroValue259
 t212 := Tryz.underlying307
 a212 := Tryz.isAgg307
 z212 := Tryz.sizeOf307
 v212 := Tryz.zeroValue307
 t213 := Tryz.underlying308
 a213 := Tryz.isAgg308
 z213 := Tryz.sizeOf308
 t232 := Tryz.underlying334
 a232 := Tryz.isAgg334
 z232 := Tryz.sizeOf334
 v232 := Tryz.zeroValue334
 t233 := Tryz.underlying335
 a233 := Tryz.isAgg335
 z233 := Tryz.sizeOf335
 v233 := Tryz.zeroValue335
 g17 := by kernel_rfl
 g18 := by kernel_rfl
 g19 := by kernel_rfl
 i0 := by kernel_rfl
 i2 := by kernel_rfl
 i3 := by kernel_rfl
 i4 := by kernel_rfl
 i5 := by kernel_rfl
 i9 := by kernel_rfl
 i20 := by kernel_rfl
 i37 := by kernel_rfl
 i46 := by kernel_rfl
 i51 := by kernel_rfl
 i53 := by kernel_rfl
 i171 := by kernel_rfl
 i173 := by kernel_rfl
 i212 := by kernel_rfl
 i232 := by kernel_rfl
 i233 := by kernel_rfl
 m17 := by kernel_rfl
 m18 := by kernel_rfl
 m19 := by kernel_rfl }
open Go.RowKit Go.Sort Go.Lib in
theorem Tryz.strconv_FormatInt_10 (n : Int) (h0 : -9223372036854775808 ≤ n) (h1 : n ≤ 9223372036854775807) (w : World) (htab : Lib.TabIs Tryz.prog w "internal/strconv.uint64pow10" .u64 Lib.pow10Tab) :
 Calls Tryz.prog 48 #[.int .i64 n,.int .i64 10] w fun e w' => e = .returned (.string ⟨(Lib.itoa n).toArray⟩) ∧ ∃ k os,w' = grow (w.drewN k) os := Any.strconv_FormatInt_10 Tryz.laysM173 n h0 h1 w htab
def Tryz.lays219_ren : Go.Shelf.Ren := ⟨fun | 219 => 267 | 217 => 278 | 225 => 279 | 224 => 280 | 267 => 281 | 266 => 295 | 314 => 296 | n => n,fun | 9 => 9 | 3 => 3 | 4 => 4 | 5 => 5 | 46 => 237 | 146 => 344 | 51 => 289 | n => n,fun | 1 => 2 | n => n⟩
def Tryz.lays145_ren : Go.Shelf.Ren := ⟨fun | 145 => 196 | 220 => 243 | 219 => 267 | 217 => 278 | 225 => 279 | 224 => 280 | 267 => 281 | 266 => 295 | 314 => 296 | n => n,fun | 9 => 9 | 4 => 4 | 59 => 272 | 3 => 3 | 5 => 5 | 46 => 237 | 146 => 344 | 51 => 289 | n => n,fun | 1 => 2 | n => n⟩
theorem Tryz.lays145 : Go.Proofs.Lays.n145 Tryz.prog Tryz.lays145_ren := {
 mixed := by kernel_rfl
 f145 := Tryz.func196.trans (congrArg some (by kernel_rfl))
 f217 := Tryz.func278.trans (congrArg some (by kernel_rfl))
 f219 := Tryz.func267.trans (congrArg some (by kernel_rfl))
 f220 := Tryz.func243.trans (congrArg some (by kernel_rfl))
 f224 := Tryz.func280.trans (congrArg some (by kernel_rfl))
 f225 := Tryz.func279.trans (congrArg some (by kernel_rfl))
 f266 := Tryz.func295.trans (congrArg some (by kernel_rfl))
 f267 := Tryz.func281.trans (congrArg some (by kernel_rfl))
 f314 := Tryz.func296.trans (congrArg some (by kernel_rfl))
 t3 := Tryz.underlying3
 a3 := Tryz.isAgg3
 z3 := Tryz.sizeOf3
 v3 := Tryz.zeroValue3
 t4 := Tryz.underlying4
 a4 := Tryz.isAgg4
 z4 := Tryz.sizeOf4
 v4 := Tryz.zeroValue4
 t5 := Tryz.underlying5
 a5 := Tryz.isAgg5
 z5 := Tryz.sizeOf5
 v5 := Tryz.zeroValue5
 t9 := Tryz.underlying9
 a9 := Tryz.isAgg9
 z9 := Tryz.sizeOf9
 v9 := Tryz.zeroValue9
 t46 := Tryz.underlying237
 a46 := Tryz.isAgg237
 z46 := Tryz.sizeOf237
 v46 := Tryz.zeroValue237
 t51 := Tryz.underlying289
 a51 := Tryz.isAgg289
 z51 := Tryz.sizeOf289
 v51 := Tryz.zeroValue289
 t59 := Tryz.underlying272
 a59 := Tryz.isAgg272
 z59 := Tryz.sizeOf272
 v59 := Tryz.zeroValue272
 t146 := Tryz.underlying344
 a146 := Tryz.isAgg344
 z146 := Tryz.sizeOf344
 v146 := Tryz.zeroValue344
 g1 := by kernel_rfl }
open Go.RowKit Go.Lib in
theorem Tryz.strings_Cut (s sep:ByteArray) (m:Int) (w:World) (hs:s.size < 4294967281) (hm:w.cell? ⟨2,0,none⟩ = some (.int .i64 m)) :
 Calls Tryz.prog 196 #[.string s,.string sep] w fun e w' => e = .returned (.tuple #[.string ⟨(Lib.cut s.data.toList sep.data.toList).1.toArray⟩,.string ⟨(Lib.cut s.data.toList sep.data.toList).2.1.toArray⟩,.bool (Lib.cut s.data.toList sep.data.toList).2.2]) ∧ ∃ n,w' = w.drewN n := Any.strings_Cut Tryz.lays145 s sep m w hs hm
def Tryz.lays221_ren : Go.Shelf.Ren := ⟨fun | 221 => 268 | 268 => 282 | 138 => 283 | 143 => 284 | 195 => 297 | 197 => 298 | 218 => 299 | 219 => 267 | 260 => 304 | 217 => 278 | 225 => 279 | 224 => 280 | 267 => 281 | 266 => 295 | 314 => 296 | n => n,fun | 9 => 9 | 3 => 3 | 31 => 56 | 4 => 4 | 0 => 0 | 105 => 346 | 21 => 21 | 5 => 5 | 46 => 237 | 119 => 351 | 139 => 354 | 138 => 353 | 146 => 344 | 51 => 289 | n => n,fun | 1 => 2 | 3 => 5 | 4 => 6 | n => n⟩
def Tryz.lays146_ren : Go.Shelf.Ren := ⟨fun | 146 => 244 | 221 => 268 | 268 => 282 | 138 => 283 | 143 => 284 | 195 => 297 | 197 => 298 | 218 => 299 | 219 => 267 | 260 => 304 | 217 => 278 | 225 => 279 | 224 => 280 | 267 => 281 | 266 => 295 | 314 => 296 | n => n,fun | 9 => 9 | 31 => 56 | 3 => 3 | 4 => 4 | 0 => 0 | 105 => 346 | 21 => 21 | 5 => 5 | 46 => 237 | 119 => 351 | 139 => 354 | 138 => 353 | 146 => 344 | 51 => 289 | n => n,fun | 1 => 2 | 3 => 5 | 4 => 6 | n => n⟩
theorem Tryz.lays146 : Go.Proofs.Lays.n146 Tryz.prog Tryz.lays146_ren := {
 mixed := by kernel_rfl
 f138 := Tryz.func283.trans (congrArg some (by kernel_rfl))
 f143 := Tryz.func284.trans (congrArg some (by kernel_rfl))
 f146 := Tryz.func244.trans (congrArg some (by kernel_rfl))
 f195 := Tryz.func297.trans (congrArg some (by kernel_rfl))
 f197 := Tryz.func298.trans (congrArg some (by kernel_rfl))
 f217 := Tryz.func278.trans (congrArg some (by kernel_rfl))
 f218 := Tryz.func299.trans (congrArg some (by kernel_rfl))
 f219 := Tryz.func267.trans (congrArg some (by kernel_rfl))
 f221 := Tryz.func268.trans (congrArg some (by kernel_rfl))
 f224 := Tryz.func280.trans (congrArg some (by kernel_rfl))
 f225 := Tryz.func279.trans (congrArg some (by kernel_rfl))
 f260 := Tryz.func304.trans (congrArg some (by kernel_rfl))
 f266 := Tryz.func295.trans (congrArg some (by kernel_rfl))
 f267 := Tryz.func281.trans (congrArg some (by kernel_rfl))
 f268 := Tryz.func282.trans (congrArg some (by kernel_rfl))
 f314 := Tryz.func296.trans (congrArg some (by kernel_rfl))
 t0 := Tryz.underlying0
 a0 := Tryz.isAgg0
 z0 := Tryz.sizeOf0
 v0 := Tryz.zeroValue0
 t3 := Tryz.underlying3
 a3 := Tryz.isAgg3
 z3 := Tryz.sizeOf3
 v3 := Tryz.zeroValue3
 t4 := Tryz.underlying4
 a4 := Tryz.isAgg4
 z4 := Tryz.sizeOf4
 v4 := Tryz.zeroValue4
 t5 := Tryz.underlying5
 a5 := Tryz.isAgg5
 z5 := Tryz.sizeOf5
 v5 := Tryz.zeroValue5
 t9 := Tryz.underlying9
 a9 := Tryz.isAgg9
 z9 := Tryz.sizeOf9
 v9 := Tryz.zeroValue9
 t21 := Tryz.underlying21
 a21 := Tryz.isAgg21
 z21 := Tryz.sizeOf21
 v21 := Tryz.zeroValue21
 t31 := Tryz.underlying56
 a31 := Tryz.isAgg56
 z31 := Tryz.sizeOf56
 v31 := Tryz.zeroValue56
 t46 := Tryz.underlying237
 a46 := Tryz.isAgg237
 z46 := Tryz.sizeOf237
 v46 := Tryz.zeroValue237
 t51 := Tryz.underlying289
 a51 := Tryz.isAgg289
 z51 := Tryz.sizeOf289
 v51 := Tryz.zeroValue289
 t105 := Tryz.underlying346
 a105 := Tryz.isAgg346
 z105 := Tryz.sizeOf346
 v105 := Tryz.zeroValue346
 t119 := Tryz.underlying351
 a119 := Tryz.isAgg351
 z119 := Tryz.sizeOf351
 t138 := Tryz.underlying353
 a138 := Tryz.isAgg353
 z138 := Tryz.sizeOf353
 v138 := Tryz.zeroValue353
 t139 := Tryz.underlying354
 a139 := Tryz.isAgg354
 z139 := Tryz.sizeOf354
 v139 := Tryz.zeroValue354
 t146 := Tryz.underlying344
 a146 := Tryz.isAgg344
 z146 := Tryz.sizeOf344
 v146 := Tryz.zeroValue344
 g1 := by kernel_rfl
 g3 := by kernel_rfl
 g4 := by kernel_rfl }
open Go.RowKit Go.Lib in
theorem Tryz.strings_Split (s sep:ByteArray) (m:Int) (w:World) (hs:s.size < 4294967281) (hm:w.cell? ⟨2,0,none⟩ = some (.int .i64 m)) (h1:1 ≤ sep.size) :
 Calls Tryz.prog 244 #[.string s,.string sep] w fun e w' =>
  e = .returned (.slice (some ⟨w.heap.size,0,none⟩) (Lib.countB s sep + 1) (Lib.countB s sep + 1)) ∧ w' = w.alloc (.cells ((Lib.splitB sep 0 (Lib.countB s sep) s).map Value.string).toArray 9) := Any.strings_Split Tryz.lays146 (by kernel_rfl) s sep m w hs hm h1
def Tryz.lays110_ren : Go.Shelf.Ren := ⟨fun | 110 => 248 | 109 => 272 | n => n,fun | 31 => 56 | 9 => 9 | 4 => 4 | 3 => 3 | 0 => 0 | n => n,fun | n => n⟩
theorem Tryz.lays110 : Go.Proofs.Lays.n110 Tryz.prog Tryz.lays110_ren := {
 mixed := by kernel_rfl
 f109 := Tryz.func272.trans (congrArg some (by kernel_rfl))
 f110 := Tryz.func248.trans (congrArg some (by kernel_rfl))
 t0 := Tryz.underlying0
 a0 := Tryz.isAgg0
 z0 := Tryz.sizeOf0
 v0 := Tryz.zeroValue0
 t3 := Tryz.underlying3
 a3 := Tryz.isAgg3
 z3 := Tryz.sizeOf3
 v3 := Tryz.zeroValue3
 t4 := Tryz.underlying4
 a4 := Tryz.isAgg4
 z4 := Tryz.sizeOf4
 v4 := Tryz.zeroValue4
 t9 := Tryz.underlying9
 a9 := Tryz.isAgg9
 z9 := Tryz.sizeOf9
 v9 := Tryz.zeroValue9
 t31 := Tryz.underlying56
 a31 := Tryz.isAgg56
 z31 := Tryz.sizeOf56
 v31 := Tryz.zeroValue56 }
open Go.Lib in
theorem Tryz.slices_Contains_string (b off n c:Nat) (zs:List ByteArray) (x:ByteArray) (w:World) (hz:n ≤ zs.length) (hbig:n ≤ 9223372036854775807) (hc:∀ j,j < zs.length → w.cell? ⟨b,off + j,none⟩ = some (.string (zs.getD j ByteArray.empty))) :
 Calls Tryz.prog 248 #[.slice (some ⟨b,off,none⟩) n c,.string x] w fun e w' => e = .returned (.bool (Lib.containsS (zs.take n) x)) ∧ w' = w := Any.slices_Contains_string Tryz.lays110 b off n c zs x w hz hbig hc
open Go.Lib in
theorem Tryz.slices_Contains_string_empty (a:Option Addr) (c:Nat) (x:ByteArray) (w:World) :
 Calls Tryz.prog 248 #[.slice a 0 c,.string x] w fun e w' => e = .returned (.bool false) ∧ w' = w := Any.slices_Contains_string_empty Tryz.lays110 a c x w
def Tryz.lays194_ren : Go.Shelf.Ren := ⟨fun | 194 => 260 | n => n,fun | 31 => 56 | 9 => 9 | 3 => 3 | 4 => 4 | 0 => 0 | n => n,fun | n => n⟩
theorem Tryz.lays194 : Go.Proofs.Lays.n194 Tryz.prog Tryz.lays194_ren := {
 mixed := by kernel_rfl
 f194 := Tryz.func260.trans (congrArg some (by kernel_rfl))
 t0 := Tryz.underlying0
 a0 := Tryz.isAgg0
 z0 := Tryz.sizeOf0
 v0 := Tryz.zeroValue0
 t3 := Tryz.underlying3
 a3 := Tryz.isAgg3
 z3 := Tryz.sizeOf3
 v3 := Tryz.zeroValue3
 t4 := Tryz.underlying4
 a4 := Tryz.isAgg4
 z4 := Tryz.sizeOf4
 v4 := Tryz.zeroValue4
 t9 := Tryz.underlying9
 a9 := Tryz.isAgg9
 z9 := Tryz.sizeOf9
 v9 := Tryz.zeroValue9
 t31 := Tryz.underlying56
 a31 := Tryz.isAgg56
 z31 := Tryz.sizeOf56
 v31 := Tryz.zeroValue56 }
open Go.RowKit Go.Lib Go.Sort in
theorem Tryz.slices_Compact_string (blk off cap:Nat) (zs:List (List UInt8)) (w:World) (hH:Holds encStr w blk off zs.toArray) (hsz:zs.length ≤ 9223372036854775807) (hcap:zs.length ≤ cap) :
 Calls Tryz.prog 260 #[.slice (some ⟨blk,off,none⟩) zs.length cap] w fun e w' => e = .returned (.slice (some ⟨blk,off,none⟩) (Lib.compact zs).length cap) ∧ ∃ q,w' = putRow encStr (Sort.ahead w q) blk off (Lib.compact zs ++ List.replicate (zs.length - (Lib.compact zs).length) []).toArray := Any.slices_Compact_string Tryz.lays194 blk off cap zs w hH hsz hcap
open Go.RowKit Go.Lib Go.Sort in
theorem Tryz.slices_Compact_string_empty (a:Option Addr) (cap:Nat) (w:World) :
 Calls Tryz.prog 260 #[.slice a 0 cap] w fun e w' => e = .returned (.slice a 0 cap) ∧ w' = w := Any.slices_Compact_string_empty Tryz.lays194 a cap w
end Go.Proofs
