/- What the shelf lays beyond the first laying. -/
import Derived.Test.YtohkipkjleldpaaGreatDoorHShelf
import Derived.Shelf.Strings.Runes
import Derived.Shelf.Strings.IndexAny
import Derived.Ground.SlsfProg
import Derived.Shelf.SlSortCmp.Insertion
namespace Go.Proofs
open Go.Shelf
def Tryz.lays153_ren:Go.Shelf.Ren:=⟨fun | 153=>182 | 152=>230 | 226=>231 | 227=>232 | 228=>233 | 137=>301 | 119=>302 | 224=>296 | 225=>295 | 217=>294 | 266=>341 | n=>n,fun | 9=>9 | 3=>3 | 4=>4 | 5=>5 | 21=>21 | 117=>350 | 116=>349 | 0=>0 | 46=>183 | 124=>420 | n=>n,fun | n=>n⟩
theorem Tryz.lays153:Go.Proofs.Lays.n153 Tryz.prog Tryz.lays153_ren:={
 mixed:=by kernel_rfl
 f119:=Tryz.func302.trans (congrArg some (by kernel_rfl))
 f137:=Tryz.func301.trans (congrArg some (by kernel_rfl))
 f152:=Tryz.func230.trans (congrArg some (by kernel_rfl))
 f153:=Tryz.func182.trans (congrArg some (by kernel_rfl))
 f217:=Tryz.func294.trans (congrArg some (by kernel_rfl))
 f224:=Tryz.func296.trans (congrArg some (by kernel_rfl))
 f225:=Tryz.func295.trans (congrArg some (by kernel_rfl))
 f226:=Tryz.func231.trans (congrArg some (by kernel_rfl))
 f227:=Tryz.func232.trans (congrArg some (by kernel_rfl))
 f228:=Tryz.func233.trans (congrArg some (by kernel_rfl))
 f266:=Tryz.func341.trans (congrArg some (by kernel_rfl))
 t0:=Tryz.underlying0
 a0:=Tryz.isAgg0
 z0:=Tryz.sizeOf0
 v0:=Tryz.zeroValue0
 t3:=Tryz.underlying3
 a3:=Tryz.isAgg3
 z3:=Tryz.sizeOf3
 v3:=Tryz.zeroValue3
 t4:=Tryz.underlying4
 a4:=Tryz.isAgg4
 z4:=Tryz.sizeOf4
 v4:=Tryz.zeroValue4
 t5:=Tryz.underlying5
 a5:=Tryz.isAgg5
 z5:=Tryz.sizeOf5
 v5:=Tryz.zeroValue5
 t9:=Tryz.underlying9
 a9:=Tryz.isAgg9
 z9:=Tryz.sizeOf9
 v9:=Tryz.zeroValue9
 t21:=Tryz.underlying21
 a21:=Tryz.isAgg21
 z21:=Tryz.sizeOf21
 v21:=Tryz.zeroValue21
 t46:=Tryz.underlying183
 a46:=Tryz.isAgg183
 z46:=Tryz.sizeOf183
 v46:=Tryz.zeroValue183
 t116:=Tryz.underlying349
 a116:=Tryz.isAgg349
 z116:=Tryz.sizeOf349
 t117:=Tryz.underlying350
 a117:=Tryz.isAgg350
 z117:=Tryz.sizeOf350
 v117:=Tryz.zeroValue350
 t124:=Tryz.underlying420
 a124:=Tryz.isAgg420
 z124:=Tryz.sizeOf420
 v124:=Tryz.zeroValue420 }
open Go.RowKit Go.Lib in
theorem Tryz.strings_IndexAny_short (s chars:ByteArray) (w:World) (h2:2≤chars.size) (h8:s.size≤8) (hascii:∀ (j:Nat) b,s.data.toList[j]? = some b→b.toNat<128) :
 Calls Tryz.prog 182 #[.string s,.string chars] w fun e w'=>e = .returned (.int .i64 (Lib.indexAny s.data.toList chars.data.toList))∧∃ pos,w'=w.iter s pos:=Any.strings_IndexAny_short Tryz.lays153 s chars w h2 h8 hascii
end Go.Proofs
