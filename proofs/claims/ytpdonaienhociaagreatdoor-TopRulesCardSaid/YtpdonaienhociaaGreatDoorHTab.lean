import GoSem.Claims
import GoSem.PinnedTables
import GoSem.Claim
import GoSem.ClaimJoined
import GoSem.ClaimMapViews
import Derived.JoinedTies
import Derived.Items
import Derived.PartsItems
import Derived.CheckFast
import Derived.HeadItems
import Derived.Shelf.ItemsParts
import Derived.Test.YtpdonaienhociaaGreatDoorProg
import Derived.Test.YtpdonaienhociaaGreatDoorGA
set_option linter.all false
namespace Go.Proofs.YtpdonaienhociaaGreatDoor
open Go.Se Go.RowKit
abbrev Yk (n:Nat) (t:TyE):Prop:=Xe Tryz.prog n=some t
theorem Yp {n:Nat} {t:TyE} (h:Xe Tryz.prog n=some t:=by kernel_rfl):Yk n t:=h
abbrev Ys (e s:Nat):TyE:=⟨Ty.slice e s,1,false,Value.slice none 0 0⟩
abbrev Yo:TyE:=⟨Ty.other,1,false,Value.pointer none⟩
def ty2:TyE:=⟨Ty.int IntKind.i64,1,false,.int .i64 0⟩
theorem ty2_ok:Yk 2 ty2:=Yp
def ty3:TyE:=⟨Ty.int IntKind.i64,1,false,.int .i64 0⟩
theorem ty3_ok:Yk 3 ty3:=Yp
def ty4:TyE:=⟨Ty.bool,1,false,Value.bool false⟩
theorem ty4_ok:Yk 4 ty4:=Yp
def ty5:TyE:=⟨Ty.int IntKind.u8,1,false,.int .u8 0⟩
theorem ty5_ok:Yk 5 ty5:=Yp
def ty9:TyE:=⟨Ty.str,1,false,.string ⟨#[]⟩⟩
theorem ty9_ok:Yk 9 ty9:=Yp
def ty20:TyE:=⟨Ty.other,1,false,Value.nilIface⟩
theorem ty20_ok:Yk 20 ty20:=Yp
def ty21:TyE:=⟨Ty.int IntKind.i32,1,false,.int .i32 0⟩
theorem ty21_ok:Yk 21 ty21:=Yp
def ty22:TyE:=Ys 5 1
theorem ty22_ok:Yk 22 ty22:=Yp
def ty23:TyE:=Ys 77 8
theorem ty23_ok:Yk 23 ty23:=Yp
def ty25:TyE:=⟨Ty.strct [(0,1,0),(1,1,0),(2,1,0),(3,1,0),(4,1,0),(5,1,0)],6,true,Value.agg #[.int .i64 0,.int .i64 0,.int .i64 0,.int .i64 0,.int .i64 0,.int .i64 0]⟩
theorem ty25_ok:Yk 25 ty25:=Yp
def ty27:TyE:=⟨Ty.arr 6 1,6,true,Value.agg #[.int .i64 0,.int .i64 0,.int .i64 0,.int .i64 0,.int .i64 0,.int .i64 0]⟩
theorem ty27_ok:Yk 27 ty27:=Yp
def ty29:TyE:=⟨Ty.strct [(0,1,0),(1,1,0),(2,1,0)],3,true,Value.agg #[.int .i64 0,.int .i64 0,.int .i64 0]⟩
theorem ty29_ok:Yk 29 ty29:=Yp
def ty30:TyE:=⟨Ty.int IntKind.u64,1,false,.int .u64 0⟩
theorem ty30_ok:Yk 30 ty30:=Yp
def ty32:TyE:=⟨Ty.strct [(0,6,1),(6,6,1),(12,3,1),(15,1,0),(16,1,0),(17,1,0),(18,1,0),(19,1,0),(20,1,0),(21,1,0)],22,true,Value.agg #[.int .i64 0,.int .i64 0,.int .i64 0,.int .i64 0,.int .i64 0,.int .i64 0,.int .i64 0,.int .i64 0,.int .i64 0,.int .i64 0,.int .i64 0,.int .i64 0,.int .i64 0,.int .i64 0,.int .i64 0,.int .i64 0,.int .i64 0,.int .i64 0,.int .i64 0,.string ⟨#[]⟩,.string ⟨#[]⟩,.int .u64 0]⟩
theorem ty32_ok:Yk 32 ty32:=Yp
def ty36:TyE:=Ys 9 1
theorem ty36_ok:Yk 36 ty36:=Yp
def ty38:TyE:=Yo
theorem ty38_ok:Yk 38 ty38:=Yp
def ty39:TyE:=⟨Ty.int IntKind.i64,1,false,.int .i64 0⟩
theorem ty39_ok:Yk 39 ty39:=Yp
def ty42:TyE:=Yo
theorem ty42_ok:Yk 42 ty42:=Yp
def ty45:TyE:=Ys 72 5
theorem ty45_ok:Yk 45 ty45:=Yp
def ty46:TyE:=Ys 4 1
theorem ty46_ok:Yk 46 ty46:=Yp
def ty48:TyE:=⟨Ty.strct [(0,1,0),(1,1,0),(2,1,0),(3,1,0)],4,true,Value.agg #[Value.slice Option.none 0 0,Value.slice Option.none 0 0,Value.slice Option.none 0 0,.int .i64 0]⟩
theorem ty48_ok:Yk 48 ty48:=Yp
def ty50:TyE:=Ys 68 4
theorem ty50_ok:Yk 50 ty50:=Yp
def ty51:TyE:=Ys 55 2
theorem ty51_ok:Yk 51 ty51:=Yp
def ty53:TyE:=Ys 121 1
theorem ty53_ok:Yk 53 ty53:=Yp
def ty55:TyE:=⟨Ty.strct [(0,1,0),(1,1,0)],2,true,Value.agg #[.string ⟨#[]⟩,Value.slice Option.none 0 0]⟩
theorem ty55_ok:Yk 55 ty55:=Yp
def ty56:TyE:=⟨Ty.int IntKind.i64,1,false,.int .i64 0⟩
theorem ty56_ok:Yk 56 ty56:=Yp
def ty59:TyE:=⟨Ty.strct [(0,1,0),(1,1,0),(2,1,0),(3,1,0),(4,1,0),(5,1,0),(6,1,0)],7,true,Value.agg #[.string ⟨#[]⟩,.string ⟨#[]⟩,.string ⟨#[]⟩,.int .i64 0,.int .i64 0,.int .i64 0,Value.bool false]⟩
theorem ty59_ok:Yk 59 ty59:=Yp
def ty61:TyE:=Yo
theorem ty61_ok:Yk 61 ty61:=Yp
def ty64:TyE:=Ys 146 3
theorem ty64_ok:Yk 64 ty64:=Yp
def ty68:TyE:=⟨Ty.strct [(0,1,0),(1,1,0),(2,1,0),(3,1,0)],4,true,Value.agg #[.string ⟨#[]⟩,.string ⟨#[]⟩,.string ⟨#[]⟩,.int .i64 0]⟩
theorem ty68_ok:Yk 68 ty68:=Yp
def ty72:TyE:=⟨Ty.strct [(0,1,0),(1,1,0),(2,1,0),(3,1,0),(4,1,0)],5,true,Value.agg #[.string ⟨#[]⟩,Value.slice Option.none 0 0,.int .i64 0,Value.slice Option.none 0 0,.int .i64 0]⟩
theorem ty72_ok:Yk 72 ty72:=Yp
def ty75:TyE:=⟨Ty.int IntKind.i64,1,false,.int .i64 0⟩
theorem ty75_ok:Yk 75 ty75:=Yp
def ty77:TyE:=⟨Ty.strct [(0,1,0),(1,1,0),(2,1,0),(3,1,0),(4,1,0),(5,1,0),(6,1,0),(7,1,0)],8,true,Value.agg #[.string ⟨#[]⟩,.int .i64 0,.int .i64 0,.int .i64 0,.string ⟨#[]⟩,.string ⟨#[]⟩,.int .i64 0,.string ⟨#[]⟩]⟩
theorem ty77_ok:Yk 77 ty77:=Yp
def ty78:TyE:=Ys 84 13
theorem ty78_ok:Yk 78 ty78:=Yp
def ty80:TyE:=⟨Ty.strct [(0,22,1),(22,1,0),(23,1,0)],24,true,Value.agg #[.int .i64 0,.int .i64 0,.int .i64 0,.int .i64 0,.int .i64 0,.int .i64 0,.int .i64 0,.int .i64 0,.int .i64 0,.int .i64 0,.int .i64 0,.int .i64 0,.int .i64 0,.int .i64 0,.int .i64 0,.int .i64 0,.int .i64 0,.int .i64 0,.int .i64 0,.string ⟨#[]⟩,.string ⟨#[]⟩,.int .u64 0,Value.slice Option.none 0 0,.int .i64 0]⟩
theorem ty80_ok:Yk 80 ty80:=Yp
def ty82:TyE:=⟨Ty.int IntKind.i64,1,false,.int .i64 0⟩
theorem ty82_ok:Yk 82 ty82:=Yp
def ty84:TyE:=⟨Ty.strct [(0,1,0),(1,8,1),(9,1,0),(10,1,0),(11,1,0),(12,1,0)],13,true,Value.agg #[.int .i64 0,.string ⟨#[]⟩,.int .i64 0,.int .i64 0,.int .i64 0,.string ⟨#[]⟩,.string ⟨#[]⟩,.int .i64 0,.string ⟨#[]⟩,.string ⟨#[]⟩,.int .i64 0,.int .i64 0,.int .i64 0]⟩
theorem ty84_ok:Yk 84 ty84:=Yp
def ty86:TyE:=⟨Ty.other,1,false,Value.nilFunc⟩
theorem ty86_ok:Yk 86 ty86:=Yp
def ty89:TyE:=⟨Ty.map 160 4,1,false,Value.map Option.none⟩
theorem ty89_ok:Yk 89 ty89:=Yp
def ty90:TyE:=⟨Ty.map 9 4,1,false,Value.map Option.none⟩
theorem ty90_ok:Yk 90 ty90:=Yp
def ty91:TyE:=Yo
theorem ty91_ok:Yk 91 ty91:=Yp
def ty92:TyE:=Yo
theorem ty92_ok:Yk 92 ty92:=Yp
def ty93:TyE:=Yo
theorem ty93_ok:Yk 93 ty93:=Yp
def ty94:TyE:=Yo
theorem ty94_ok:Yk 94 ty94:=Yp
def ty95:TyE:=Yo
theorem ty95_ok:Yk 95 ty95:=Yp
def ty97:TyE:=⟨Ty.strct [(0,6,1),(6,1,0),(7,1,0),(8,8,1),(16,1,0),(17,1,0),(18,1,0),(19,1,0),(20,1,0),(21,1,0),(22,1,0),(23,1,0)],24,true,Value.agg #[.int .i64 0,.int .i64 0,.int .i64 0,.int .i64 0,.int .i64 0,.int .i64 0,Value.slice Option.none 0 0,Value.bool false,.string ⟨#[]⟩,.int .i64 0,.int .i64 0,.int .i64 0,.string ⟨#[]⟩,.string ⟨#[]⟩,.int .i64 0,.string ⟨#[]⟩,Value.map Option.none,Value.map Option.none,Value.pointer Option.none,Value.pointer Option.none,Value.pointer Option.none,Value.pointer Option.none,Value.pointer Option.none,Value.pointer Option.none]⟩
theorem ty97_ok:Yk 97 ty97:=Yp
def ty98:TyE:=Yo
theorem ty98_ok:Yk 98 ty98:=Yp
def ty99:TyE:=Ys 166 2
theorem ty99_ok:Yk 99 ty99:=Yp
def ty102:TyE:=⟨Ty.strct [(0,1,0),(1,1,0),(2,1,0),(3,1,0),(4,1,0)],5,true,Value.agg #[Value.slice Option.none 0 0,.int .i64 0,.int .i64 0,Value.bool false,.int .i64 0]⟩
theorem ty102_ok:Yk 102 ty102:=Yp
def ty104:TyE:=⟨Ty.other,1,false,Value.nilIface⟩
theorem ty104_ok:Yk 104 ty104:=Yp
def ty106:TyE:=⟨Ty.strct [(0,1,0)],1,true,Value.agg #[Value.nilIface]⟩
theorem ty106_ok:Yk 106 ty106:=Yp
def ty109:TyE:=⟨Ty.other,1,false,Value.nilFunc⟩
theorem ty109_ok:Yk 109 ty109:=Yp
def ty117:TyE:=⟨Ty.map 9 53,1,false,Value.map Option.none⟩
theorem ty117_ok:Yk 117 ty117:=Yp
def ty118:TyE:=Ys 189 2
theorem ty118_ok:Yk 118 ty118:=Yp
def ty121:TyE:=⟨Ty.int IntKind.i64,1,false,.int .i64 0⟩
theorem ty121_ok:Yk 121 ty121:=Yp
def ty124:TyE:=⟨Ty.other,1,false,Value.nilFunc⟩
theorem ty124_ok:Yk 124 ty124:=Yp
def ty127:TyE:=⟨Ty.strct [(0,7,1),(7,1,0),(8,1,0),(9,1,0),(10,1,0),(11,1,0)],12,true,Value.agg #[.string ⟨#[]⟩,.string ⟨#[]⟩,.string ⟨#[]⟩,.int .i64 0,.int .i64 0,.int .i64 0,Value.bool false,.int .i64 0,.int .i64 0,.int .i64 0,Value.bool false,Value.bool false]⟩
theorem ty127_ok:Yk 127 ty127:=Yp
def ty134:TyE:=⟨Ty.arr 6 1,6,true,Value.agg #[Value.nilFunc,Value.nilFunc,Value.nilFunc,Value.nilFunc,Value.nilFunc,Value.nilFunc]⟩
theorem ty134_ok:Yk 134 ty134:=Yp
def ty135:TyE:=Ys 141 9
theorem ty135_ok:Yk 135 ty135:=Yp
def ty136:TyE:=⟨Ty.map 9 135,1,false,Value.map Option.none⟩
theorem ty136_ok:Yk 136 ty136:=Yp
def ty138:TyE:=⟨Ty.strct [(0,1,0),(1,8,1),(9,1,0)],10,true,Value.agg #[Value.bool false,.string ⟨#[]⟩,.int .i64 0,.int .i64 0,.int .i64 0,.string ⟨#[]⟩,.string ⟨#[]⟩,.int .i64 0,.string ⟨#[]⟩,Value.map Option.none]⟩
theorem ty138_ok:Yk 138 ty138:=Yp
def ty141:TyE:=⟨Ty.strct [(0,1,0),(1,1,0),(2,7,1)],9,true,Value.agg #[.int .i64 0,Value.bool false,.string ⟨#[]⟩,.string ⟨#[]⟩,.string ⟨#[]⟩,.int .i64 0,.int .i64 0,.int .i64 0,Value.bool false]⟩
theorem ty141_ok:Yk 141 ty141:=Yp
def ty142:TyE:=⟨Ty.other,1,false,Value.nilFunc⟩
theorem ty142_ok:Yk 142 ty142:=Yp
def ty144:TyE:=⟨Ty.int IntKind.i64,1,false,.int .i64 0⟩
theorem ty144_ok:Yk 144 ty144:=Yp
def ty146:TyE:=⟨Ty.strct [(0,1,0),(1,1,0),(2,1,0)],3,true,Value.agg #[.int .i64 0,.int .i64 0,.int .i64 0]⟩
theorem ty146_ok:Yk 146 ty146:=Yp
def ty151:TyE:=⟨Ty.arr 8 1,8,true,Value.agg #[.int .i64 0,.int .i64 0,.int .i64 0,.int .i64 0,.int .i64 0,.int .i64 0,.int .i64 0,.int .i64 0]⟩
theorem ty151_ok:Yk 151 ty151:=Yp
def ty153:TyE:=⟨Ty.map 9 3,1,false,Value.map Option.none⟩
theorem ty153_ok:Yk 153 ty153:=Yp
def ty154:TyE:=⟨Ty.arr 5 1,5,true,Value.agg #[.int .i64 0,.int .i64 0,.int .i64 0,.int .i64 0,.int .i64 0]⟩
theorem ty154_ok:Yk 154 ty154:=Yp
def ty158:TyE:=⟨Ty.map 160 77,1,false,Value.map Option.none⟩
theorem ty158_ok:Yk 158 ty158:=Yp
def ty160:TyE:=⟨Ty.strct [(0,1,0),(1,1,0)],2,true,Value.agg #[.string ⟨#[]⟩,.int .i64 0]⟩
theorem ty160_ok:Yk 160 ty160:=Yp
def ty162:TyE:=⟨Ty.other,1,false,Value.nilFunc⟩
theorem ty162_ok:Yk 162 ty162:=Yp
def ty166:TyE:=⟨Ty.strct [(0,1,0),(1,1,0)],2,true,Value.agg #[.string ⟨#[]⟩,.int .i64 0]⟩
theorem ty166_ok:Yk 166 ty166:=Yp
def ty167:TyE:=⟨Ty.other,1,false,Value.nilFunc⟩
theorem ty167_ok:Yk 167 ty167:=Yp
def ty168:TyE:=Ys 104 1
theorem ty168_ok:Yk 168 ty168:=Yp
def ty172:TyE:=⟨Ty.map 174 3,1,false,Value.map Option.none⟩
theorem ty172_ok:Yk 172 ty172:=Yp
def ty174:TyE:=⟨Ty.strct [(0,1,0),(1,1,0)],2,true,Value.agg #[Value.bool false,.string ⟨#[]⟩]⟩
theorem ty174_ok:Yk 174 ty174:=Yp
def ty175:TyE:=⟨Ty.other,1,false,Value.nilFunc⟩
theorem ty175_ok:Yk 175 ty175:=Yp
def ty177:TyE:=Ys 174 2
theorem ty177_ok:Yk 177 ty177:=Yp
def ty184:TyE:=⟨Ty.int IntKind.u64,1,false,.int .u64 0⟩
theorem ty184_ok:Yk 184 ty184:=Yp
def ty187:TyE:=⟨Ty.other,1,false,Value.nilFunc⟩
theorem ty187_ok:Yk 187 ty187:=Yp
def ty189:TyE:=⟨Ty.strct [(0,1,0),(1,1,0)],2,true,Value.agg #[.string ⟨#[]⟩,Value.nilFunc]⟩
theorem ty189_ok:Yk 189 ty189:=Yp
def ty191:TyE:=⟨Ty.map 9 274,1,false,Value.map Option.none⟩
theorem ty191_ok:Yk 191 ty191:=Yp
def ty192:TyE:=⟨Ty.map 197 4,1,false,Value.map Option.none⟩
theorem ty192_ok:Yk 192 ty192:=Yp
def ty193:TyE:=⟨Ty.map 197 3,1,false,Value.map Option.none⟩
theorem ty193_ok:Yk 193 ty193:=Yp
def ty195:TyE:=⟨Ty.strct [(0,1,0),(1,1,0),(2,8,1),(10,1,0),(11,1,0),(12,1,0),(13,1,0),(14,1,0),(15,1,0),(16,1,0),(17,1,0)],18,true,Value.agg #[.int .i64 0,.int .i64 0,.string ⟨#[]⟩,.int .i64 0,.int .i64 0,.int .i64 0,.string ⟨#[]⟩,.string ⟨#[]⟩,.int .i64 0,.string ⟨#[]⟩,Value.map Option.none,Value.map Option.none,Value.map Option.none,Value.map Option.none,Value.map Option.none,Value.map Option.none,Value.map Option.none,Value.map Option.none]⟩
theorem ty195_ok:Yk 195 ty195:=Yp
def ty197:TyE:=⟨Ty.strct [(0,1,0),(1,1,0)],2,true,Value.agg #[.string ⟨#[]⟩,.string ⟨#[]⟩]⟩
theorem ty197_ok:Yk 197 ty197:=Yp
def ty200:TyE:=⟨Ty.other,1,false,Value.nilFunc⟩
theorem ty200_ok:Yk 200 ty200:=Yp
def ty201:TyE:=⟨Ty.arr 6 1,6,true,Value.agg #[Value.nilFunc,Value.nilFunc,Value.nilFunc,Value.nilFunc,Value.nilFunc,Value.nilFunc]⟩
theorem ty201_ok:Yk 201 ty201:=Yp
def ty203:TyE:=⟨Ty.arr 13 1,13,true,Value.agg #[.int .i64 0,.int .i64 0,.int .i64 0,.int .i64 0,.int .i64 0,.int .i64 0,.int .i64 0,.int .i64 0,.int .i64 0,.int .i64 0,.int .i64 0,.int .i64 0,.int .i64 0]⟩
theorem ty203_ok:Yk 203 ty203:=Yp
def ty213:TyE:=⟨Ty.arr 15 1,15,true,Value.agg #[.string ⟨#[]⟩,.string ⟨#[]⟩,.string ⟨#[]⟩,.string ⟨#[]⟩,.string ⟨#[]⟩,.string ⟨#[]⟩,.string ⟨#[]⟩,.string ⟨#[]⟩,.string ⟨#[]⟩,.string ⟨#[]⟩,.string ⟨#[]⟩,.string ⟨#[]⟩,.string ⟨#[]⟩,.string ⟨#[]⟩,.string ⟨#[]⟩]⟩
theorem ty213_ok:Yk 213 ty213:=Yp
def ty222:TyE:=⟨Ty.arr 256 1,256,true,Value.agg (([Value.bool false,Value.bool false,Value.bool false,Value.bool false,Value.bool false,Value.bool false,Value.bool false,Value.bool false,Value.bool false,Value.bool false,Value.bool false,Value.bool false,Value.bool false,Value.bool false,Value.bool false,Value.bool false,Value.bool false,Value.bool false,Value.bool false,Value.bool false,Value.bool false,Value.bool false,Value.bool false,Value.bool false,Value.bool false,Value.bool false,Value.bool false,Value.bool false,Value.bool false,Value.bool false,Value.bool false,Value.bool false,Value.bool false,Value.bool false,Value.bool false,Value.bool false,Value.bool false,Value.bool false,Value.bool false,Value.bool false,Value.bool false,Value.bool false,Value.bool false,Value.bool false,Value.bool false,Value.bool false,Value.bool false,Value.bool false,Value.bool false,Value.bool false,Value.bool false,Value.bool false,Value.bool false,Value.bool false,Value.bool false,Value.bool false,Value.bool false,Value.bool false,Value.bool false,Value.bool false,Value.bool false,Value.bool false,Value.bool false,Value.bool false].append [Value.bool false,Value.bool false,Value.bool false,Value.bool false,Value.bool false,Value.bool false,Value.bool false,Value.bool false,Value.bool false,Value.bool false,Value.bool false,Value.bool false,Value.bool false,Value.bool false,Value.bool false,Value.bool false,Value.bool false,Value.bool false,Value.bool false,Value.bool false,Value.bool false,Value.bool false,Value.bool false,Value.bool false,Value.bool false,Value.bool false,Value.bool false,Value.bool false,Value.bool false,Value.bool false,Value.bool false,Value.bool false,Value.bool false,Value.bool false,Value.bool false,Value.bool false,Value.bool false,Value.bool false,Value.bool false,Value.bool false,Value.bool false,Value.bool false,Value.bool false,Value.bool false,Value.bool false,Value.bool false,Value.bool false,Value.bool false,Value.bool false,Value.bool false,Value.bool false,Value.bool false,Value.bool false,Value.bool false,Value.bool false,Value.bool false,Value.bool false,Value.bool false,Value.bool false,Value.bool false,Value.bool false,Value.bool false,Value.bool false,Value.bool false]).append ([Value.bool false,Value.bool false,Value.bool false,Value.bool false,Value.bool false,Value.bool false,Value.bool false,Value.bool false,Value.bool false,Value.bool false,Value.bool false,Value.bool false,Value.bool false,Value.bool false,Value.bool false,Value.bool false,Value.bool false,Value.bool false,Value.bool false,Value.bool false,Value.bool false,Value.bool false,Value.bool false,Value.bool false,Value.bool false,Value.bool false,Value.bool false,Value.bool false,Value.bool false,Value.bool false,Value.bool false,Value.bool false,Value.bool false,Value.bool false,Value.bool false,Value.bool false,Value.bool false,Value.bool false,Value.bool false,Value.bool false,Value.bool false,Value.bool false,Value.bool false,Value.bool false,Value.bool false,Value.bool false,Value.bool false,Value.bool false,Value.bool false,Value.bool false,Value.bool false,Value.bool false,Value.bool false,Value.bool false,Value.bool false,Value.bool false,Value.bool false,Value.bool false,Value.bool false,Value.bool false,Value.bool false,Value.bool false,Value.bool false,Value.bool false].append [Value.bool false,Value.bool false,Value.bool false,Value.bool false,Value.bool false,Value.bool false,Value.bool false,Value.bool false,Value.bool false,Value.bool false,Value.bool false,Value.bool false,Value.bool false,Value.bool false,Value.bool false,Value.bool false,Value.bool false,Value.bool false,Value.bool false,Value.bool false,Value.bool false,Value.bool false,Value.bool false,Value.bool false,Value.bool false,Value.bool false,Value.bool false,Value.bool false,Value.bool false,Value.bool false,Value.bool false,Value.bool false,Value.bool false,Value.bool false,Value.bool false,Value.bool false,Value.bool false,Value.bool false,Value.bool false,Value.bool false,Value.bool false,Value.bool false,Value.bool false,Value.bool false,Value.bool false,Value.bool false,Value.bool false,Value.bool false,Value.bool false,Value.bool false,Value.bool false,Value.bool false,Value.bool false,Value.bool false,Value.bool false,Value.bool false,Value.bool false,Value.bool false,Value.bool false,Value.bool false,Value.bool false,Value.bool false,Value.bool false,Value.bool false])).toArray⟩
theorem ty222_ok:Yk 222 ty222:=Yp
def ty227:TyE:=⟨Ty.strct [(0,1,0)],1,true,Value.agg #[Value.slice Option.none 0 0]⟩
theorem ty227_ok:Yk 227 ty227:=Yp
def ty230:TyE:=⟨Ty.other,1,false,Value.nilFunc⟩
theorem ty230_ok:Yk 230 ty230:=Yp
def ty239:TyE:=⟨Ty.other,1,false,Value.nilFunc⟩
theorem ty239_ok:Yk 239 ty239:=Yp
def ty242:TyE:=⟨Ty.strct [(0,1,0),(1,1,0)],2,true,Value.agg #[.int .i64 0,.int .i64 0]⟩
theorem ty242_ok:Yk 242 ty242:=Yp
def ty245:TyE:=⟨Ty.arr 11 1,11,true,Value.agg #[Value.nilFunc,Value.nilFunc,Value.nilFunc,Value.nilFunc,Value.nilFunc,Value.nilFunc,Value.nilFunc,Value.nilFunc,Value.nilFunc,Value.nilFunc,Value.nilFunc]⟩
theorem ty245_ok:Yk 245 ty245:=Yp
def ty247:TyE:=Ys 251 2
theorem ty247_ok:Yk 247 ty247:=Yp
def ty251:TyE:=⟨Ty.strct [(0,1,0),(1,1,0)],2,true,Value.agg #[.string ⟨#[]⟩,.int .i64 0]⟩
theorem ty251_ok:Yk 251 ty251:=Yp
def ty252:TyE:=Ys 256 3
theorem ty252_ok:Yk 252 ty252:=Yp
def ty256:TyE:=⟨Ty.strct [(0,1,0),(1,1,0),(2,1,0)],3,true,Value.agg #[.string ⟨#[]⟩,.int .i64 0,.int .i64 0]⟩
theorem ty256_ok:Yk 256 ty256:=Yp
def ty258:TyE:=Ys 261 3
theorem ty258_ok:Yk 258 ty258:=Yp
def ty261:TyE:=⟨Ty.strct [(0,1,0),(1,2,1)],3,true,Value.agg #[.string ⟨#[]⟩,.int .i64 0,.int .i64 0]⟩
theorem ty261_ok:Yk 261 ty261:=Yp
def ty264:TyE:=⟨Ty.other,1,false,Value.nilFunc⟩
theorem ty264_ok:Yk 264 ty264:=Yp
def ty265:TyE:=⟨Ty.map 9 2,1,false,Value.map Option.none⟩
theorem ty265_ok:Yk 265 ty265:=Yp
def ty268:TyE:=⟨Ty.other,1,false,Value.nilFunc⟩
theorem ty268_ok:Yk 268 ty268:=Yp
def ty274:TyE:=Ys 276 9
theorem ty274_ok:Yk 274 ty274:=Yp
def ty276:TyE:=⟨Ty.strct [(0,8,1),(8,1,0)],9,true,Value.agg #[.string ⟨#[]⟩,.int .i64 0,.int .i64 0,.int .i64 0,.string ⟨#[]⟩,.string ⟨#[]⟩,.int .i64 0,.string ⟨#[]⟩,Value.slice Option.none 0 0]⟩
theorem ty276_ok:Yk 276 ty276:=Yp
def ty278:TyE:=⟨Ty.arr 3 1,3,true,Value.agg #[Value.bool false,Value.bool false,Value.bool false]⟩
theorem ty278_ok:Yk 278 ty278:=Yp
def ty279:TyE:=⟨Ty.map 9 367,1,false,Value.map Option.none⟩
theorem ty279_ok:Yk 279 ty279:=Yp
def ty281:TyE:=⟨Ty.strct [(0,1,0),(1,1,0),(2,1,0)],3,true,Value.agg #[.int .i64 0,.int .i64 0,Value.map Option.none]⟩
theorem ty281_ok:Yk 281 ty281:=Yp
def ty282:TyE:=⟨Ty.map 302 2,1,false,Value.map Option.none⟩
theorem ty282_ok:Yk 282 ty282:=Yp
def ty283:TyE:=⟨Ty.map 9 289,1,false,Value.map Option.none⟩
theorem ty283_ok:Yk 283 ty283:=Yp
def ty285:TyE:=⟨Ty.strct [(0,1,0),(1,1,0),(2,1,0),(3,1,0)],4,true,Value.agg #[.int .i64 0,.int .i64 0,Value.map Option.none,Value.map Option.none]⟩
theorem ty285_ok:Yk 285 ty285:=Yp
def ty286:TyE:=⟨Ty.map 9 303,1,false,Value.map Option.none⟩
theorem ty286_ok:Yk 286 ty286:=Yp
def ty288:TyE:=⟨Ty.strct [(0,1,0),(1,1,0)],2,true,Value.agg #[.int .i64 0,Value.map Option.none]⟩
theorem ty288_ok:Yk 288 ty288:=Yp
def ty289:TyE:=Ys 3 1
theorem ty289_ok:Yk 289 ty289:=Yp
def ty290:TyE:=Yo
theorem ty290_ok:Yk 290 ty290:=Yp
def ty292:TyE:=⟨Ty.strct [(0,1,0),(1,1,0)],2,true,Value.agg #[Value.pointer Option.none,Value.slice Option.none 0 0]⟩
theorem ty292_ok:Yk 292 ty292:=Yp
def ty295:TyE:=⟨Ty.other,1,false,Value.nilIface⟩
theorem ty295_ok:Yk 295 ty295:=Yp
def ty302:TyE:=⟨Ty.strct [(0,1,0),(1,1,0)],2,true,Value.agg #[.string ⟨#[]⟩,.int .i64 0]⟩
theorem ty302_ok:Yk 302 ty302:=Yp
def ty303:TyE:=⟨Ty.map 3 90,1,false,Value.map Option.none⟩
theorem ty303_ok:Yk 303 ty303:=Yp
def ty308:TyE:=⟨Ty.strct [(0,1,0)],1,true,Value.agg #[Value.nilIface]⟩
theorem ty308_ok:Yk 308 ty308:=Yp
def ty309:TyE:=⟨Ty.strct [(0,1,0)],1,true,Value.agg #[Value.slice Option.none 0 0]⟩
theorem ty309_ok:Yk 309 ty309:=Yp
def ty316:TyE:=⟨Ty.arr 24 1,24,true,Value.agg (List.replicate 24 (.int .u8 0)).toArray⟩
theorem ty316_ok:Yk 316 ty316:=Yp
def ty322:TyE:=Ys 385 4
theorem ty322_ok:Yk 322 ty322:=Yp
def ty331:TyE:=⟨Ty.other,1,false,Value.nilFunc⟩
theorem ty331_ok:Yk 331 ty331:=Yp
def ty337:TyE:=⟨Ty.map 9 242,1,false,Value.map Option.none⟩
theorem ty337_ok:Yk 337 ty337:=Yp
def ty344:TyE:=Ys 59 7
theorem ty344_ok:Yk 344 ty344:=Yp
def ty347:TyE:=⟨Ty.other,1,false,Value.nilFunc⟩
theorem ty347_ok:Yk 347 ty347:=Yp
def ty350:TyE:=⟨Ty.int IntKind.i64,1,false,.int .i64 0⟩
theorem ty350_ok:Yk 350 ty350:=Yp
def ty357:TyE:=⟨Ty.int IntKind.u32,1,false,.int .u32 0⟩
theorem ty357_ok:Yk 357 ty357:=Yp
def ty364:TyE:=Yo
theorem ty364_ok:Yk 364 ty364:=Yp
def ty367:TyE:=⟨Ty.map 3 2,1,false,Value.map Option.none⟩
theorem ty367_ok:Yk 367 ty367:=Yp
def ty382:TyE:=⟨Ty.arr 20 1,20,true,Value.agg #[.int .u64 0,.int .u64 0,.int .u64 0,.int .u64 0,.int .u64 0,.int .u64 0,.int .u64 0,.int .u64 0,.int .u64 0,.int .u64 0,.int .u64 0,.int .u64 0,.int .u64 0,.int .u64 0,.int .u64 0,.int .u64 0,.int .u64 0,.int .u64 0,.int .u64 0,.int .u64 0]⟩
theorem ty382_ok:Yk 382 ty382:=Yp
def ty383:TyE:=⟨Ty.arr 65 1,65,true,Value.agg ((List.replicate 32 (.int .u8 0)).append (List.replicate 33 (.int .u8 0))).toArray⟩
theorem ty383_ok:Yk 383 ty383:=Yp
def ty385:TyE:=⟨Ty.strct [(0,1,0),(1,1,0),(2,1,0),(3,1,0)],4,true,Value.agg #[.string ⟨#[]⟩,.int .i64 0,.int .i64 0,Value.slice Option.none 0 0]⟩
theorem ty385_ok:Yk 385 ty385:=Yp
def ty389:TyE:=Yo
theorem ty389_ok:Yk 389 ty389:=Yp
def ty392:TyE:=⟨Ty.strct [(0,1,0),(1,1,0)],2,true,Value.agg #[Value.pointer Option.none,Value.bool false]⟩
theorem ty392_ok:Yk 392 ty392:=Yp
def ty393:TyE:=⟨Ty.map 9 153,1,false,Value.map Option.none⟩
theorem ty393_ok:Yk 393 ty393:=Yp
def ty395:TyE:=⟨Ty.strct [(0,1,0),(1,1,0)],2,true,Value.agg #[Value.map Option.none,Value.map Option.none]⟩
theorem ty395_ok:Yk 395 ty395:=Yp
def ty406:TyE:=⟨Ty.other,1,false,Value.nilFunc⟩
theorem ty406_ok:Yk 406 ty406:=Yp
def ty412:TyE:=⟨Ty.other,1,false,Value.nilFunc⟩
theorem ty412_ok:Yk 412 ty412:=Yp
def ty416:TyE:=⟨Ty.int IntKind.u64,1,false,.int .u64 0⟩
theorem ty416_ok:Yk 416 ty416:=Yp
def ty420:TyE:=Yo
theorem ty420_ok:Yk 420 ty420:=Yp
def ty423:TyE:=Yo
theorem ty423_ok:Yk 423 ty423:=Yp
def ty427:TyE:=⟨Ty.strct [(0,1,0)],1,true,Value.agg #[.string ⟨#[]⟩]⟩
theorem ty427_ok:Yk 427 ty427:=Yp
def ty429:TyE:=⟨Ty.strct [(0,1,0),(1,1,0)],2,true,Value.agg #[.string ⟨#[]⟩,.string ⟨#[]⟩]⟩
theorem ty429_ok:Yk 429 ty429:=Yp
def ty431:TyE:=⟨Ty.strct [(0,1,0),(1,1,0),(2,1,0)],3,true,Value.agg #[.string ⟨#[]⟩,Value.bool false,.int .i64 0]⟩
theorem ty431_ok:Yk 431 ty431:=Yp
def ty450:TyE:=⟨Ty.arr 2 1,2,true,Value.agg #[.int .u64 0,.int .u64 0]⟩
theorem ty450_ok:Yk 450 ty450:=Yp
def ty465:TyE:=⟨Ty.arr 32 1,32,true,Value.agg (List.replicate 32 (.int .u8 0)).toArray⟩
theorem ty465_ok:Yk 465 ty465:=Yp
def ty466:TyE:=⟨Ty.arr 64 1,64,true,Value.agg (List.replicate 64 (.int .u8 0)).toArray⟩
theorem ty466_ok:Yk 466 ty466:=Yp
def ty469:TyE:=⟨Ty.other,1,false,Value.nilFunc⟩
theorem ty469_ok:Yk 469 ty469:=Yp
def ty494:TyE:=⟨Ty.arr 256 1,256,true,Value.agg (((List.replicate 64 (.int .u8 0)).append (List.replicate 64 (.int .u8 0))).append ((List.replicate 64 (.int .u8 0)).append (List.replicate 64 (.int .u8 0)))).toArray⟩
theorem ty494_ok:Yk 494 ty494:=Yp
def ty496:TyE:=⟨Ty.strct [(0,1,0),(1,1,0)],2,true,Value.agg #[.int .u8 0,.int .u8 0]⟩
theorem ty496_ok:Yk 496 ty496:=Yp
def ty497:TyE:=⟨Ty.arr 16 2,32,true,Value.agg (List.replicate 32 (.int .u8 0)).toArray⟩
theorem ty497_ok:Yk 497 ty497:=Yp
def ty509:TyE:=⟨Ty.strct [(0,1,0),(1,1,0),(2,1,0)],3,true,Value.agg #[.string ⟨#[]⟩,.string ⟨#[]⟩,Value.nilIface]⟩
theorem ty509_ok:Yk 509 ty509:=Yp
def ty518:TyE:=⟨Ty.strct [(0,1,0)],1,true,Value.agg #[.string ⟨#[]⟩]⟩
theorem ty518_ok:Yk 518 ty518:=Yp
def ty540:TyE:=⟨Ty.other,1,false,Value.nilFunc⟩
theorem ty540_ok:Yk 540 ty540:=Yp
theorem by77 : (Tryz.prog.info? 77).map (·.bytes) = some 96 := by kernel_rfl
theorem by9 : (Tryz.prog.info? 9).map (·.bytes) = some 16 := by kernel_rfl
theorem by68 : (Tryz.prog.info? 68).map (·.bytes) = some 56 := by kernel_rfl
theorem by55 : (Tryz.prog.info? 55).map (·.bytes) = some 40 := by kernel_rfl
theorem by121 : (Tryz.prog.info? 121).map (·.bytes) = some 8 := by kernel_rfl
theorem by146 : (Tryz.prog.info? 146).map (·.bytes) = some 24 := by kernel_rfl
theorem by166 : (Tryz.prog.info? 166).map (·.bytes) = some 24 := by kernel_rfl
theorem by141 : (Tryz.prog.info? 141).map (·.bytes) = some 96 := by kernel_rfl
theorem by104 : (Tryz.prog.info? 104).map (·.bytes) = some 16 := by kernel_rfl
theorem by174 : (Tryz.prog.info? 174).map (·.bytes) = some 24 := by kernel_rfl
theorem by251 : (Tryz.prog.info? 251).map (·.bytes) = some 24 := by kernel_rfl
theorem by256 : (Tryz.prog.info? 256).map (·.bytes) = some 32 := by kernel_rfl
theorem by261 : (Tryz.prog.info? 261).map (·.bytes) = some 32 := by kernel_rfl
theorem by276 : (Tryz.prog.info? 276).map (·.bytes) = some 120 := by kernel_rfl
theorem by3 : (Tryz.prog.info? 3).map (·.bytes) = some 8 := by kernel_rfl
theorem by385 : (Tryz.prog.info? 385).map (·.bytes) = some 56 := by kernel_rfl
theorem by59 : (Tryz.prog.info? 59).map (·.bytes) = some 80 := by kernel_rfl
theorem st68 : Xbi Tryz.prog 68 [("Item", 9, 0), ("Maker", 9, 1), ("Tags", 9, 2), ("Score", 2, 3)] := ⟨by kernel_rfl, by kernel_rfl, by kernel_rfl, by kernel_rfl⟩
theorem st77 : Xbi Tryz.prog 77 [("Source", 9, 0), ("Number", 3, 1), ("At", 3, 2), ("Kind", 75, 3), ("Person", 9, 4), ("Item", 9, 5), ("Value", 3, 6), ("Text", 9, 7)] := ⟨by kernel_rfl, by kernel_rfl, by kernel_rfl, by kernel_rfl⟩
theorem st146 : Xbi Tryz.prog 146 [("What", 144, 0), ("Raw", 2, 1), ("Points", 2, 2)] := ⟨by kernel_rfl, by kernel_rfl, by kernel_rfl, by kernel_rfl⟩
theorem st160 : Xbi Tryz.prog 160 [("source", 9, 0), ("number", 3, 1)] := ⟨by kernel_rfl, by kernel_rfl, by kernel_rfl, by kernel_rfl⟩
theorem st174 : Xbi Tryz.prog 174 [("tag", 4, 0), ("name", 9, 1)] := ⟨by kernel_rfl, by kernel_rfl, by kernel_rfl, by kernel_rfl⟩
theorem st197 : Xbi Tryz.prog 197 [("person", 9, 0), ("what", 9, 1)] := ⟨by kernel_rfl, by kernel_rfl, by kernel_rfl, by kernel_rfl⟩
theorem st302 : Xbi Tryz.prog 302 [("key", 9, 0), ("pane", 3, 1)] := ⟨by kernel_rfl, by kernel_rfl, by kernel_rfl, by kernel_rfl⟩
def Tt : Tab := [(2,ty2),(3,ty3),(4,ty4),(5,ty5),(9,ty9),(20,ty20),(21,ty21),(22,ty22),(23,ty23),(25,ty25),(27,ty27),(29,ty29),(30,ty30),(32,ty32),(36,ty36),(38,ty38),(39,ty39),(42,ty42),(45,ty45),(46,ty46),(48,ty48),(50,ty50),(51,ty51),(53,ty53),(55,ty55),(56,ty56),(59,ty59),(61,ty61),(64,ty64),(68,ty68),(72,ty72),(75,ty75),(77,ty77),(78,ty78),(80,ty80),(82,ty82),(84,ty84),(86,ty86),(89,ty89),(90,ty90),(91,ty91),(92,ty92),(93,ty93),(94,ty94),(95,ty95),(97,ty97),(98,ty98),(99,ty99),(102,ty102),(104,ty104),(106,ty106),(109,ty109),(117,ty117),(118,ty118),(121,ty121),(124,ty124),(127,ty127),(134,ty134),(135,ty135),(136,ty136),(138,ty138),(141,ty141),(142,ty142),(144,ty144),(146,ty146),(151,ty151),(153,ty153),(154,ty154),(158,ty158),(160,ty160),(162,ty162),(166,ty166),(167,ty167),(168,ty168),(172,ty172),(174,ty174),(175,ty175),(177,ty177),(184,ty184),(187,ty187),(189,ty189),(191,ty191),(192,ty192),(193,ty193),(195,ty195),(197,ty197),(200,ty200),(201,ty201),(203,ty203),(213,ty213),(222,ty222),(227,ty227),(230,ty230),(239,ty239),(242,ty242),(245,ty245),(247,ty247),(251,ty251),(252,ty252),(256,ty256),(258,ty258),(261,ty261),(264,ty264),(265,ty265),(268,ty268),(274,ty274),(276,ty276),(278,ty278),(279,ty279),(281,ty281),(282,ty282),(283,ty283),(285,ty285),(286,ty286),(288,ty288),(289,ty289),(290,ty290),(292,ty292),(295,ty295),(302,ty302),(303,ty303),(308,ty308),(309,ty309),(316,ty316),(322,ty322),(331,ty331),(337,ty337),(344,ty344),(347,ty347),(350,ty350),(357,ty357),(364,ty364),(367,ty367),(382,ty382),(383,ty383),(385,ty385),(389,ty389),(392,ty392),(393,ty393),(395,ty395),(406,ty406),(412,ty412),(416,ty416),(420,ty420),(423,ty423),(427,ty427),(429,ty429),(431,ty431),(450,ty450),(465,ty465),(466,ty466),(469,ty469),(494,ty494),(496,ty496),(497,ty497),(509,ty509),(518,ty518),(540,ty540)]
theorem Qb : Qbe Tryz.prog Tt := ⟨ty2_ok, ty3_ok, ty4_ok, ty5_ok, ty9_ok, ty20_ok, ty21_ok, ty22_ok, ty23_ok, ty25_ok, ty27_ok, ty29_ok, ty30_ok, ty32_ok, ty36_ok, ty38_ok, ty39_ok, ty42_ok, ty45_ok, ty46_ok, ty48_ok, ty50_ok, ty51_ok, ty53_ok, ty55_ok, ty56_ok, ty59_ok, ty61_ok, ty64_ok, ty68_ok, ty72_ok, ty75_ok, ty77_ok, ty78_ok, ty80_ok, ty82_ok, ty84_ok, ty86_ok, ty89_ok, ty90_ok, ty91_ok, ty92_ok, ty93_ok, ty94_ok, ty95_ok, ty97_ok, ty98_ok, ty99_ok, ty102_ok, ty104_ok, ty106_ok, ty109_ok, ty117_ok, ty118_ok, ty121_ok, ty124_ok, ty127_ok, ty134_ok, ty135_ok, ty136_ok, ty138_ok, ty141_ok, ty142_ok, ty144_ok, ty146_ok, ty151_ok, ty153_ok, ty154_ok, ty158_ok, ty160_ok, ty162_ok, ty166_ok, ty167_ok, ty168_ok, ty172_ok, ty174_ok, ty175_ok, ty177_ok, ty184_ok, ty187_ok, ty189_ok, ty191_ok, ty192_ok, ty193_ok, ty195_ok, ty197_ok, ty200_ok, ty201_ok, ty203_ok, ty213_ok, ty222_ok, ty227_ok, ty230_ok, ty239_ok, ty242_ok, ty245_ok, ty247_ok, ty251_ok, ty252_ok, ty256_ok, ty258_ok, ty261_ok, ty264_ok, ty265_ok, ty268_ok, ty274_ok, ty276_ok, ty278_ok, ty279_ok, ty281_ok, ty282_ok, ty283_ok, ty285_ok, ty286_ok, ty288_ok, ty289_ok, ty290_ok, ty292_ok, ty295_ok, ty302_ok, ty303_ok, ty308_ok, ty309_ok, ty316_ok, ty322_ok, ty331_ok, ty337_ok, ty344_ok, ty347_ok, ty350_ok, ty357_ok, ty364_ok, ty367_ok, ty382_ok, ty383_ok, ty385_ok, ty389_ok, ty392_ok, ty393_ok, ty395_ok, ty406_ok, ty412_ok, ty416_ok, ty420_ok, ty423_ok, ty427_ok, ty429_ok, ty431_ok, ty450_ok, ty465_ok, ty466_ok, ty469_ok, ty494_ok, ty496_ok, ty497_ok, ty509_ok, ty518_ok, ty540_ok, trivial⟩
theorem mixed : Tryz.prog.follows .mixedOrders = true := by kernel_rfl
theorem Dr {N : Nat} (cl : Cl) (A B : List Nat) {id : Nat} {ops : Array Oper} {Γ : Env} {w : World} {kn : KN} {ex : KE} {rt : KN} (h : Qeu Tryz.prog Tt N cl ops.toList (Qhe ops.toList A) Γ [] [] w.drew fun Γ' Δ' G' w' => Qeu Tryz.prog Tt N .same ops.toList (Qhe ops.toList B) Γ' Δ' G' w' fun Γ'' _ _ w'' => kn Γ'' w'') (hc : Q6p Tt ops A B = true := by kernel_rfl) (hs : cl = .same → A.all (fun i => match ops[i]? with | some o => still Tt o.op | none => true) = true := by first | (intro h; cases h; done) | (intro _; rfl)) : SemC Tryz.prog N (.region id ops true) Γ w kn ex rt := Qm cl A B Qb mixed hc hs h
theorem Sg {N : Nat} {x y : Code} {Γ : Env} {w : World} {kn : KN} {ex : KE} {rt : KN} (h : vc Tryz.prog Tt N x Γ w (fun Γ' w' => vc Tryz.prog Tt N y Γ' w' kn ex rt) ex rt) : SemC Tryz.prog N (.seq x y) Γ w kn ex rt := Qa Qb h
theorem Fi {N : Nat} {f : FuncId} {fn : Func} {body : Code} {args : List Value} {w : World} {R : Value → World → Prop} (hf : Tryz.prog.funcs[f]? = some fn) (hb : fn.body = some body) (rs : List ResultVar) (hrs : fn.results.toList = rs) (hN : fn.ntmps = N) (h : vc Tryz.prog Tt N body (Qrl args) w (Xjb Tt rs R) [] (Xjb Tt rs R)) (hn : (fn.name == "runtime.NumGoroutine") = false := by rfl) (hargs : Nat.ble args.length N = true := by rfl) : Cal Tryz.prog f args w R := Qd Qb hf hn hb rs hrs hN hargs h
theorem Gg {p q : Prop} (h : q) (e : q → p := by intro h;(conv=>whnf);(repeat(refine Sg ?_;(conv=>whnf)));exact h) : p := e h
theorem Hh {p q : Prop} (h : q) (e : q → p := by intro h;(conv=>whnf);exact h) : p := e h
theorem Rr {p : Prop} (h : p := by (repeat (refine And.intro rfl ?_));exact trivial) : p := h
theorem Ix {a b c : Prop} (x : a := by rfl) (y : b := by omega) (z : c := by omega) : a ∧ b ∧ c := ⟨x, y, z⟩
theorem Oj {p:Prop} (h:p:=by simp[Qg,Value.oneCell']):p:=h
end Go.Proofs.YtpdonaienhociaaGreatDoor
