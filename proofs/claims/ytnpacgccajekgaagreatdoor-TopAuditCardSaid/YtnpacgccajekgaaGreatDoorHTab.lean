import GoSem.Claims
import GoSem.PinnedTables
import GoSem.Claim
import GoSem.ClaimJoined
import GoSem.ClaimMapViews
import Derived.JoinedTies
import Derived.Items
import Derived.PartsItems
import Derived.CheckFast
import Derived.HeadItems
import Derived.Shelf.ItemsParts
import Derived.Test.YtnpacgccajekgaaGreatDoorProg
import Derived.Test.YtnpacgccajekgaaGreatDoorGA
set_option linter.all false
namespace Go.Proofs.YtnpacgccajekgaaGreatDoor
open Go.Se Go.RowKit
abbrev Yk (n:Nat) (t:TyE):Prop:=Xb Tryz.prog n=some t
theorem Yp {n:Nat} {t:TyE} (h:Xb Tryz.prog n=some t:=by kernel_rfl):Yk n t:=h
abbrev Ys (e s:Nat):TyE:=⟨Ty.slice e s,1,false,Value.slice none 0 0⟩
abbrev Yo:TyE:=⟨Ty.other,1,false,Value.pointer none⟩
def ty2:TyE:=⟨Ty.int IntKind.i64,1,false,.int .i64 0⟩
theorem ty2_ok:Yk 2 ty2:=Yp
def ty3:TyE:=⟨Ty.int IntKind.i64,1,false,.int .i64 0⟩
theorem ty3_ok:Yk 3 ty3:=Yp
def ty4:TyE:=⟨Ty.bool,1,false,Value.bool false⟩
theorem ty4_ok:Yk 4 ty4:=Yp
def ty5:TyE:=⟨Ty.int IntKind.u8,1,false,.int .u8 0⟩
theorem ty5_ok:Yk 5 ty5:=Yp
def ty9:TyE:=⟨Ty.str,1,false,.string ⟨#[]⟩⟩
theorem ty9_ok:Yk 9 ty9:=Yp
def ty20:TyE:=⟨Ty.other,1,false,Value.nilIface⟩
theorem ty20_ok:Yk 20 ty20:=Yp
def ty21:TyE:=⟨Ty.int IntKind.i32,1,false,.int .i32 0⟩
theorem ty21_ok:Yk 21 ty21:=Yp
def ty22:TyE:=Ys 5 1
theorem ty22_ok:Yk 22 ty22:=Yp
def ty23:TyE:=⟨Ty.int IntKind.u64,1,false,.int .u64 0⟩
theorem ty23_ok:Yk 23 ty23:=Yp
def ty24:TyE:=Ys 69 8
theorem ty24_ok:Yk 24 ty24:=Yp
def ty26:TyE:=⟨Ty.strct [(0,1,0),(1,1,0),(2,1,0),(3,1,0),(4,1,0),(5,1,0)],6,true,Value.agg #[.int .i64 0,.int .i64 0,.int .i64 0,.int .i64 0,.int .i64 0,.int .i64 0]⟩
theorem ty26_ok:Yk 26 ty26:=Yp
def ty28:TyE:=⟨Ty.arr 6 1,6,true,Value.agg #[.int .i64 0,.int .i64 0,.int .i64 0,.int .i64 0,.int .i64 0,.int .i64 0]⟩
theorem ty28_ok:Yk 28 ty28:=Yp
def ty30:TyE:=⟨Ty.strct [(0,1,0),(1,1,0),(2,1,0)],3,true,Value.agg #[.int .i64 0,.int .i64 0,.int .i64 0]⟩
theorem ty30_ok:Yk 30 ty30:=Yp
def ty32:TyE:=⟨Ty.strct [(0,6,1),(6,6,1),(12,3,1),(15,1,0),(16,1,0),(17,1,0),(18,1,0),(19,1,0),(20,1,0),(21,1,0)],22,true,Value.agg #[.int .i64 0,.int .i64 0,.int .i64 0,.int .i64 0,.int .i64 0,.int .i64 0,.int .i64 0,.int .i64 0,.int .i64 0,.int .i64 0,.int .i64 0,.int .i64 0,.int .i64 0,.int .i64 0,.int .i64 0,.int .i64 0,.int .i64 0,.int .i64 0,.int .i64 0,.string ⟨#[]⟩,.string ⟨#[]⟩,.int .u64 0]⟩
theorem ty32_ok:Yk 32 ty32:=Yp
def ty36:TyE:=Yo
theorem ty36_ok:Yk 36 ty36:=Yp
def ty38:TyE:=Yo
theorem ty38_ok:Yk 38 ty38:=Yp
def ty39:TyE:=⟨Ty.int IntKind.i64,1,false,.int .i64 0⟩
theorem ty39_ok:Yk 39 ty39:=Yp
def ty42:TyE:=Ys 9 1
theorem ty42_ok:Yk 42 ty42:=Yp
def ty45:TyE:=⟨Ty.strct [(0,1,0),(1,1,0),(2,1,0),(3,1,0),(4,1,0)],5,true,Value.agg #[.int .i64 0,.int .i64 0,.string ⟨#[]⟩,Value.slice Option.none 0 0,.int .u64 0]⟩
theorem ty45_ok:Yk 45 ty45:=Yp
def ty47:TyE:=Ys 105 5
theorem ty47_ok:Yk 47 ty47:=Yp
def ty48:TyE:=Ys 4 1
theorem ty48_ok:Yk 48 ty48:=Yp
def ty50:TyE:=⟨Ty.strct [(0,1,0),(1,1,0),(2,1,0),(3,1,0)],4,true,Value.agg #[Value.slice Option.none 0 0,Value.slice Option.none 0 0,Value.slice Option.none 0 0,.int .i64 0]⟩
theorem ty50_ok:Yk 50 ty50:=Yp
def ty52:TyE:=Ys 3 1
theorem ty52_ok:Yk 52 ty52:=Yp
def ty55:TyE:=Ys 45 5
theorem ty55_ok:Yk 55 ty55:=Yp
def ty62:TyE:=Ys 71 13
theorem ty62_ok:Yk 62 ty62:=Yp
def ty64:TyE:=⟨Ty.strct [(0,22,1),(22,1,0),(23,1,0)],24,true,Value.agg #[.int .i64 0,.int .i64 0,.int .i64 0,.int .i64 0,.int .i64 0,.int .i64 0,.int .i64 0,.int .i64 0,.int .i64 0,.int .i64 0,.int .i64 0,.int .i64 0,.int .i64 0,.int .i64 0,.int .i64 0,.int .i64 0,.int .i64 0,.int .i64 0,.int .i64 0,.string ⟨#[]⟩,.string ⟨#[]⟩,.int .u64 0,Value.slice Option.none 0 0,.int .i64 0]⟩
theorem ty64_ok:Yk 64 ty64:=Yp
def ty66:TyE:=⟨Ty.int IntKind.i64,1,false,.int .i64 0⟩
theorem ty66_ok:Yk 66 ty66:=Yp
def ty67:TyE:=⟨Ty.int IntKind.i64,1,false,.int .i64 0⟩
theorem ty67_ok:Yk 67 ty67:=Yp
def ty69:TyE:=⟨Ty.strct [(0,1,0),(1,1,0),(2,1,0),(3,1,0),(4,1,0),(5,1,0),(6,1,0),(7,1,0)],8,true,Value.agg #[.string ⟨#[]⟩,.int .i64 0,.int .i64 0,.int .i64 0,.string ⟨#[]⟩,.string ⟨#[]⟩,.int .i64 0,.string ⟨#[]⟩]⟩
theorem ty69_ok:Yk 69 ty69:=Yp
def ty71:TyE:=⟨Ty.strct [(0,1,0),(1,8,1),(9,1,0),(10,1,0),(11,1,0),(12,1,0)],13,true,Value.agg #[.int .i64 0,.string ⟨#[]⟩,.int .i64 0,.int .i64 0,.int .i64 0,.string ⟨#[]⟩,.string ⟨#[]⟩,.int .i64 0,.string ⟨#[]⟩,.string ⟨#[]⟩,.int .i64 0,.int .i64 0,.int .i64 0]⟩
theorem ty71_ok:Yk 71 ty71:=Yp
def ty73:TyE:=⟨Ty.strct [(0,1,0),(1,1,0)],2,true,Value.agg #[.int .u64 0,Value.slice Option.none 0 0]⟩
theorem ty73_ok:Yk 73 ty73:=Yp
def ty75:TyE:=⟨Ty.other,1,false,Value.nilFunc⟩
theorem ty75_ok:Yk 75 ty75:=Yp
def ty78:TyE:=⟨Ty.map 132 4,1,false,Value.map Option.none⟩
theorem ty78_ok:Yk 78 ty78:=Yp
def ty79:TyE:=⟨Ty.map 9 4,1,false,Value.map Option.none⟩
theorem ty79_ok:Yk 79 ty79:=Yp
def ty80:TyE:=Yo
theorem ty80_ok:Yk 80 ty80:=Yp
def ty81:TyE:=Yo
theorem ty81_ok:Yk 81 ty81:=Yp
def ty82:TyE:=Yo
theorem ty82_ok:Yk 82 ty82:=Yp
def ty83:TyE:=Yo
theorem ty83_ok:Yk 83 ty83:=Yp
def ty84:TyE:=Yo
theorem ty84_ok:Yk 84 ty84:=Yp
def ty85:TyE:=Yo
theorem ty85_ok:Yk 85 ty85:=Yp
def ty87:TyE:=⟨Ty.strct [(0,6,1),(6,1,0),(7,1,0),(8,8,1),(16,1,0),(17,1,0),(18,1,0),(19,1,0),(20,1,0),(21,1,0),(22,1,0),(23,1,0)],24,true,Value.agg #[.int .i64 0,.int .i64 0,.int .i64 0,.int .i64 0,.int .i64 0,.int .i64 0,Value.slice Option.none 0 0,Value.bool false,.string ⟨#[]⟩,.int .i64 0,.int .i64 0,.int .i64 0,.string ⟨#[]⟩,.string ⟨#[]⟩,.int .i64 0,.string ⟨#[]⟩,Value.map Option.none,Value.map Option.none,Value.pointer Option.none,Value.pointer Option.none,Value.pointer Option.none,Value.pointer Option.none,Value.pointer Option.none,Value.pointer Option.none]⟩
theorem ty87_ok:Yk 87 ty87:=Yp
def ty93:TyE:=⟨Ty.other,1,false,Value.nilFunc⟩
theorem ty93_ok:Yk 93 ty93:=Yp
def ty94:TyE:=Ys 98 4
theorem ty94_ok:Yk 94 ty94:=Yp
def ty98:TyE:=⟨Ty.strct [(0,1,0),(1,1,0),(2,1,0),(3,1,0)],4,true,Value.agg #[.string ⟨#[]⟩,.string ⟨#[]⟩,.string ⟨#[]⟩,.int .i64 0]⟩
theorem ty98_ok:Yk 98 ty98:=Yp
def ty103:TyE:=Ys 234 3
theorem ty103_ok:Yk 103 ty103:=Yp
def ty105:TyE:=⟨Ty.strct [(0,1,0),(1,1,0),(2,1,0),(3,1,0),(4,1,0)],5,true,Value.agg #[.string ⟨#[]⟩,Value.slice Option.none 0 0,.int .i64 0,Value.slice Option.none 0 0,.int .i64 0]⟩
theorem ty105_ok:Yk 105 ty105:=Yp
def ty107:TyE:=⟨Ty.map 3 38,1,false,Value.map Option.none⟩
theorem ty107_ok:Yk 107 ty107:=Yp
def ty111:TyE:=⟨Ty.other,1,false,Value.nilIface⟩
theorem ty111_ok:Yk 111 ty111:=Yp
def ty123:TyE:=⟨Ty.arr 8 1,8,true,Value.agg #[.int .i64 0,.int .i64 0,.int .i64 0,.int .i64 0,.int .i64 0,.int .i64 0,.int .i64 0,.int .i64 0]⟩
theorem ty123_ok:Yk 123 ty123:=Yp
def ty125:TyE:=⟨Ty.map 9 3,1,false,Value.map Option.none⟩
theorem ty125_ok:Yk 125 ty125:=Yp
def ty126:TyE:=⟨Ty.arr 5 1,5,true,Value.agg #[.int .i64 0,.int .i64 0,.int .i64 0,.int .i64 0,.int .i64 0]⟩
theorem ty126_ok:Yk 126 ty126:=Yp
def ty130:TyE:=⟨Ty.map 132 69,1,false,Value.map Option.none⟩
theorem ty130_ok:Yk 130 ty130:=Yp
def ty132:TyE:=⟨Ty.strct [(0,1,0),(1,1,0)],2,true,Value.agg #[.string ⟨#[]⟩,.int .i64 0]⟩
theorem ty132_ok:Yk 132 ty132:=Yp
def ty134:TyE:=⟨Ty.other,1,false,Value.nilFunc⟩
theorem ty134_ok:Yk 134 ty134:=Yp
def ty141:TyE:=Yo
theorem ty141_ok:Yk 141 ty141:=Yp
def ty144:TyE:=Ys 148 2
theorem ty144_ok:Yk 144 ty144:=Yp
def ty146:TyE:=Ys 212 1
theorem ty146_ok:Yk 146 ty146:=Yp
def ty148:TyE:=⟨Ty.strct [(0,1,0),(1,1,0)],2,true,Value.agg #[.string ⟨#[]⟩,Value.slice Option.none 0 0]⟩
theorem ty148_ok:Yk 148 ty148:=Yp
def ty149:TyE:=⟨Ty.int IntKind.i64,1,false,.int .i64 0⟩
theorem ty149_ok:Yk 149 ty149:=Yp
def ty152:TyE:=⟨Ty.strct [(0,1,0),(1,1,0),(2,1,0),(3,1,0),(4,1,0),(5,1,0),(6,1,0)],7,true,Value.agg #[.string ⟨#[]⟩,.string ⟨#[]⟩,.string ⟨#[]⟩,.int .i64 0,.int .i64 0,.int .i64 0,Value.bool false]⟩
theorem ty152_ok:Yk 152 ty152:=Yp
def ty158:TyE:=⟨Ty.map 160 3,1,false,Value.map Option.none⟩
theorem ty158_ok:Yk 158 ty158:=Yp
def ty160:TyE:=⟨Ty.strct [(0,1,0),(1,1,0)],2,true,Value.agg #[Value.bool false,.string ⟨#[]⟩]⟩
theorem ty160_ok:Yk 160 ty160:=Yp
def ty161:TyE:=⟨Ty.other,1,false,Value.nilFunc⟩
theorem ty161_ok:Yk 161 ty161:=Yp
def ty163:TyE:=Ys 160 2
theorem ty163_ok:Yk 163 ty163:=Yp
def ty169:TyE:=⟨Ty.int IntKind.u64,1,false,.int .u64 0⟩
theorem ty169_ok:Yk 169 ty169:=Yp
def ty177:TyE:=⟨Ty.arr 3 1,3,true,Value.agg #[Value.nilIface,Value.nilIface,Value.nilIface]⟩
theorem ty177_ok:Yk 177 ty177:=Yp
def ty181:TyE:=⟨Ty.arr 13 1,13,true,Value.agg #[.int .i64 0,.int .i64 0,.int .i64 0,.int .i64 0,.int .i64 0,.int .i64 0,.int .i64 0,.int .i64 0,.int .i64 0,.int .i64 0,.int .i64 0,.int .i64 0,.int .i64 0]⟩
theorem ty181_ok:Yk 181 ty181:=Yp
def ty190:TyE:=⟨Ty.other,1,false,Value.nilFunc⟩
theorem ty190_ok:Yk 190 ty190:=Yp
def ty191:TyE:=⟨Ty.arr 15 1,15,true,Value.agg #[.string ⟨#[]⟩,.string ⟨#[]⟩,.string ⟨#[]⟩,.string ⟨#[]⟩,.string ⟨#[]⟩,.string ⟨#[]⟩,.string ⟨#[]⟩,.string ⟨#[]⟩,.string ⟨#[]⟩,.string ⟨#[]⟩,.string ⟨#[]⟩,.string ⟨#[]⟩,.string ⟨#[]⟩,.string ⟨#[]⟩,.string ⟨#[]⟩]⟩
theorem ty191_ok:Yk 191 ty191:=Yp
def ty198:TyE:=Yo
theorem ty198_ok:Yk 198 ty198:=Yp
def ty199:TyE:=Ys 288 2
theorem ty199_ok:Yk 199 ty199:=Yp
def ty202:TyE:=⟨Ty.strct [(0,1,0),(1,1,0),(2,1,0),(3,1,0),(4,1,0)],5,true,Value.agg #[Value.slice Option.none 0 0,.int .i64 0,.int .i64 0,Value.bool false,.int .i64 0]⟩
theorem ty202_ok:Yk 202 ty202:=Yp
def ty204:TyE:=⟨Ty.other,1,false,Value.nilIface⟩
theorem ty204_ok:Yk 204 ty204:=Yp
def ty206:TyE:=⟨Ty.strct [(0,1,0)],1,true,Value.agg #[Value.nilIface]⟩
theorem ty206_ok:Yk 206 ty206:=Yp
def ty208:TyE:=⟨Ty.map 9 146,1,false,Value.map Option.none⟩
theorem ty208_ok:Yk 208 ty208:=Yp
def ty209:TyE:=Ys 293 2
theorem ty209_ok:Yk 209 ty209:=Yp
def ty212:TyE:=⟨Ty.int IntKind.i64,1,false,.int .i64 0⟩
theorem ty212_ok:Yk 212 ty212:=Yp
def ty215:TyE:=⟨Ty.other,1,false,Value.nilFunc⟩
theorem ty215_ok:Yk 215 ty215:=Yp
def ty218:TyE:=⟨Ty.strct [(0,7,1),(7,1,0),(8,1,0),(9,1,0),(10,1,0),(11,1,0)],12,true,Value.agg #[.string ⟨#[]⟩,.string ⟨#[]⟩,.string ⟨#[]⟩,.int .i64 0,.int .i64 0,.int .i64 0,Value.bool false,.int .i64 0,.int .i64 0,.int .i64 0,Value.bool false,Value.bool false]⟩
theorem ty218_ok:Yk 218 ty218:=Yp
def ty222:TyE:=⟨Ty.arr 6 1,6,true,Value.agg #[Value.nilFunc,Value.nilFunc,Value.nilFunc,Value.nilFunc,Value.nilFunc,Value.nilFunc]⟩
theorem ty222_ok:Yk 222 ty222:=Yp
def ty223:TyE:=Ys 229 9
theorem ty223_ok:Yk 223 ty223:=Yp
def ty224:TyE:=⟨Ty.map 9 223,1,false,Value.map Option.none⟩
theorem ty224_ok:Yk 224 ty224:=Yp
def ty226:TyE:=⟨Ty.strct [(0,1,0),(1,8,1),(9,1,0)],10,true,Value.agg #[Value.bool false,.string ⟨#[]⟩,.int .i64 0,.int .i64 0,.int .i64 0,.string ⟨#[]⟩,.string ⟨#[]⟩,.int .i64 0,.string ⟨#[]⟩,Value.map Option.none]⟩
theorem ty226_ok:Yk 226 ty226:=Yp
def ty229:TyE:=⟨Ty.strct [(0,1,0),(1,1,0),(2,7,1)],9,true,Value.agg #[.int .i64 0,Value.bool false,.string ⟨#[]⟩,.string ⟨#[]⟩,.string ⟨#[]⟩,.int .i64 0,.int .i64 0,.int .i64 0,Value.bool false]⟩
theorem ty229_ok:Yk 229 ty229:=Yp
def ty230:TyE:=⟨Ty.other,1,false,Value.nilFunc⟩
theorem ty230_ok:Yk 230 ty230:=Yp
def ty232:TyE:=⟨Ty.int IntKind.i64,1,false,.int .i64 0⟩
theorem ty232_ok:Yk 232 ty232:=Yp
def ty234:TyE:=⟨Ty.strct [(0,1,0),(1,1,0),(2,1,0)],3,true,Value.agg #[.int .i64 0,.int .i64 0,.int .i64 0]⟩
theorem ty234_ok:Yk 234 ty234:=Yp
def ty237:TyE:=⟨Ty.other,1,false,Value.nilFunc⟩
theorem ty237_ok:Yk 237 ty237:=Yp
def ty244:TyE:=⟨Ty.other,1,false,Value.nilFunc⟩
theorem ty244_ok:Yk 244 ty244:=Yp
def ty247:TyE:=⟨Ty.strct [(0,1,0),(1,1,0)],2,true,Value.agg #[.int .i64 0,.int .i64 0]⟩
theorem ty247_ok:Yk 247 ty247:=Yp
def ty249:TyE:=⟨Ty.arr 11 1,11,true,Value.agg #[Value.nilFunc,Value.nilFunc,Value.nilFunc,Value.nilFunc,Value.nilFunc,Value.nilFunc,Value.nilFunc,Value.nilFunc,Value.nilFunc,Value.nilFunc,Value.nilFunc]⟩
theorem ty249_ok:Yk 249 ty249:=Yp
def ty251:TyE:=⟨Ty.map 9 281,1,false,Value.map Option.none⟩
theorem ty251_ok:Yk 251 ty251:=Yp
def ty252:TyE:=⟨Ty.map 296 4,1,false,Value.map Option.none⟩
theorem ty252_ok:Yk 252 ty252:=Yp
def ty253:TyE:=⟨Ty.map 296 3,1,false,Value.map Option.none⟩
theorem ty253_ok:Yk 253 ty253:=Yp
def ty255:TyE:=⟨Ty.strct [(0,1,0),(1,1,0),(2,8,1),(10,1,0),(11,1,0),(12,1,0),(13,1,0),(14,1,0),(15,1,0),(16,1,0),(17,1,0)],18,true,Value.agg #[.int .i64 0,.int .i64 0,.string ⟨#[]⟩,.int .i64 0,.int .i64 0,.int .i64 0,.string ⟨#[]⟩,.string ⟨#[]⟩,.int .i64 0,.string ⟨#[]⟩,Value.map Option.none,Value.map Option.none,Value.map Option.none,Value.map Option.none,Value.map Option.none,Value.map Option.none,Value.map Option.none,Value.map Option.none]⟩
theorem ty255_ok:Yk 255 ty255:=Yp
def ty262:TyE:=Yo
theorem ty262_ok:Yk 262 ty262:=Yp
def ty264:TyE:=⟨Ty.strct [(0,1,0),(1,1,0)],2,true,Value.agg #[Value.pointer Option.none,Value.slice Option.none 0 0]⟩
theorem ty264_ok:Yk 264 ty264:=Yp
def ty267:TyE:=⟨Ty.arr 3 1,3,true,Value.agg #[Value.bool false,Value.bool false,Value.bool false]⟩
theorem ty267_ok:Yk 267 ty267:=Yp
def ty268:TyE:=⟨Ty.map 9 331,1,false,Value.map Option.none⟩
theorem ty268_ok:Yk 268 ty268:=Yp
def ty270:TyE:=⟨Ty.strct [(0,1,0),(1,1,0),(2,1,0)],3,true,Value.agg #[.int .i64 0,.int .i64 0,Value.map Option.none]⟩
theorem ty270_ok:Yk 270 ty270:=Yp
def ty271:TyE:=⟨Ty.map 285 2,1,false,Value.map Option.none⟩
theorem ty271_ok:Yk 271 ty271:=Yp
def ty272:TyE:=⟨Ty.map 9 52,1,false,Value.map Option.none⟩
theorem ty272_ok:Yk 272 ty272:=Yp
def ty274:TyE:=⟨Ty.strct [(0,1,0),(1,1,0),(2,1,0),(3,1,0)],4,true,Value.agg #[.int .i64 0,.int .i64 0,Value.map Option.none,Value.map Option.none]⟩
theorem ty274_ok:Yk 274 ty274:=Yp
def ty275:TyE:=⟨Ty.map 9 286,1,false,Value.map Option.none⟩
theorem ty275_ok:Yk 275 ty275:=Yp
def ty277:TyE:=⟨Ty.strct [(0,1,0),(1,1,0)],2,true,Value.agg #[.int .i64 0,Value.map Option.none]⟩
theorem ty277_ok:Yk 277 ty277:=Yp
def ty280:TyE:=⟨Ty.strct [(0,8,1),(8,1,0)],9,true,Value.agg #[.string ⟨#[]⟩,.int .i64 0,.int .i64 0,.int .i64 0,.string ⟨#[]⟩,.string ⟨#[]⟩,.int .i64 0,.string ⟨#[]⟩,Value.slice Option.none 0 0]⟩
theorem ty280_ok:Yk 280 ty280:=Yp
def ty281:TyE:=Ys 280 9
theorem ty281_ok:Yk 281 ty281:=Yp
def ty285:TyE:=⟨Ty.strct [(0,1,0),(1,1,0)],2,true,Value.agg #[.string ⟨#[]⟩,.int .i64 0]⟩
theorem ty285_ok:Yk 285 ty285:=Yp
def ty286:TyE:=⟨Ty.map 3 79,1,false,Value.map Option.none⟩
theorem ty286_ok:Yk 286 ty286:=Yp
def ty288:TyE:=⟨Ty.strct [(0,1,0),(1,1,0)],2,true,Value.agg #[.string ⟨#[]⟩,.int .i64 0]⟩
theorem ty288_ok:Yk 288 ty288:=Yp
def ty289:TyE:=Ys 204 1
theorem ty289_ok:Yk 289 ty289:=Yp
def ty291:TyE:=⟨Ty.other,1,false,Value.nilFunc⟩
theorem ty291_ok:Yk 291 ty291:=Yp
def ty293:TyE:=⟨Ty.strct [(0,1,0),(1,1,0)],2,true,Value.agg #[.string ⟨#[]⟩,Value.nilFunc]⟩
theorem ty293_ok:Yk 293 ty293:=Yp
def ty296:TyE:=⟨Ty.strct [(0,1,0),(1,1,0)],2,true,Value.agg #[.string ⟨#[]⟩,.string ⟨#[]⟩]⟩
theorem ty296_ok:Yk 296 ty296:=Yp
def ty299:TyE:=⟨Ty.other,1,false,Value.nilFunc⟩
theorem ty299_ok:Yk 299 ty299:=Yp
def ty300:TyE:=⟨Ty.arr 6 1,6,true,Value.agg #[Value.nilFunc,Value.nilFunc,Value.nilFunc,Value.nilFunc,Value.nilFunc,Value.nilFunc]⟩
theorem ty300_ok:Yk 300 ty300:=Yp
def ty308:TyE:=⟨Ty.arr 24 1,24,true,Value.agg (List.replicate 24 (.int .u8 0)).toArray⟩
theorem ty308_ok:Yk 308 ty308:=Yp
def ty314:TyE:=Ys 387 4
theorem ty314_ok:Yk 314 ty314:=Yp
def ty322:TyE:=⟨Ty.strct [(0,1,0),(1,1,0),(2,1,0)],3,true,Value.agg #[.string ⟨#[]⟩,.string ⟨#[]⟩,Value.nilIface]⟩
theorem ty322_ok:Yk 322 ty322:=Yp
def ty328:TyE:=Yo
theorem ty328_ok:Yk 328 ty328:=Yp
def ty331:TyE:=⟨Ty.map 3 2,1,false,Value.map Option.none⟩
theorem ty331_ok:Yk 331 ty331:=Yp
def ty334:TyE:=⟨Ty.arr 256 1,256,true,Value.agg (([Value.bool false,Value.bool false,Value.bool false,Value.bool false,Value.bool false,Value.bool false,Value.bool false,Value.bool false,Value.bool false,Value.bool false,Value.bool false,Value.bool false,Value.bool false,Value.bool false,Value.bool false,Value.bool false,Value.bool false,Value.bool false,Value.bool false,Value.bool false,Value.bool false,Value.bool false,Value.bool false,Value.bool false,Value.bool false,Value.bool false,Value.bool false,Value.bool false,Value.bool false,Value.bool false,Value.bool false,Value.bool false,Value.bool false,Value.bool false,Value.bool false,Value.bool false,Value.bool false,Value.bool false,Value.bool false,Value.bool false,Value.bool false,Value.bool false,Value.bool false,Value.bool false,Value.bool false,Value.bool false,Value.bool false,Value.bool false,Value.bool false,Value.bool false,Value.bool false,Value.bool false,Value.bool false,Value.bool false,Value.bool false,Value.bool false,Value.bool false,Value.bool false,Value.bool false,Value.bool false,Value.bool false,Value.bool false,Value.bool false,Value.bool false].append [Value.bool false,Value.bool false,Value.bool false,Value.bool false,Value.bool false,Value.bool false,Value.bool false,Value.bool false,Value.bool false,Value.bool false,Value.bool false,Value.bool false,Value.bool false,Value.bool false,Value.bool false,Value.bool false,Value.bool false,Value.bool false,Value.bool false,Value.bool false,Value.bool false,Value.bool false,Value.bool false,Value.bool false,Value.bool false,Value.bool false,Value.bool false,Value.bool false,Value.bool false,Value.bool false,Value.bool false,Value.bool false,Value.bool false,Value.bool false,Value.bool false,Value.bool false,Value.bool false,Value.bool false,Value.bool false,Value.bool false,Value.bool false,Value.bool false,Value.bool false,Value.bool false,Value.bool false,Value.bool false,Value.bool false,Value.bool false,Value.bool false,Value.bool false,Value.bool false,Value.bool false,Value.bool false,Value.bool false,Value.bool false,Value.bool false,Value.bool false,Value.bool false,Value.bool false,Value.bool false,Value.bool false,Value.bool false,Value.bool false,Value.bool false]).append ([Value.bool false,Value.bool false,Value.bool false,Value.bool false,Value.bool false,Value.bool false,Value.bool false,Value.bool false,Value.bool false,Value.bool false,Value.bool false,Value.bool false,Value.bool false,Value.bool false,Value.bool false,Value.bool false,Value.bool false,Value.bool false,Value.bool false,Value.bool false,Value.bool false,Value.bool false,Value.bool false,Value.bool false,Value.bool false,Value.bool false,Value.bool false,Value.bool false,Value.bool false,Value.bool false,Value.bool false,Value.bool false,Value.bool false,Value.bool false,Value.bool false,Value.bool false,Value.bool false,Value.bool false,Value.bool false,Value.bool false,Value.bool false,Value.bool false,Value.bool false,Value.bool false,Value.bool false,Value.bool false,Value.bool false,Value.bool false,Value.bool false,Value.bool false,Value.bool false,Value.bool false,Value.bool false,Value.bool false,Value.bool false,Value.bool false,Value.bool false,Value.bool false,Value.bool false,Value.bool false,Value.bool false,Value.bool false,Value.bool false,Value.bool false].append [Value.bool false,Value.bool false,Value.bool false,Value.bool false,Value.bool false,Value.bool false,Value.bool false,Value.bool false,Value.bool false,Value.bool false,Value.bool false,Value.bool false,Value.bool false,Value.bool false,Value.bool false,Value.bool false,Value.bool false,Value.bool false,Value.bool false,Value.bool false,Value.bool false,Value.bool false,Value.bool false,Value.bool false,Value.bool false,Value.bool false,Value.bool false,Value.bool false,Value.bool false,Value.bool false,Value.bool false,Value.bool false,Value.bool false,Value.bool false,Value.bool false,Value.bool false,Value.bool false,Value.bool false,Value.bool false,Value.bool false,Value.bool false,Value.bool false,Value.bool false,Value.bool false,Value.bool false,Value.bool false,Value.bool false,Value.bool false,Value.bool false,Value.bool false,Value.bool false,Value.bool false,Value.bool false,Value.bool false,Value.bool false,Value.bool false,Value.bool false,Value.bool false,Value.bool false,Value.bool false,Value.bool false,Value.bool false,Value.bool false,Value.bool false])).toArray⟩
theorem ty334_ok:Yk 334 ty334:=Yp
def ty339:TyE:=⟨Ty.strct [(0,1,0)],1,true,Value.agg #[Value.slice Option.none 0 0]⟩
theorem ty339_ok:Yk 339 ty339:=Yp
def ty341:TyE:=Ys 345 2
theorem ty341_ok:Yk 341 ty341:=Yp
def ty345:TyE:=⟨Ty.strct [(0,1,0),(1,1,0)],2,true,Value.agg #[.string ⟨#[]⟩,.int .i64 0]⟩
theorem ty345_ok:Yk 345 ty345:=Yp
def ty346:TyE:=Ys 350 3
theorem ty346_ok:Yk 346 ty346:=Yp
def ty350:TyE:=⟨Ty.strct [(0,1,0),(1,1,0),(2,1,0)],3,true,Value.agg #[.string ⟨#[]⟩,.int .i64 0,.int .i64 0]⟩
theorem ty350_ok:Yk 350 ty350:=Yp
def ty352:TyE:=Ys 355 3
theorem ty352_ok:Yk 352 ty352:=Yp
def ty355:TyE:=⟨Ty.strct [(0,1,0),(1,2,1)],3,true,Value.agg #[.string ⟨#[]⟩,.int .i64 0,.int .i64 0]⟩
theorem ty355_ok:Yk 355 ty355:=Yp
def ty358:TyE:=⟨Ty.other,1,false,Value.nilFunc⟩
theorem ty358_ok:Yk 358 ty358:=Yp
def ty359:TyE:=⟨Ty.map 9 2,1,false,Value.map Option.none⟩
theorem ty359_ok:Yk 359 ty359:=Yp
def ty362:TyE:=⟨Ty.other,1,false,Value.nilFunc⟩
theorem ty362_ok:Yk 362 ty362:=Yp
def ty368:TyE:=⟨Ty.int IntKind.i64,1,false,.int .i64 0⟩
theorem ty368_ok:Yk 368 ty368:=Yp
def ty376:TyE:=⟨Ty.int IntKind.u32,1,false,.int .u32 0⟩
theorem ty376_ok:Yk 376 ty376:=Yp
def ty384:TyE:=⟨Ty.arr 20 1,20,true,Value.agg #[.int .u64 0,.int .u64 0,.int .u64 0,.int .u64 0,.int .u64 0,.int .u64 0,.int .u64 0,.int .u64 0,.int .u64 0,.int .u64 0,.int .u64 0,.int .u64 0,.int .u64 0,.int .u64 0,.int .u64 0,.int .u64 0,.int .u64 0,.int .u64 0,.int .u64 0,.int .u64 0]⟩
theorem ty384_ok:Yk 384 ty384:=Yp
def ty385:TyE:=⟨Ty.arr 65 1,65,true,Value.agg ((List.replicate 32 (.int .u8 0)).append (List.replicate 33 (.int .u8 0))).toArray⟩
theorem ty385_ok:Yk 385 ty385:=Yp
def ty387:TyE:=⟨Ty.strct [(0,1,0),(1,1,0),(2,1,0),(3,1,0)],4,true,Value.agg #[.string ⟨#[]⟩,.int .i64 0,.int .i64 0,Value.slice Option.none 0 0]⟩
theorem ty387_ok:Yk 387 ty387:=Yp
def ty391:TyE:=Yo
theorem ty391_ok:Yk 391 ty391:=Yp
def ty394:TyE:=⟨Ty.strct [(0,1,0),(1,1,0)],2,true,Value.agg #[Value.pointer Option.none,Value.bool false]⟩
theorem ty394_ok:Yk 394 ty394:=Yp
def ty395:TyE:=⟨Ty.map 9 125,1,false,Value.map Option.none⟩
theorem ty395_ok:Yk 395 ty395:=Yp
def ty397:TyE:=⟨Ty.strct [(0,1,0),(1,1,0)],2,true,Value.agg #[Value.map Option.none,Value.map Option.none]⟩
theorem ty397_ok:Yk 397 ty397:=Yp
def ty404:TyE:=⟨Ty.strct [(0,1,0)],1,true,Value.agg #[.string ⟨#[]⟩]⟩
theorem ty404_ok:Yk 404 ty404:=Yp
def ty409:TyE:=Yo
theorem ty409_ok:Yk 409 ty409:=Yp
def ty415:TyE:=⟨Ty.strct [(0,1,0)],1,true,Value.agg #[Value.nilIface]⟩
theorem ty415_ok:Yk 415 ty415:=Yp
def ty416:TyE:=⟨Ty.strct [(0,1,0)],1,true,Value.agg #[Value.slice Option.none 0 0]⟩
theorem ty416_ok:Yk 416 ty416:=Yp
def ty421:TyE:=⟨Ty.other,1,false,Value.nilFunc⟩
theorem ty421_ok:Yk 421 ty421:=Yp
def ty427:TyE:=⟨Ty.map 9 247,1,false,Value.map Option.none⟩
theorem ty427_ok:Yk 427 ty427:=Yp
def ty433:TyE:=Ys 152 7
theorem ty433_ok:Yk 433 ty433:=Yp
def ty436:TyE:=⟨Ty.other,1,false,Value.nilFunc⟩
theorem ty436_ok:Yk 436 ty436:=Yp
def ty448:TyE:=⟨Ty.int IntKind.u64,1,false,.int .u64 0⟩
theorem ty448_ok:Yk 448 ty448:=Yp
def ty451:TyE:=Yo
theorem ty451_ok:Yk 451 ty451:=Yp
def ty467:TyE:=⟨Ty.other,1,false,Value.nilFunc⟩
theorem ty467_ok:Yk 467 ty467:=Yp
def ty473:TyE:=⟨Ty.other,1,false,Value.nilFunc⟩
theorem ty473_ok:Yk 473 ty473:=Yp
def ty484:TyE:=⟨Ty.arr 32 1,32,true,Value.agg (List.replicate 32 (.int .u8 0)).toArray⟩
theorem ty484_ok:Yk 484 ty484:=Yp
def ty485:TyE:=⟨Ty.arr 64 1,64,true,Value.agg (List.replicate 64 (.int .u8 0)).toArray⟩
theorem ty485_ok:Yk 485 ty485:=Yp
def ty488:TyE:=⟨Ty.other,1,false,Value.nilFunc⟩
theorem ty488_ok:Yk 488 ty488:=Yp
def ty492:TyE:=⟨Ty.arr 256 1,256,true,Value.agg (((List.replicate 64 (.int .u8 0)).append (List.replicate 64 (.int .u8 0))).append ((List.replicate 64 (.int .u8 0)).append (List.replicate 64 (.int .u8 0)))).toArray⟩
theorem ty492_ok:Yk 492 ty492:=Yp
def ty494:TyE:=⟨Ty.strct [(0,1,0),(1,1,0)],2,true,Value.agg #[.int .u8 0,.int .u8 0]⟩
theorem ty494_ok:Yk 494 ty494:=Yp
def ty495:TyE:=⟨Ty.arr 16 2,32,true,Value.agg (List.replicate 32 (.int .u8 0)).toArray⟩
theorem ty495_ok:Yk 495 ty495:=Yp
def ty497:TyE:=⟨Ty.strct [(0,1,0)],1,true,Value.agg #[.string ⟨#[]⟩]⟩
theorem ty497_ok:Yk 497 ty497:=Yp
def ty499:TyE:=⟨Ty.strct [(0,1,0),(1,1,0)],2,true,Value.agg #[.string ⟨#[]⟩,.string ⟨#[]⟩]⟩
theorem ty499_ok:Yk 499 ty499:=Yp
def ty501:TyE:=⟨Ty.strct [(0,1,0),(1,1,0),(2,1,0)],3,true,Value.agg #[.string ⟨#[]⟩,Value.bool false,.int .i64 0]⟩
theorem ty501_ok:Yk 501 ty501:=Yp
def ty510:TyE:=⟨Ty.arr 2 1,2,true,Value.agg #[.int .u64 0,.int .u64 0]⟩
theorem ty510_ok:Yk 510 ty510:=Yp
def ty565:TyE:=⟨Ty.other,1,false,Value.nilFunc⟩
theorem ty565_ok:Yk 565 ty565:=Yp
theorem by5 : (Tryz.prog.info? 5).map (·.bytes) = some 1 := by kernel_rfl
theorem by69 : (Tryz.prog.info? 69).map (·.bytes) = some 96 := by kernel_rfl
theorem by9 : (Tryz.prog.info? 9).map (·.bytes) = some 16 := by kernel_rfl
theorem by3 : (Tryz.prog.info? 3).map (·.bytes) = some 8 := by kernel_rfl
theorem by98 : (Tryz.prog.info? 98).map (·.bytes) = some 56 := by kernel_rfl
theorem by234 : (Tryz.prog.info? 234).map (·.bytes) = some 24 := by kernel_rfl
theorem by148 : (Tryz.prog.info? 148).map (·.bytes) = some 40 := by kernel_rfl
theorem by212 : (Tryz.prog.info? 212).map (·.bytes) = some 8 := by kernel_rfl
theorem by160 : (Tryz.prog.info? 160).map (·.bytes) = some 24 := by kernel_rfl
theorem by288 : (Tryz.prog.info? 288).map (·.bytes) = some 24 := by kernel_rfl
theorem by229 : (Tryz.prog.info? 229).map (·.bytes) = some 96 := by kernel_rfl
theorem by280 : (Tryz.prog.info? 280).map (·.bytes) = some 120 := by kernel_rfl
theorem by204 : (Tryz.prog.info? 204).map (·.bytes) = some 16 := by kernel_rfl
theorem by387 : (Tryz.prog.info? 387).map (·.bytes) = some 56 := by kernel_rfl
theorem by345 : (Tryz.prog.info? 345).map (·.bytes) = some 24 := by kernel_rfl
theorem by350 : (Tryz.prog.info? 350).map (·.bytes) = some 32 := by kernel_rfl
theorem by355 : (Tryz.prog.info? 355).map (·.bytes) = some 32 := by kernel_rfl
theorem by152 : (Tryz.prog.info? 152).map (·.bytes) = some 80 := by kernel_rfl
theorem st132 : Xib Tryz.prog 132 [("source", 9, 0), ("number", 3, 1)] := ⟨by kernel_rfl, by kernel_rfl, by kernel_rfl, by kernel_rfl⟩
theorem st160 : Xib Tryz.prog 160 [("tag", 4, 0), ("name", 9, 1)] := ⟨by kernel_rfl, by kernel_rfl, by kernel_rfl, by kernel_rfl⟩
theorem st285 : Xib Tryz.prog 285 [("key", 9, 0), ("pane", 3, 1)] := ⟨by kernel_rfl, by kernel_rfl, by kernel_rfl, by kernel_rfl⟩
theorem st296 : Xib Tryz.prog 296 [("person", 9, 0), ("what", 9, 1)] := ⟨by kernel_rfl, by kernel_rfl, by kernel_rfl, by kernel_rfl⟩
def Tt : Tab := [(2,ty2),(3,ty3),(4,ty4),(5,ty5),(9,ty9),(20,ty20),(21,ty21),(22,ty22),(23,ty23),(24,ty24),(26,ty26),(28,ty28),(30,ty30),(32,ty32),(36,ty36),(38,ty38),(39,ty39),(42,ty42),(45,ty45),(47,ty47),(48,ty48),(50,ty50),(52,ty52),(55,ty55),(62,ty62),(64,ty64),(66,ty66),(67,ty67),(69,ty69),(71,ty71),(73,ty73),(75,ty75),(78,ty78),(79,ty79),(80,ty80),(81,ty81),(82,ty82),(83,ty83),(84,ty84),(85,ty85),(87,ty87),(93,ty93),(94,ty94),(98,ty98),(103,ty103),(105,ty105),(107,ty107),(111,ty111),(123,ty123),(125,ty125),(126,ty126),(130,ty130),(132,ty132),(134,ty134),(141,ty141),(144,ty144),(146,ty146),(148,ty148),(149,ty149),(152,ty152),(158,ty158),(160,ty160),(161,ty161),(163,ty163),(169,ty169),(177,ty177),(181,ty181),(190,ty190),(191,ty191),(198,ty198),(199,ty199),(202,ty202),(204,ty204),(206,ty206),(208,ty208),(209,ty209),(212,ty212),(215,ty215),(218,ty218),(222,ty222),(223,ty223),(224,ty224),(226,ty226),(229,ty229),(230,ty230),(232,ty232),(234,ty234),(237,ty237),(244,ty244),(247,ty247),(249,ty249),(251,ty251),(252,ty252),(253,ty253),(255,ty255),(262,ty262),(264,ty264),(267,ty267),(268,ty268),(270,ty270),(271,ty271),(272,ty272),(274,ty274),(275,ty275),(277,ty277),(280,ty280),(281,ty281),(285,ty285),(286,ty286),(288,ty288),(289,ty289),(291,ty291),(293,ty293),(296,ty296),(299,ty299),(300,ty300),(308,ty308),(314,ty314),(322,ty322),(328,ty328),(331,ty331),(334,ty334),(339,ty339),(341,ty341),(345,ty345),(346,ty346),(350,ty350),(352,ty352),(355,ty355),(358,ty358),(359,ty359),(362,ty362),(368,ty368),(376,ty376),(384,ty384),(385,ty385),(387,ty387),(391,ty391),(394,ty394),(395,ty395),(397,ty397),(404,ty404),(409,ty409),(415,ty415),(416,ty416),(421,ty421),(427,ty427),(433,ty433),(436,ty436),(448,ty448),(451,ty451),(467,ty467),(473,ty473),(484,ty484),(485,ty485),(488,ty488),(492,ty492),(494,ty494),(495,ty495),(497,ty497),(499,ty499),(501,ty501),(510,ty510),(565,ty565)]
theorem Qb : Qbl Tryz.prog Tt := ⟨ty2_ok, ty3_ok, ty4_ok, ty5_ok, ty9_ok, ty20_ok, ty21_ok, ty22_ok, ty23_ok, ty24_ok, ty26_ok, ty28_ok, ty30_ok, ty32_ok, ty36_ok, ty38_ok, ty39_ok, ty42_ok, ty45_ok, ty47_ok, ty48_ok, ty50_ok, ty52_ok, ty55_ok, ty62_ok, ty64_ok, ty66_ok, ty67_ok, ty69_ok, ty71_ok, ty73_ok, ty75_ok, ty78_ok, ty79_ok, ty80_ok, ty81_ok, ty82_ok, ty83_ok, ty84_ok, ty85_ok, ty87_ok, ty93_ok, ty94_ok, ty98_ok, ty103_ok, ty105_ok, ty107_ok, ty111_ok, ty123_ok, ty125_ok, ty126_ok, ty130_ok, ty132_ok, ty134_ok, ty141_ok, ty144_ok, ty146_ok, ty148_ok, ty149_ok, ty152_ok, ty158_ok, ty160_ok, ty161_ok, ty163_ok, ty169_ok, ty177_ok, ty181_ok, ty190_ok, ty191_ok, ty198_ok, ty199_ok, ty202_ok, ty204_ok, ty206_ok, ty208_ok, ty209_ok, ty212_ok, ty215_ok, ty218_ok, ty222_ok, ty223_ok, ty224_ok, ty226_ok, ty229_ok, ty230_ok, ty232_ok, ty234_ok, ty237_ok, ty244_ok, ty247_ok, ty249_ok, ty251_ok, ty252_ok, ty253_ok, ty255_ok, ty262_ok, ty264_ok, ty267_ok, ty268_ok, ty270_ok, ty271_ok, ty272_ok, ty274_ok, ty275_ok, ty277_ok, ty280_ok, ty281_ok, ty285_ok, ty286_ok, ty288_ok, ty289_ok, ty291_ok, ty293_ok, ty296_ok, ty299_ok, ty300_ok, ty308_ok, ty314_ok, ty322_ok, ty328_ok, ty331_ok, ty334_ok, ty339_ok, ty341_ok, ty345_ok, ty346_ok, ty350_ok, ty352_ok, ty355_ok, ty358_ok, ty359_ok, ty362_ok, ty368_ok, ty376_ok, ty384_ok, ty385_ok, ty387_ok, ty391_ok, ty394_ok, ty395_ok, ty397_ok, ty404_ok, ty409_ok, ty415_ok, ty416_ok, ty421_ok, ty427_ok, ty433_ok, ty436_ok, ty448_ok, ty451_ok, ty467_ok, ty473_ok, ty484_ok, ty485_ok, ty488_ok, ty492_ok, ty494_ok, ty495_ok, ty497_ok, ty499_ok, ty501_ok, ty510_ok, ty565_ok, trivial⟩
theorem mixed : Tryz.prog.follows .mixedOrders = true := by kernel_rfl
theorem Dr {N : Nat} (cl : Cl) (A B : List Nat) {id : Nat} {ops : Array Oper} {Γ : Env} {w : World} {kn : KN} {ex : KE} {rt : KN} (h : Qe3 Tryz.prog Tt N cl ops.toList (Qhy ops.toList A) Γ [] [] w.drew fun Γ' Δ' G' w' => Qe3 Tryz.prog Tt N .same ops.toList (Qhy ops.toList B) Γ' Δ' G' w' fun Γ'' _ _ w'' => kn Γ'' w'') (hc : Q8q Tt ops A B = true := by kernel_rfl) (hs : cl = .same → A.all (fun i => match ops[i]? with | some o => still Tt o.op | none => true) = true := by first | (intro h; cases h; done) | (intro _; rfl)) : SemC Tryz.prog N (.region id ops true) Γ w kn ex rt := Ql cl A B Qb mixed hc hs h
theorem Sg {N : Nat} {x y : Code} {Γ : Env} {w : World} {kn : KN} {ex : KE} {rt : KN} (h : vc Tryz.prog Tt N x Γ w (fun Γ' w' => vc Tryz.prog Tt N y Γ' w' kn ex rt) ex rt) : SemC Tryz.prog N (.seq x y) Γ w kn ex rt := Qa Qb h
theorem Fi {N : Nat} {f : FuncId} {fn : Func} {body : Code} {args : List Value} {w : World} {R : Value → World → Prop} (hf : Tryz.prog.funcs[f]? = some fn) (hb : fn.body = some body) (rs : List ResultVar) (hrs : fn.results.toList = rs) (hN : fn.ntmps = N) (h : vc Tryz.prog Tt N body (Qss args) w (Xm1 Tt rs R) [] (Xm1 Tt rs R)) (hn : (fn.name == "runtime.NumGoroutine") = false := by rfl) (hargs : Nat.ble args.length N = true := by rfl) : Cal Tryz.prog f args w R := Qd Qb hf hn hb rs hrs hN hargs h
theorem Gg {p q : Prop} (h : q) (e : q → p := by intro h;(conv=>whnf);(repeat(refine Sg ?_;(conv=>whnf)));exact h) : p := e h
theorem Hh {p q : Prop} (h : q) (e : q → p := by intro h;(conv=>whnf);exact h) : p := e h
theorem Rr {p : Prop} (h : p := by (repeat (refine And.intro rfl ?_));exact trivial) : p := h
theorem Ix {a b c : Prop} (x : a := by rfl) (y : b := by omega) (z : c := by omega) : a ∧ b ∧ c := ⟨x, y, z⟩
theorem Oj {p:Prop} (h:p:=by simp[Qg,Value.oneCell']):p:=h
end Go.Proofs.YtnpacgccajekgaaGreatDoor
