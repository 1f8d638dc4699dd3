import Derived.Test.YtnpacgccajekgaaGreatDoorGAC
import Derived.Test.YtnpacgccajekgaaGreatDoorGSE
import Derived.Test.YtnpacgccajekgaaGreatDoorHPTopAuditL
set_option linter.all false
namespace Go.Proofs.YtnpacgccajekgaaGreatDoor
open Go.ChangeShapes Go.WideShapes Go.ChangeAt Go.RowKit Go.Se
theorem Xm5 {n:Int} (h:(Lit.int .u8 n).wf=true):0<=n/\n<256:=by
 simp[Lit.wf,IntKind.min,IntKind.max,IntKind.signed,IntKind.bits] at h;omega
theorem Xma {n:Int} (h:(Lit.int .u64 n).wf=true):0<=n/\n<18446744073709551616:=by
 simp[Lit.wf,IntKind.min,IntKind.max,IntKind.signed,IntKind.bits] at h;omega
set_option maxRecDepth 100000 in
theorem topAudit_contract (H:Type) (enc:TypeId×Value->H) (W:World) (base:Nat) (args:Array Value) (ds gs:List (DataW H)) (before:List MemPlace)
 (hval:∀ (j:Nat) t v,Tryz.f3.params[j]? = some t->args[j]? = some v->Value.okWide Tryz.prog W .any base t v)
 (hW:DataW.Whole enc Tryz.prog Tryz.f3.params.toList Rows.topAuditSpec.vars false W args.toList ds gs before) (hL:laidMetH Tryz.prog Rows.topAuditRow.laid W) (hS:W.ShapedOpen Tryz.prog) :
 Calls Tryz.prog 3 args W fun e W'=>∃ v,e = .returned v/\Rows.topAuditSpec.post enc Tryz.prog Tryz.f3 false true false false W args v W':=by
 have hW':=hW;obtain⟨p,q,hA0,hV,rfl,hfz,hnd⟩:=hW;have hA:DataW.TrodAll enc Tryz.prog W 0 (fun _=>true) true Tryz.f3.params.toList args.toList ds p:=hA0;rw[Tryz.params3] at hA hval;obtain⟨v0,vs0,d0,ds0,p0,q0,hargs,rfl,rfl,h0,r0⟩:=trodAll_cons hA;obtain⟨v1,vs1,d1,ds1,p1,q1,rfl,rfl,rfl,h1,r1⟩:=trodAll_cons r0;obtain⟨v2,vs2,d2,ds2,p2,q2,rfl,rfl,rfl,h2,r2⟩:=trodAll_cons r1;obtain⟨v3,vs3,d3,ds3,p3,q3,rfl,rfl,rfl,h3,r3⟩:=trodAll_cons r2;obtain⟨rfl,rfl,rfl⟩:=trodAll_nil r3;obtain rfl:args = #[v0,v1,v2,v3]:=by cases args;simp_all
 obtain⟨rfl,rfl⟩:=trodVars_none hV;obtain⟨b_A,b_c,b,rfl,b_l,b_s,b_b⟩:=open_bytes (hval 0 22 v0 rfl rfl) h0;obtain⟨k_A,k_c,k,rfl,k_l,k_s,k_b⟩:=open_bytes (hval 1 22 v1 rfl rfl) h1;obtain⟨sd,rfl,rfl,rfl,w2⟩:=open_int Tryz.underlying23 (hval 2 23 v2 rfl rfl) h2;obtain⟨sp,rfl,rfl,rfl,w3⟩:=open_int Tryz.underlying5 (hval 3 5 v3 rfl rfl) h3;have hg:=Xmw hL Kr hS (by simp[Rows.topAuditRow]) (by simp[Rows.topAuditRow]);have hkn:=Xm0 hL Kr (by simp[Rows.topAuditRow]);refine(topAuditI_spec b k b_A k_A b_c k_c sp sd (Xm5 w3) W hg hkn b_s b_b k_s k_b (Xma w2)).calls.mono ?_;rintro e W' ⟨v,rfl,rfl,hx⟩;exact⟨_,rfl,Xfb Kr Kr rfl Kr (by kernel_rfl:Tryz.prog.underlying 4=some .bool) hW' rfl hx⟩
set_option maxRecDepth 100000 in
theorem topAudit_lifted (os:Os) (started:os.Started) (H:Type) (enc:TypeId×Value->H) (F:Stop.Interp) :
 ReturnsInHanded {} Tryz.checked os 3 .any ((OpenSpec.ofChange Rows.topAuditSpec).preRow enc Tryz.prog Tryz.f3 Rows.topAuditRow.domain false Rows.topAuditRow.laid) (((OpenSpec.ofChange Rows.topAuditSpec).at F).post enc Tryz.prog Tryz.f3 false true false false):=by
 refine returnsInHanded_of_row (C:=Tryz.checked) (s:=OpenSpec.ofChange Rows.topAuditSpec) own started topAudit_l1 Tryz.func3 ?_ ?_
 . exact Qk8 (enc:=enc) (C:=Tryz.checked) (os:=os) (World.laidAll Tryz.prog os Rows.topAuditRow.laid) #[.slice none 0 0,.slice none 0 0,.int .u64 0,.int .u8 0] (World.laidAll_os _ _ _)
    (World.shaped_of_ZipB (topAudit_l3 os) (topAudit_l4 os)) (topAudit_l5 os)
    (OpenSpec.preRow_of_cond 8 (topAudit_l2 os H enc) Kr (fun k hk=>by cases hk) (topAudit_l7 os H enc) (by rw[MakeChecks.laidMetH_plain _ _ _ Kr];exact laidMet_laidAll _ (topAudit_l9 os) (topAudit_l10 os)))
 . intro W base args ds gs before hval hW _ _ _ hL hS _;exact topAudit_contract H enc W base args ds gs before hval hW hL hS
