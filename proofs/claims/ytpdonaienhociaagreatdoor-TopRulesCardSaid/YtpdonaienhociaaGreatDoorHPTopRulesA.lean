import Derived.Test.YtpdonaienhociaaGreatDoorHTr3
import Derived.Test.YtpdonaienhociaaGreatDoorGSE
import Derived.Test.YtpdonaienhociaaGreatDoorHPTopRulesL
set_option linter.all false
namespace Go.Proofs.YtpdonaienhociaaGreatDoor
open Go.ChangeShapes Go.WideShapes Go.ChangeAt Go.RowKit Go.Se
set_option maxRecDepth 100000 in
theorem topRules_contract (H:Type) (enc:TypeId×Value->H) (W:World) (base:Nat) (args:Array Value) (ds gs:List (DataW H)) (before:List MemPlace)
 (hval:∀ (j:Nat) t v,Tryz.f3.params[j]? = some t->args[j]? = some v->Value.okWide Tryz.prog W .any base t v)
 (hW:DataW.Whole enc Tryz.prog Tryz.f3.params.toList Rows.topRulesSpec.vars false W args.toList ds gs before) (hL:laidMetH Tryz.prog Rows.topRulesRow.laid W) (hS:W.ShapedOpen Tryz.prog) :
 Calls Tryz.prog 3 args W fun e W'=>∃ v,e = .returned v/\Rows.topRulesSpec.post enc Tryz.prog Tryz.f3 false true false false W args v W':=by
 have hW':=hW;obtain⟨p,q,hA0,hV,rfl,hfz,hnd⟩:=hW;have hA:DataW.TrodAll enc Tryz.prog W 0 (fun _=>true) true Tryz.f3.params.toList args.toList ds p:=hA0;rw[Tryz.params3] at hA hval;obtain⟨v0,vs0,d0,ds0,p0,q0,hargs,rfl,rfl,h0,r0⟩:=trodAll_cons hA;obtain⟨v1,vs1,d1,ds1,p1,q1,rfl,rfl,rfl,h1,r1⟩:=trodAll_cons r0;obtain⟨rfl,rfl,rfl⟩:=trodAll_nil r1;obtain rfl:args = #[v0,v1]:=by cases args;simp_all
 obtain⟨rfl,rfl⟩:=trodVars_none hV;obtain⟨b_A,b_c,b,rfl,b_l,b_s,b_b⟩:=open_bytes (hval 0 22 v0 rfl rfl) h0;obtain⟨k,rfl,rfl,rfl,w1⟩:=open_int Tryz.underlying5 (hval 1 5 v1 rfl rfl) h1;have hg:=Xhp hL Kr hS (by simp[Rows.topRulesRow]) (by simp[Rows.topRulesRow]);have hkn:=Xhx hL Kr (by simp[Rows.topRulesRow]);refine(topRulesI_spec b b_A b_c k (Xip w1) W hg hkn b_s b_b).calls.mono ?_;rintro e W' ⟨v,rfl,rfl,hx⟩;exact⟨_,rfl,Q00 Kr Kr rfl Kr (by kernel_rfl:Tryz.prog.underlying 4=some .bool) hW' rfl hx⟩
set_option maxRecDepth 100000 in
theorem topRules_lifted (os:Os) (started:os.Started) (H:Type) (enc:TypeId×Value->H) (F:Stop.Interp) :
 ReturnsInHanded {} Tryz.checked os 3 .any ((OpenSpec.ofChange Rows.topRulesSpec).preRow enc Tryz.prog Tryz.f3 Rows.topRulesRow.domain false Rows.topRulesRow.laid) (((OpenSpec.ofChange Rows.topRulesSpec).at F).post enc Tryz.prog Tryz.f3 false true false false):=by
 refine returnsInHanded_of_row (C:=Tryz.checked) (s:=OpenSpec.ofChange Rows.topRulesSpec) own started topRules_l1 Tryz.func3 ?_ ?_
 . exact Qfe (enc:=enc) (C:=Tryz.checked) (os:=os) (World.laidAll Tryz.prog os Rows.topRulesRow.laid) #[.slice none 0 0,.int .u8 0] (World.laidAll_os _ _ _)
    (World.shaped_of_ZipB (topRules_l3 os) (topRules_l4 os)) (topRules_l5 os)
    (OpenSpec.preRow_of_cond 8 (topRules_l2 os H enc) Kr (fun k hk=>by cases hk) (topRules_l7 os H enc) (by rw[MakeChecks.laidMetH_plain _ _ _ Kr];exact laidMet_laidAll _ (topRules_l9 os) (topRules_l10 os)))
 . intro W base args ds gs before hval hW _ _ _ hL hS _;exact topRules_contract H enc W base args ds gs before hval hW hL hS
