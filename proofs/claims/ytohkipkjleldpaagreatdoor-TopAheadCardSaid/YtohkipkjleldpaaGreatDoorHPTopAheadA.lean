import Derived.Test.YtohkipkjleldpaaGreatDoorHTa4
import Derived.Test.YtohkipkjleldpaaGreatDoorHTk
import Derived.Test.YtohkipkjleldpaaGreatDoorHOpc
import Derived.Test.YtohkipkjleldpaaGreatDoorHPTopAheadL
/- The law TopAhead returns true for every input,and leaves its arguments as they were: its card. Condition: the listed package variables read as the program's text lays them (the given tie). -/
set_option linter.unusedVariables false
set_option linter.unusedSimpArgs false
namespace Go.Proofs.YtohkipkjleldpaaGreatDoor
open Go.ChangeShapes Go.WideShapes Go.ChangeAt Go.RowKit Go.Se
set_option maxRecDepth 100000 in
theorem topAhead_contract (H:Type) (enc:TypeId×Value→H) (W:World) (base:Nat) (args:Array Value) (ds gs:List (DataW H)) (before:List MemPlace)
 (hval:∀ (j:Nat) t v,Tryz.f3.params[j]? = some t→args[j]? = some v→Value.okWide Tryz.prog W .any base t v)
 (hW:DataW.Whole enc Tryz.prog Tryz.f3.params.toList Rows.topAheadSpec.vars false W args.toList ds gs before) (hL:laidMetH Tryz.prog Rows.topAheadRow.laid W) (hS:W.ShapedOpen Tryz.prog) :
 Calls Tryz.prog 3 args W fun e W'=>∃ v,e = .returned v∧Rows.topAheadSpec.post enc Tryz.prog Tryz.f3 false true false false W args v W':=by
 have hW':=hW;obtain⟨p,q,hA0,hV,rfl,hfz,hnd⟩:=hW;have hA:DataW.TrodAll enc Tryz.prog W 0 (fun _=>true) true Tryz.f3.params.toList args.toList ds p:=hA0;rw[Tryz.params3] at hA hval;obtain⟨v0,vs0,d0,ds0,p0,q0,hargs,rfl,rfl,h0,r0⟩:=trodAll_cons hA;obtain⟨v1,vs1,d1,ds1,p1,q1,rfl,rfl,rfl,h1,r1⟩:=trodAll_cons r0;obtain⟨rfl,rfl,rfl⟩:=trodAll_nil r1;obtain rfl:args = #[v0,v1]:=by cases args;simp_all
 obtain⟨rfl,rfl⟩:=trodVars_none hV;obtain⟨b_A,b_c,b,rfl,b_l,b_s,b_b⟩:=open_bytes (hval 0 22 v0 rfl rfl) h0;obtain⟨k,rfl,rfl,rfl,w1⟩:=open_int Tryz.underlying5 (hval 1 5 v1 rfl rfl) h1;have hg:=Xdv hL (by kernel_rfl) hS (by simp[Rows.topAheadRow]) (by simp[Rows.topAheadRow]);have hkn:=Xdy hL (by kernel_rfl) (by simp[Rows.topAheadRow]);refine(topAheadI_spec b b_A b_c k (Xd7 w1) W hg hkn b_s b_b).calls.mono ?_;rintro e W' ⟨v,rfl,rfl,hx⟩
 exact⟨_,rfl,Q7v (by kernel_rfl) (by kernel_rfl) rfl (by kernel_rfl) (by kernel_rfl:Tryz.prog.underlying 4=some .bool) hW' rfl hx⟩
set_option maxRecDepth 100000 in
theorem topAhead_lifted (os:Os) (started:os.Started) (H:Type) (enc:TypeId×Value→H) (F:Stop.Interp) :
 ReturnsInHanded {} Tryz.checked os 3 .any ((OpenSpec.ofChange Rows.topAheadSpec).preRow enc Tryz.prog Tryz.f3 Rows.topAheadRow.domain false Rows.topAheadRow.laid) (((OpenSpec.ofChange Rows.topAheadSpec).at F).post enc Tryz.prog Tryz.f3 false true false false):=by
 refine returnsInHanded_of_row (C:=Tryz.checked) (s:=OpenSpec.ofChange Rows.topAheadSpec) own started topAhead_l1 Tryz.func3 ?_ ?_
 · exact Qiy (enc:=enc) (C:=Tryz.checked) (os:=os) (World.laidAll Tryz.prog os Rows.topAheadRow.laid) #[.slice none 0 0,.int .u8 0] (World.laidAll_os _ _ _)
    (World.shaped_of_ZipB (topAhead_l3 os) (topAhead_l4 os)) (topAhead_l5 os)
    (OpenSpec.preRow_of_cond 8 (topAhead_l2 os H enc) (by kernel_rfl) (fun k hk=>by cases hk) (topAhead_l7 os H enc) (by rw[MakeChecks.laidMetH_plain _ _ _ (by kernel_rfl)];exact laidMet_laidAll _ (topAhead_l9 os) (topAhead_l10 os)))
 · intro W base args ds gs before hval hW _ _ _ hL hS _
   exact topAhead_contract H enc W base args ds gs before hval hW hL hS
end Go.Proofs.YtohkipkjleldpaaGreatDoor
