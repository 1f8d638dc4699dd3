import Derived.Test.YtnnnbjjenknpeaaGreatDoorHLr6
import Derived.Test.YtnnnbjjenknpeaaGreatDoorHOpp
/- The law ReasonOf returns true for every input,and leaves its arguments as they were: its card. Condition: the listed package variables read as the program's text lays them (the given tie). -/
set_option linter.unusedVariables false
set_option linter.unusedSimpArgs false
namespace Go.Proofs.YtnnnbjjenknpeaaGreatDoor
open Go.ChangeShapes Go.WideShapes Go.ChangeAt Go.RowKit Go.Se
set_option maxRecDepth 100000 in
theorem reasonOf_contract (H:Type) (enc:TypeId × Value → H) (W:World) (base:Nat) (args:Array Value) (ds gs:List (DataW H)) (before:List MemPlace)
 (hval:∀ (j:Nat) t v,Tryz.f3.params[j]? = some t → args[j]? = some v → Value.okWide Tryz.prog W .any base t v)
 (hW:DataW.Whole enc Tryz.prog Tryz.f3.params.toList Rows.reasonOfSpec.vars false W args.toList ds gs before) (hL:laidMetH Tryz.prog Rows.reasonOfRow.laid W) (hS:W.ShapedOpen Tryz.prog) :
 Calls Tryz.prog 3 args W fun e W' => ∃ v,e = .returned v ∧ Rows.reasonOfSpec.post enc Tryz.prog Tryz.f3 false true false false W args v W' := by
 have hW' := hW
 obtain ⟨p,q,hA0,hV,rfl,hfz,hnd⟩ := hW
 have hA : DataW.TrodAll enc Tryz.prog W 0 (fun _ => true) true Tryz.f3.params.toList args.toList ds p := hA0
 rw [Tryz.params3] at hA hval
 obtain ⟨v0,vs0,d0,ds0,p0,q0,hargs,rfl,rfl,h0,r0⟩ := trodAll_cons hA
 obtain ⟨rfl,rfl,rfl⟩ := trodAll_nil r0
 obtain rfl : args = #[v0] := by cases args; simp_all
 obtain ⟨rfl,rfl⟩ := trodVars_none hV
 obtain ⟨x_c,x_A,x,x_cap,x_a,x_p,x_i,x_now,rfl,x_s⟩ := Q0g (hval 0 28 v0 rfl rfl) h0
 have hg := Q71 hL (by kernel_rfl) hS (by simp [Rows.reasonOfRow]) (by simp [Rows.reasonOfRow])
 refine (reasonOfLaw_spec x_c x x_a x_p x_i x_now x_A x_cap W hg x_s).calls.mono ?_
 rintro e W' ⟨v,rfl,rfl,hx⟩
 exact ⟨_,rfl,Q24 (by kernel_rfl) (by kernel_rfl) rfl (by kernel_rfl) (by kernel_rfl:Tryz.prog.underlying 4 = some .bool) hW' rfl hx⟩
set_option maxRecDepth 100000 in
theorem reasonOf_lifted (os:Os) (started:os.Started) (H:Type) (enc:TypeId × Value → H) (F:Stop.Interp) :
 ReturnsInHanded {} Tryz.checked os 3 .any ((OpenSpec.ofChange Rows.reasonOfSpec).preRow enc Tryz.prog Tryz.f3 Rows.reasonOfRow.domain false Rows.reasonOfRow.laid) (((OpenSpec.ofChange Rows.reasonOfSpec).at F).post enc Tryz.prog Tryz.f3 false true false false) := by
 refine returnsInHanded_of_row (C := Tryz.checked) (s := OpenSpec.ofChange Rows.reasonOfSpec) own started (by kernel_rfl) Tryz.func3 ?_ ?_
 · have hx : ∃ places,DataW.whole enc Tryz.prog ((World.laidAll Tryz.prog os Rows.reasonOfRow.laid).forCall (fun _ _ => 0) ⟨#[],#[.agg #[.int .i64 0,.int .i64 0,.int .i64 0,.int .i64 0,.int .i64 0,.int .i64 0,.slice none 0 0,.int .i64 0,.int .i64 0,.int .i64 0,.int .i64 0,.int .i64 0,.int .i64 0,.string ⟨#[]⟩,.string ⟨#[]⟩,.int .i64 0]],[]⟩).memory Tryz.f3.params.toList Rows.reasonOfSpec.vars false (#[.agg #[.int .i64 0,.int .i64 0,.int .i64 0,.int .i64 0,.int .i64 0,.int .i64 0,.slice none 0 0,.int .i64 0,.int .i64 0,.int .i64 0,.int .i64 0,.int .i64 0,.int .i64 0,.string ⟨#[]⟩,.string ⟨#[]⟩,.int .i64 0]] : Array Value).toList 8 = some ([.agg [.agg [.lit (.int .i64 0),.lit (.int .i64 0),.lit (.int .i64 0),.lit (.int .i64 0),.lit (.int .i64 0),.lit (.int .i64 0)],.nil,.agg [.lit (.int .i64 0),.lit (.int .i64 0),.lit (.int .i64 0),.lit (.int .i64 0),.lit (.int .i64 0),.lit (.int .i64 0)],.lit (.string []),.lit (.string []),.lit (.int .i64 0)]],[],places) := ⟨[],by kernel_rfl⟩
   obtain ⟨places,hx⟩ := hx
   exact Qid (enc := enc) (C := Tryz.checked) (os := os) (World.laidAll Tryz.prog os Rows.reasonOfRow.laid) #[.agg #[.int .i64 0,.int .i64 0,.int .i64 0,.int .i64 0,.int .i64 0,.int .i64 0,.slice none 0 0,.int .i64 0,.int .i64 0,.int .i64 0,.int .i64 0,.int .i64 0,.int .i64 0,.string ⟨#[]⟩,.string ⟨#[]⟩,.int .i64 0]] (World.laidAll_os _ _ _)
    (World.shaped_of_ZipB (by kernel_rfl) (by kernel_rfl)) (by kernel_rfl)
    (OpenSpec.preRow_of_cond 8 hx (by kernel_rfl) (fun k hk => by cases hk) (by kernel_rfl) (by rw [MakeChecks.laidMetH_plain _ _ _ (by kernel_rfl)]; exact laidMet_laidAll _ (by kernel_rfl) (by kernel_rfl)))
 · intro W base args ds gs before hval hW _ _ _ hL hS _
   exact reasonOf_contract H enc W base args ds gs before hval hW hL hS
end Go.Proofs.YtnnnbjjenknpeaaGreatDoor
