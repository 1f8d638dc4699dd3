import Derived.Test.YtnnnbjjenknpeaaGreatDoorHLr7
import Derived.Test.YtnnnbjjenknpeaaGreatDoorHOpp
import Derived.Test.YtnnnbjjenknpeaaGreatDoorHTxn
/- The law ReasonApart returns true for every input,and leaves its arguments as they were: its card. Condition: the listed package variables read as the program's text lays them (the given tie). -/
set_option linter.unusedVariables false
set_option linter.unusedSimpArgs false
namespace Go.Proofs.YtnnnbjjenknpeaaGreatDoor
open Go.ChangeShapes Go.WideShapes Go.ChangeAt Go.RowKit Go.Se
set_option maxRecDepth 100000 in
theorem reasonApart_contract (H:Type) (enc:TypeId × Value → H) (W:World) (base:Nat) (args:Array Value) (ds gs:List (DataW H)) (before:List MemPlace)
 (hval:∀ (j:Nat) t v,Tryz.f8.params[j]? = some t → args[j]? = some v → Value.okWide Tryz.prog W .any base t v)
 (hW:DataW.Whole enc Tryz.prog Tryz.f8.params.toList Rows.reasonApartSpec.vars false W args.toList ds gs before) (hL:laidMetH Tryz.prog Rows.reasonApartRow.laid W) (hS:W.ShapedOpen Tryz.prog) :
 Calls Tryz.prog 8 args W fun e W' => ∃ v,e = .returned v ∧ Rows.reasonApartSpec.post enc Tryz.prog Tryz.f8 false true false false W args v W' := by
 have hW' := hW
 obtain ⟨p,q,hA0,hV,rfl,hfz,hnd⟩ := hW
 have hA : DataW.TrodAll enc Tryz.prog W 0 (fun _ => true) true Tryz.f8.params.toList args.toList ds p := hA0
 rw [Tryz.params8] at hA hval
 obtain ⟨v0,vs0,d0,ds0,p0,q0,hargs,rfl,rfl,h0,r0⟩ := trodAll_cons hA
 obtain ⟨v1,vs1,d1,ds1,p1,q1,rfl,rfl,rfl,h1,r1⟩ := trodAll_cons r0
 obtain ⟨rfl,rfl,rfl⟩ := trodAll_nil r1
 obtain rfl : args = #[v0,v1] := by cases args; simp_all
 obtain ⟨rfl,rfl⟩ := trodVars_none hV
 obtain ⟨x_c,x_A,x,x_cap,x_a,x_p,x_i,x_now,rfl,x_s⟩ := Qzw (hval 0 28 v0 rfl rfl) h0
 obtain ⟨n,rfl,rfl,rfl,w1⟩ := open_int Tryz.underlying64 (hval 1 64 v1 rfl rfl) h1
 have hg := Q7z hL (by kernel_rfl) hS (by simp [Rows.reasonApartRow]) (by simp [Rows.reasonApartRow])
 have hnm := Q72 hL (by kernel_rfl) (by simp [Rows.reasonApartRow])
 refine (reasonApart_spec x_c x x_a x_p x_i x_now x_A x_cap n W hg hnm (Q7j w1) x_s).calls.mono ?_
 rintro e W' ⟨v,rfl,rfl,hx⟩
 exact ⟨_,rfl,Q2t (by kernel_rfl) (by kernel_rfl) rfl (by kernel_rfl) (by kernel_rfl:Tryz.prog.underlying 4 = some .bool) hW' rfl hx⟩
set_option maxRecDepth 100000 in
theorem reasonApart_lifted (os:Os) (started:os.Started) (H:Type) (enc:TypeId × Value → H) (F:Stop.Interp) :
 ReturnsInHanded {} Tryz.checked os 8 .any ((OpenSpec.ofChange Rows.reasonApartSpec).preRow enc Tryz.prog Tryz.f8 Rows.reasonApartRow.domain false Rows.reasonApartRow.laid) (((OpenSpec.ofChange Rows.reasonApartSpec).at F).post enc Tryz.prog Tryz.f8 false true false false) := by
 refine returnsInHanded_of_row (C := Tryz.checked) (s := OpenSpec.ofChange Rows.reasonApartSpec) own started (by kernel_rfl) Tryz.func8 ?_ ?_
 · have hx : ∃ places,DataW.whole enc Tryz.prog ((World.laidAll Tryz.prog os Rows.reasonApartRow.laid).forCall (fun _ _ => 0) ⟨#[],#[.agg #[.int .i64 0,.int .i64 0,.int .i64 0,.int .i64 0,.int .i64 0,.int .i64 0,.slice none 0 0,.int .i64 0,.int .i64 0,.int .i64 0,.int .i64 0,.int .i64 0,.int .i64 0,.string ⟨#[]⟩,.string ⟨#[]⟩,.int .i64 0],.int .u16 0],[]⟩).memory Tryz.f8.params.toList Rows.reasonApartSpec.vars false (#[.agg #[.int .i64 0,.int .i64 0,.int .i64 0,.int .i64 0,.int .i64 0,.int .i64 0,.slice none 0 0,.int .i64 0,.int .i64 0,.int .i64 0,.int .i64 0,.int .i64 0,.int .i64 0,.string ⟨#[]⟩,.string ⟨#[]⟩,.int .i64 0],.int .u16 0] : Array Value).toList 8 = some ([.agg [.agg [.lit (.int .i64 0),.lit (.int .i64 0),.lit (.int .i64 0),.lit (.int .i64 0),.lit (.int .i64 0),.lit (.int .i64 0)],.nil,.agg [.lit (.int .i64 0),.lit (.int .i64 0),.lit (.int .i64 0),.lit (.int .i64 0),.lit (.int .i64 0),.lit (.int .i64 0)],.lit (.string []),.lit (.string []),.lit (.int .i64 0)],.lit (.int .u16 0)],[],places) := ⟨[],by kernel_rfl⟩
   obtain ⟨places,hx⟩ := hx
   exact Qib (enc := enc) (C := Tryz.checked) (os := os) (World.laidAll Tryz.prog os Rows.reasonApartRow.laid) #[.agg #[.int .i64 0,.int .i64 0,.int .i64 0,.int .i64 0,.int .i64 0,.int .i64 0,.slice none 0 0,.int .i64 0,.int .i64 0,.int .i64 0,.int .i64 0,.int .i64 0,.int .i64 0,.string ⟨#[]⟩,.string ⟨#[]⟩,.int .i64 0],.int .u16 0] (World.laidAll_os _ _ _)
    (World.shaped_of_ZipB (by kernel_rfl) (by kernel_rfl)) (by kernel_rfl)
    (OpenSpec.preRow_of_cond 8 hx (by kernel_rfl) (fun k hk => by cases hk) (by kernel_rfl) (by rw [MakeChecks.laidMetH_plain _ _ _ (by kernel_rfl)]; exact laidMet_laidAll _ (by kernel_rfl) (by kernel_rfl)))
 · intro W base args ds gs before hval hW _ _ _ hL hS _
   exact reasonApart_contract H enc W base args ds gs before hval hW hL hS
end Go.Proofs.YtnnnbjjenknpeaaGreatDoor
