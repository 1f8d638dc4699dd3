import Derived.Test.YteabekcdcphjpaaGreatDoorHCpA
import Derived.Test.YteabekcdcphjpaaGreatDoorHOpc
/- The law ShardWorlds returns true for every input,and leaves its arguments as they were: its card. Condition: the listed package variables read as the program's text lays them (the given tie). -/
set_option linter.unusedVariables false
set_option linter.unusedSimpArgs false
namespace Go.Proofs.YteabekcdcphjpaaGreatDoor
open Go.ChangeShapes Go.WideShapes Go.ChangeAt Go.RowKit Go.Se
set_option maxRecDepth 100000 in
theorem shardWorlds_contract (H:Type) (enc:TypeId × Value → H) (W:World) (base:Nat) (args:Array Value) (ds gs:List (DataW H)) (before:List MemPlace)
 (hval:∀ (j:Nat) t v,Tryz.f4.params[j]? = some t → args[j]? = some v → Value.okWide Tryz.prog W .any base t v)
 (hW:DataW.Whole enc Tryz.prog Tryz.f4.params.toList Rows.shardWorldsSpec.vars false W args.toList ds gs before) (hL:laidMetH Tryz.prog Rows.shardWorldsRow.laid W) (hS:W.ShapedOpen Tryz.prog) :
 Calls Tryz.prog 4 args W fun e W' => ∃ v,e = .returned v ∧ Rows.shardWorldsSpec.post enc Tryz.prog Tryz.f4 false true false false W args v W' := by
 have hW' := hW
 obtain ⟨p,q,hA0,hV,rfl,hfz,hnd⟩ := hW
 have hA : DataW.TrodAll enc Tryz.prog W 0 (fun _ => true) true Tryz.f4.params.toList args.toList ds p := hA0
 rw [Tryz.params4] at hA hval
 obtain ⟨v0,vs0,d0,ds0,p0,q0,hargs,rfl,rfl,h0,r0⟩ := trodAll_cons hA
 obtain ⟨v1,vs1,d1,ds1,p1,q1,rfl,rfl,rfl,h1,r1⟩ := trodAll_cons r0
 obtain ⟨v2,vs2,d2,ds2,p2,q2,rfl,rfl,rfl,h2,r2⟩ := trodAll_cons r1
 obtain ⟨v3,vs3,d3,ds3,p3,q3,rfl,rfl,rfl,h3,r3⟩ := trodAll_cons r2
 obtain ⟨v4,vs4,d4,ds4,p4,q4,rfl,rfl,rfl,h4,r4⟩ := trodAll_cons r3
 obtain ⟨v5,vs5,d5,ds5,p5,q5,rfl,rfl,rfl,h5,r5⟩ := trodAll_cons r4
 obtain ⟨rfl,rfl,rfl⟩ := trodAll_nil r5
 obtain rfl : args = #[v0,v1,v2,v3,v4,v5] := by cases args; simp_all
 obtain ⟨rfl,rfl⟩ := trodVars_none hV
 obtain ⟨c,rfl⟩ := Q52 (hval 0 23 v0 rfl rfl) h0
 obtain ⟨n,rfl,rfl,rfl,w1⟩ := open_int Tryz.underlying3 (hval 1 3 v1 rfl rfl) h1
 have n_ok := Qk5 w1
 obtain ⟨l_A,l_c,l,rfl,l_l,_,l_s,_⟩ := Qu4 (hval 2 24 v2 rfl rfl) h2
 obtain ⟨item,rfl,rfl,rfl,_⟩ := Go.ChangeMaps.open_string Tryz.underlying9 (hval 3 9 v3 rfl rfl) h3
 obtain ⟨other,rfl,rfl,rfl,_⟩ := Go.ChangeMaps.open_string Tryz.underlying9 (hval 4 9 v4 rfl rfl) h4
 obtain ⟨now,rfl,rfl,rfl,w5⟩ := open_int Tryz.underlying3 (hval 5 3 v5 rfl rfl) h5
 have now_ok := Qk5 w5
 have hg := Xa1 hL (by kernel_rfl) hS (by simp [Rows.shardWorldsRow]) (by simp [Rows.shardWorldsRow])
 refine (shardWorlds_spec c n l item other now l_A l_c W hg l_s).calls.mono ?_
 rintro e W' ⟨v,rfl,rfl,hx⟩
 exact ⟨_,rfl,Q5t (by kernel_rfl) (by kernel_rfl) rfl (by kernel_rfl) (by kernel_rfl:Tryz.prog.underlying 4 = some .bool) hW' rfl hx⟩
set_option maxRecDepth 100000 in
theorem shardWorlds_lifted (os:Os) (started:os.Started) (H:Type) (enc:TypeId × Value → H) (F:Stop.Interp) :
 ReturnsInHanded {} Tryz.checked os 4 .any ((OpenSpec.ofChange Rows.shardWorldsSpec).preRow enc Tryz.prog Tryz.f4 Rows.shardWorldsRow.domain false Rows.shardWorldsRow.laid) (((OpenSpec.ofChange Rows.shardWorldsSpec).at F).post enc Tryz.prog Tryz.f4 false true false false) := by
 refine returnsInHanded_of_row (C := Tryz.checked) (s := OpenSpec.ofChange Rows.shardWorldsSpec) own started (by kernel_rfl) Tryz.func4 ?_ ?_
 · have hx : ∃ places,DataW.whole enc Tryz.prog ((World.laidAll Tryz.prog os Rows.shardWorldsRow.laid).forCall (fun _ _ => 0) ⟨#[],#[.agg #[.int .i64 0,.int .i64 0,.int .i64 0,.int .i64 0,.int .i64 0,.int .i64 0],.int .i64 0,.slice none 0 0,.string ⟨#[]⟩,.string ⟨#[]⟩,.int .i64 0],[]⟩).memory Tryz.f4.params.toList Rows.shardWorldsSpec.vars false (#[.agg #[.int .i64 0,.int .i64 0,.int .i64 0,.int .i64 0,.int .i64 0,.int .i64 0],.int .i64 0,.slice none 0 0,.string ⟨#[]⟩,.string ⟨#[]⟩,.int .i64 0] : Array Value).toList 8 = some ([.agg [.lit (.int .i64 0),.lit (.int .i64 0),.lit (.int .i64 0),.lit (.int .i64 0),.lit (.int .i64 0),.lit (.int .i64 0)],.lit (.int .i64 0),.nil,.lit (.string []),.lit (.string []),.lit (.int .i64 0)],[],places) := ⟨[],by kernel_rfl⟩
   obtain ⟨places,hx⟩ := hx
   exact Qit (enc := enc) (C := Tryz.checked) (os := os) (World.laidAll Tryz.prog os Rows.shardWorldsRow.laid) #[.agg #[.int .i64 0,.int .i64 0,.int .i64 0,.int .i64 0,.int .i64 0,.int .i64 0],.int .i64 0,.slice none 0 0,.string ⟨#[]⟩,.string ⟨#[]⟩,.int .i64 0] (World.laidAll_os _ _ _)
    (World.shaped_of_ZipB (by kernel_rfl) (by kernel_rfl)) (by kernel_rfl)
    (OpenSpec.preRow_of_cond 8 hx (by kernel_rfl) (fun k hk => by cases hk) (by kernel_rfl) (by rw [MakeChecks.laidMetH_plain _ _ _ (by kernel_rfl)]; exact laidMet_laidAll _ (by kernel_rfl) (by kernel_rfl)))
 · intro W base args ds gs before hval hW _ _ _ hL hS _
   exact shardWorlds_contract H enc W base args ds gs before hval hW hL hS
end Go.Proofs.YteabekcdcphjpaaGreatDoor
