import Derived.Test.YtopncieoolkhjaaGreatDoorHTp1
import Derived.Test.YtopncieoolkhjaaGreatDoorHTk
import Derived.Test.YtopncieoolkhjaaGreatDoorHOpc
import Derived.Test.YtopncieoolkhjaaGreatDoorGR
/- The law TopPublic returns true for every input,and leaves its arguments as they were: its card. Condition: the listed package variables read as the program's text lays them (the given tie). -/
set_option linter.unusedVariables false
set_option linter.unusedSimpArgs false
namespace Go.Proofs.YtopncieoolkhjaaGreatDoor
open Go.ChangeShapes Go.WideShapes Go.ChangeAt Go.RowKit Go.Se
set_option maxRecDepth 100000 in
theorem topPublic_contract (H:Type) (enc:TypeId × Value → H) (W:World) (base:Nat) (args:Array Value) (ds gs:List (DataW H)) (before:List MemPlace)
 (hval:∀ (j:Nat) t v,Tryz.f6.params[j]? = some t → args[j]? = some v → Value.okWide Tryz.prog W .any base t v)
 (hW:DataW.Whole enc Tryz.prog Tryz.f6.params.toList Rows.topPublicSpec.vars false W args.toList ds gs before) (hL:laidMetH Tryz.prog Rows.topPublicRow.laid W) (hS:W.ShapedOpen Tryz.prog) :
 Calls Tryz.prog 6 args W fun e W' => ∃ v,e = .returned v ∧ Rows.topPublicSpec.post enc Tryz.prog Tryz.f6 false true false false W args v W' := by
 have hW' := hW
 obtain ⟨p,q,hA0,hV,rfl,hfz,hnd⟩ := hW
 have hA : DataW.TrodAll enc Tryz.prog W 0 (fun _ => true) true Tryz.f6.params.toList args.toList ds p := hA0
 rw [Tryz.params6] at hA hval
 obtain ⟨v0,vs0,d0,ds0,p0,q0,hargs,rfl,rfl,h0,r0⟩ := trodAll_cons hA
 obtain ⟨v1,vs1,d1,ds1,p1,q1,rfl,rfl,rfl,h1,r1⟩ := trodAll_cons r0
 obtain ⟨v2,vs2,d2,ds2,p2,q2,rfl,rfl,rfl,h2,r2⟩ := trodAll_cons r1
 obtain ⟨rfl,rfl,rfl⟩ := trodAll_nil r2
 obtain rfl : args = #[v0,v1,v2] := by cases args; simp_all
 obtain ⟨rfl,rfl⟩ := trodVars_none hV
 obtain ⟨b_A,b_c,b,rfl,b_l,b_s,b_b⟩ := open_bytes (hval 0 22 v0 rfl rfl) h0
 obtain ⟨who,rfl,rfl,rfl,w1⟩ := open_int Tryz.underlying5 (hval 1 5 v1 rfl rfl) h1
 obtain ⟨thing,rfl,rfl,rfl,w2⟩ := open_int Tryz.underlying5 (hval 2 5 v2 rfl rfl) h2
 have hg := Q54 hL (by kernel_rfl) hS (by simp [Rows.topPublicRow]) (by simp [Rows.topPublicRow])
 have hkn := Q6b hL (by kernel_rfl) (by simp [Rows.topPublicRow])
 refine (topPublicI_spec b b_A b_c who thing (Q2z w1) (Q2z w2) W hg hkn b_s b_b).calls.mono ?_
 rintro e W' ⟨v,rfl,rfl,hx⟩
 exact ⟨_,rfl,Qt8 (by kernel_rfl) (by kernel_rfl) rfl (by kernel_rfl) (by kernel_rfl:Tryz.prog.underlying 4 = some .bool) hW' rfl hx⟩
set_option maxRecDepth 100000 in
theorem topPublic_lifted (os:Os) (started:os.Started) (H:Type) (enc:TypeId × Value → H) (F:Stop.Interp) :
 ReturnsInHanded {} Tryz.checked os 6 .any ((OpenSpec.ofChange Rows.topPublicSpec).preRow enc Tryz.prog Tryz.f6 Rows.topPublicRow.domain false Rows.topPublicRow.laid) (((OpenSpec.ofChange Rows.topPublicSpec).at F).post enc Tryz.prog Tryz.f6 false true false false) := by
 refine returnsInHanded_of_row (C := Tryz.checked) (s := OpenSpec.ofChange Rows.topPublicSpec) own started (by kernel_rfl) Tryz.func6 ?_ ?_
 · have hx : ∃ places,DataW.whole enc Tryz.prog ((World.laidAll Tryz.prog os Rows.topPublicRow.laid).forCall (fun _ _ => 0) ⟨#[],#[.slice none 0 0,.int .u8 0,.int .u8 0],[]⟩).memory Tryz.f6.params.toList Rows.topPublicSpec.vars false (#[.slice none 0 0,.int .u8 0,.int .u8 0] : Array Value).toList 8 = some ([.nil,.lit (.int .u8 0),.lit (.int .u8 0)],[],places) := ⟨[],by kernel_rfl⟩
   obtain ⟨places,hx⟩ := hx
   exact Qd0 (enc := enc) (C := Tryz.checked) (os := os) (World.laidAll Tryz.prog os Rows.topPublicRow.laid) #[.slice none 0 0,.int .u8 0,.int .u8 0] (World.laidAll_os _ _ _)
    (World.shaped_of_ZipB (by kernel_rfl) (by kernel_rfl)) (by kernel_rfl)
    (OpenSpec.preRow_of_cond 8 hx (by kernel_rfl) (fun k hk => by cases hk) (by kernel_rfl) (by rw [MakeChecks.laidMetH_plain _ _ _ (by kernel_rfl)]; exact laidMet_laidAll _ (by kernel_rfl) (by kernel_rfl)))
 · intro W base args ds gs before hval hW _ _ _ hL hS _
   exact topPublic_contract H enc W base args ds gs before hval hW hL hS
end Go.Proofs.YtopncieoolkhjaaGreatDoor
