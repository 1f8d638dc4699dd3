import Derived.Test.YtoancknoinilaaaGreatDoorHSc6
import Derived.Test.YtoancknoinilaaaGreatDoorHOpc

/- The law ScoreTotals returns true for every input, and leaves its arguments as they were: its card. Condition: the listed package variables read as the program's text lays them (the given tie). -/
set_option linter.unusedVariables false
set_option linter.unusedSimpArgs false
namespace Go.Proofs.YtoancknoinilaaaGreatDoor
open Go.ChangeShapes Go.WideShapes Go.ChangeAt Go.RowKit Go.Se

set_option maxRecDepth 100000 in
theorem scoreTotals_contract (H : Type) (enc : TypeId × Value → H) (W : World) (base : Nat) (args : Array Value) (ds gs : List (DataW H)) (before : List MemPlace)
    (hval : ∀ (j : Nat) t v, Tryz.f5.params[j]? = some t → args[j]? = some v → Value.okWide Tryz.prog W .any base t v)
    (hW : DataW.Whole enc Tryz.prog Tryz.f5.params.toList Rows.scoreTotalsSpec.vars false W args.toList ds gs before) (hL : laidMetH Tryz.prog Rows.scoreTotalsRow.laid W) (hS : W.ShapedOpen Tryz.prog) :
    Calls Tryz.prog 5 args W fun e W' => ∃ v, e = .returned v ∧ Rows.scoreTotalsSpec.post enc Tryz.prog Tryz.f5 false true false false W args v W' := by
  have hW' := hW
  obtain ⟨p, q, hA0, hV, rfl, hfz, hnd⟩ := hW
  have hA : DataW.TrodAll enc Tryz.prog W 0 (fun _ => true) true Tryz.f5.params.toList args.toList ds p := hA0
  rw [Tryz.params5] at hA hval
  obtain ⟨v0, vs0, d0, ds0, p0, q0, hargs, rfl, rfl, h0, r0⟩ := trodAll_cons hA
  obtain ⟨v1, vs1, d1, ds1, p1, q1, rfl, rfl, rfl, h1, r1⟩ := trodAll_cons r0
  obtain ⟨rfl, rfl, rfl⟩ := trodAll_nil r1
  obtain rfl : args = #[v0, v1] := by cases args; simp_all
  obtain ⟨rfl, rfl⟩ := trodVars_none hV
  obtain ⟨l_A, l_c, l, rfl, l_l, _, l_s, _⟩ := open_parts (hval 0 38 v0 rfl rfl) h0
  obtain ⟨at_, rfl, rfl, rfl, w1⟩ := open_int Tryz.underlying3 (hval 1 3 v1 rfl rfl) h1
  have at__ok := wf_i64ok w1
  have hg := gl_of hL (by kernel_rfl) hS (by simp [Rows.scoreTotalsRow]) (by simp [Rows.scoreTotalsRow])
  refine (scoreTotals_spec l at_ l_A l_c W hg l_s l_l).calls.mono ?_
  rintro e W' ⟨v, rfl, rfl, hx⟩
  exact ⟨_, rfl, law_post (by kernel_rfl) (by kernel_rfl) rfl (by kernel_rfl) (by kernel_rfl : Tryz.prog.underlying 4 = some .bool) hW' rfl hx⟩

set_option maxRecDepth 100000 in
theorem scoreTotals_lifted (os : Os) (started : os.Started) (H : Type) (enc : TypeId × Value → H) (F : Stop.Interp) :
    ReturnsInHanded {} Tryz.checked os 5 .any ((OpenSpec.ofChange Rows.scoreTotalsSpec).preRow enc Tryz.prog Tryz.f5 Rows.scoreTotalsRow.domain false Rows.scoreTotalsRow.laid) (((OpenSpec.ofChange Rows.scoreTotalsSpec).at F).post enc Tryz.prog Tryz.f5 false true false false) := by
  refine returnsInHanded_of_row (C := Tryz.checked) (s := OpenSpec.ofChange Rows.scoreTotalsSpec) own started (by kernel_rfl) Tryz.func5 ?_ ?_
  · have hx : ∃ places, DataW.whole enc Tryz.prog ((World.laidAll Tryz.prog os Rows.scoreTotalsRow.laid).forCall (fun _ _ => 0) ⟨#[], #[.slice none 0 0, .int .i64 0], []⟩).memory Tryz.f5.params.toList Rows.scoreTotalsSpec.vars false (#[.slice none 0 0, .int .i64 0] : Array Value).toList 8 = some ([.nil, .lit (.int .i64 0)], [], places) := ⟨[], by kernel_rfl⟩
    obtain ⟨places, hx⟩ := hx
    exact witness_shaped_row (enc := enc) (C := Tryz.checked) (os := os) (World.laidAll Tryz.prog os Rows.scoreTotalsRow.laid) #[.slice none 0 0, .int .i64 0] (World.laidAll_os _ _ _)
      (World.shaped_of_ZipB (by kernel_rfl) (by kernel_rfl)) (by kernel_rfl)
      (OpenSpec.preRow_of_cond 8 hx (by kernel_rfl) (fun k hk => by cases hk) (by kernel_rfl) (by rw [MakeChecks.laidMetH_plain _ _ _ (by kernel_rfl)]; exact laidMet_laidAll _ (by kernel_rfl) (by kernel_rfl)))
  · intro W base args ds gs before hval hW _ _ _ hL hS _
    exact scoreTotals_contract H enc W base args ds gs before hval hW hL hS

end Go.Proofs.YtoancknoinilaaaGreatDoor
