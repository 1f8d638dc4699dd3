import Derived.Test.YtbfjlpoeglcmfaaGreatDoorHPr14
import Derived.Test.YtbfjlpoeglcmfaaGreatDoorGR

/- The law PriceOthers returns true for every input, and leaves its arguments as they were: its card. Condition: the listed package variables read as the program's text lays them (the given tie). -/
set_option linter.unusedVariables false
set_option linter.unusedSimpArgs false
namespace Go.Proofs.YtbfjlpoeglcmfaaGreatDoor
open Go.ChangeShapes Go.WideShapes Go.ChangeAt Go.RowKit Go.Se

set_option maxRecDepth 100000 in
theorem priceOthers_contract (H : Type) (enc : TypeId × Value → H) (W : World) (base : Nat) (args : Array Value) (ds gs : List (DataW H)) (before : List MemPlace)
    (hval : ∀ (j : Nat) t v, Tryz.f13.params[j]? = some t → args[j]? = some v → Value.okWide Tryz.prog W .any base t v)
    (hW : DataW.Whole enc Tryz.prog Tryz.f13.params.toList Rows.priceOthersSpec.vars false W args.toList ds gs before) (hL : laidMetH Tryz.prog Rows.priceOthersRow.laid W) (hS : W.ShapedOpen Tryz.prog) :
    Calls Tryz.prog 13 args W fun e W' => ∃ v, e = .returned v ∧ Rows.priceOthersSpec.post enc Tryz.prog Tryz.f13 false true false false W args v W' := by
  have hW' := hW
  obtain ⟨p, q, hA0, hV, rfl, hfz, hnd⟩ := hW
  have hA : DataW.TrodAll enc Tryz.prog W 0 (fun _ => true) true Tryz.f13.params.toList args.toList ds p := hA0
  rw [Tryz.params13] at hA hval
  obtain ⟨v0, vs0, d0, ds0, p0, q0, hargs, rfl, rfl, h0, r0⟩ := trodAll_cons hA
  obtain ⟨v1, vs1, d1, ds1, p1, q1, rfl, rfl, rfl, h1, r1⟩ := trodAll_cons r0
  obtain ⟨v2, vs2, d2, ds2, p2, q2, rfl, rfl, rfl, h2, r2⟩ := trodAll_cons r1
  obtain ⟨v3, vs3, d3, ds3, p3, q3, rfl, rfl, rfl, h3, r3⟩ := trodAll_cons r2
  obtain ⟨v4, vs4, d4, ds4, p4, q4, rfl, rfl, rfl, h4, r4⟩ := trodAll_cons r3
  obtain ⟨rfl, rfl, rfl⟩ := trodAll_nil r4
  obtain rfl : args = #[v0, v1, v2, v3, v4] := by cases args; simp_all
  obtain ⟨rfl, rfl⟩ := trodVars_none hV
  obtain ⟨c, rfl⟩ := open_cfg (hval 0 23 v0 rfl rfl) h0
  obtain ⟨l_A, l_c, l, rfl, l_l, _, l_s, _⟩ := open_events (hval 1 24 v1 rfl rfl) h1
  obtain ⟨more_A, more_c, more, rfl, more_l, _, more_s, _⟩ := open_events (hval 2 24 v2 rfl rfl) h2
  obtain ⟨person, rfl, rfl, rfl, _⟩ := Go.ChangeMaps.open_string Tryz.underlying9 (hval 3 9 v3 rfl rfl) h3
  obtain ⟨now, rfl, rfl, rfl, w4⟩ := open_int Tryz.underlying3 (hval 4 3 v4 rfl rfl) h4
  have now_ok := wf_i64ok w4
  have hg := gl_of hL (by kernel_rfl) hS (by simp [Rows.priceOthersRow]) (by simp [Rows.priceOthersRow])
  refine (priceOthers_spec c l more person now l_A more_A l_c more_c W hg l_s more_s).calls.mono ?_
  rintro e W' ⟨v, rfl, rfl, hx⟩
  exact ⟨_, rfl, law_post (by kernel_rfl) (by kernel_rfl) rfl (by kernel_rfl) (by kernel_rfl : Tryz.prog.underlying 4 = some .bool) hW' rfl hx⟩

set_option maxRecDepth 100000 in
theorem priceOthers_lifted (os : Os) (started : os.Started) (H : Type) (enc : TypeId × Value → H) (F : Stop.Interp) :
    ReturnsInHanded {} Tryz.checked os 13 .any ((OpenSpec.ofChange Rows.priceOthersSpec).preRow enc Tryz.prog Tryz.f13 Rows.priceOthersRow.domain false Rows.priceOthersRow.laid) (((OpenSpec.ofChange Rows.priceOthersSpec).at F).post enc Tryz.prog Tryz.f13 false true false false) := by
  refine returnsInHanded_of_row (C := Tryz.checked) (s := OpenSpec.ofChange Rows.priceOthersSpec) own started (by kernel_rfl) Tryz.func13 ?_ ?_
  · have hx : ∃ places, DataW.whole enc Tryz.prog ((World.laidAll Tryz.prog os Rows.priceOthersRow.laid).forCall (fun _ _ => 0) ⟨#[], #[.agg #[.int .i64 0, .int .i64 0, .int .i64 0, .int .i64 0, .int .i64 0, .int .i64 0], .slice none 0 0, .slice none 0 0, .string ⟨#[]⟩, .int .i64 0], []⟩).memory Tryz.f13.params.toList Rows.priceOthersSpec.vars false (#[.agg #[.int .i64 0, .int .i64 0, .int .i64 0, .int .i64 0, .int .i64 0, .int .i64 0], .slice none 0 0, .slice none 0 0, .string ⟨#[]⟩, .int .i64 0] : Array Value).toList 8 = some ([.agg [.lit (.int .i64 0), .lit (.int .i64 0), .lit (.int .i64 0), .lit (.int .i64 0), .lit (.int .i64 0), .lit (.int .i64 0)], .nil, .nil, .lit (.string []), .lit (.int .i64 0)], [], places) := ⟨[], by kernel_rfl⟩
    obtain ⟨places, hx⟩ := hx
    exact witness_shaped_row (enc := enc) (C := Tryz.checked) (os := os) (World.laidAll Tryz.prog os Rows.priceOthersRow.laid) #[.agg #[.int .i64 0, .int .i64 0, .int .i64 0, .int .i64 0, .int .i64 0, .int .i64 0], .slice none 0 0, .slice none 0 0, .string ⟨#[]⟩, .int .i64 0] (World.laidAll_os _ _ _)
      (World.shaped_of_ZipB (by kernel_rfl) (by kernel_rfl)) (by kernel_rfl)
      (OpenSpec.preRow_of_cond 8 hx (by kernel_rfl) (fun k hk => by cases hk) (by kernel_rfl) (by rw [MakeChecks.laidMetH_plain _ _ _ (by kernel_rfl)]; exact laidMet_laidAll _ (by kernel_rfl) (by kernel_rfl)))
  · intro W base args ds gs before hval hW _ _ _ hL hS _
    exact priceOthers_contract H enc W base args ds gs before hval hW hL hS

theorem priceOthers_said : Rows.PriceOthersSaid :=
  OpenClaim.holds_of_cond 13 Tryz.f13 rfl rfl rfl rfl rfl rfl rfl ⟨rfl, rfl, rfl, rfl, rfl⟩ rfl rfl rfl rfl rfl (by kernel_rfl) Tryz.func13 (by kernel_rfl)
    (of_decide_eq_true (by kernel_rfl)) (by unfold Func.isWrapper; first | (rw [if_pos (by decide +kernel)]; kernel_rfl) | (rw [if_neg (by decide +kernel)]; exact ⟨rfl, rfl⟩))
    (fun os started H enc _ F => by rw [OpenClaim.pre_eq_preRow]; exact priceOthers_lifted os started H enc F)

theorem priceOthers_plain (f : FuncId) (fn : Func) (hf : Tryz.pinned.checked.prog.funcNamed "cicerone/ciceronelaw39.PriceOthers" = some f) (hfn : Tryz.pinned.checked.prog.funcs[f]? = some fn) :
    false = Tryz.pinned.checked.prog.looks [] ∧ ∀ (j : Nat) t, fn.params[j]? = some t → Tryz.pinned.checked.prog.wantsStandIn t = false := by
  obtain rfl : f = 13 := Option.some.inj ((show Tryz.prog.funcNamed "cicerone/ciceronelaw39.PriceOthers" = some 13 by kernel_rfl).symm.trans hf) |>.symm
  obtain rfl : fn = Tryz.f13 := (Option.some.inj (Tryz.func13.symm.trans hfn)).symm
  refine ⟨by kernel_rfl, fun j t ht => ?_⟩
  have hall : (Tryz.f13.params.toList.all fun u => !Tryz.prog.wantsStandIn u) = true := by kernel_rfl
  have hm := Array.mem_toList_iff.2 (Array.mem_of_getElem? ht)
  exact (show Tryz.prog.wantsStandIn t = false by simpa using List.all_eq_true.1 hall t hm)

theorem priceOthers_holds : Rows.PriceOthersCardSaid :=
  Claim7.holds_tied_plain_at .later [] _ _ _ _ priceOthers_said (fun _ h => by cases h) (by kernel_rfl) (fun _ h => by cases h) priceOthers_row_tie rfl ⟨rfl, rfl⟩ (by kernel_rfl) rfl priceOthers_plain (by kernel_rfl)
#print axioms priceOthers_holds
end Go.Proofs.YtbfjlpoeglcmfaaGreatDoor
