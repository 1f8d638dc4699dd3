
/- The law ShardJoins returns true for every input, and leaves its arguments as they were: its card. Condition: the listed package variables read as the program's text lays them (the given tie). -/
import Derived.Test.YtbfjlpoeglcmfaaDoorJo4
import Derived.Test.YtbfjlpoeglcmfaaDoorCrd
set_option linter.unusedVariables false
set_option linter.unusedSimpArgs false
namespace Go.Proofs.YtbfjlpoeglcmfaaDoor
open Go.ChangeShapes Go.WideShapes Go.ChangeAt Go.RowKit Go.Se

set_option maxRecDepth 100000 in
theorem joins_contract (H : Type) (enc : TypeId × Value → H) (W : World) (base : Nat) (args : Array Value) (ds gs : List (DataW H)) (before : List MemPlace)
    (hval : ∀ (j : Nat) t v, Tryd.f3.params[j]? = some t → args[j]? = some v → Value.okWide Tryd.prog W .any base t v)
    (hW : DataW.Whole enc Tryd.prog Tryd.f3.params.toList Rows.shardJoinsSpec.vars false W args.toList ds gs before) (hL : laidMetH Tryd.prog Rows.shardJoinsRow.laid W) (hS : W.ShapedOpen Tryd.prog) :
    Calls Tryd.prog 3 args W fun e W' => ∃ v, e = .returned v ∧ Rows.shardJoinsSpec.post enc Tryd.prog Tryd.f3 false true false false W args v W' := by
  have hW' := hW
  obtain ⟨p, q, hA0, hV, rfl, hfz, hnd⟩ := hW
  have hA : DataW.TrodAll enc Tryd.prog W 0 (fun _ => true) true Tryd.f3.params.toList args.toList ds p := hA0
  rw [Tryd.params3] at hA hval
  obtain ⟨v0, vs0, d0, ds0, p0, q0, hargs, rfl, rfl, h0, r0⟩ := trodAll_cons hA
  obtain ⟨v1, vs1, d1, ds1, p1, q1, rfl, rfl, rfl, h1, r1⟩ := trodAll_cons r0
  obtain ⟨v2, vs2, d2, ds2, p2, q2, rfl, rfl, rfl, h2, r2⟩ := trodAll_cons r1
  obtain ⟨rfl, rfl, rfl⟩ := trodAll_nil r2
  obtain rfl : args = #[v0, v1, v2] := by cases args; simp_all
  obtain ⟨rfl, rfl⟩ := trodVars_none hV
  obtain ⟨n, rfl, rfl, rfl, wn⟩ := open_int Tryd.underlying3 (hval 0 3 v0 rfl rfl) h0
  obtain ⟨A, c, l, rfl, hlc, _, hs, _⟩ := open_events (hval 1 22 v1 rfl rfl) h1
  obtain ⟨k, rfl, rfl, rfl, wk⟩ := open_int Tryd.underlying3 (hval 2 3 v2 rfl rfl) h2
  have hn := wf_i64ok wn
  have hg := gl_of hL (by kernel_rfl) hS (by simp [Rows.shardJoinsRow]) (by simp [Rows.shardJoinsRow])
  refine (joins_spec n l k A c W hg hs hlc (by unfold i64ok at hn; omega)).calls.mono ?_
  rintro e W' ⟨v, rfl, rfl, hx⟩
  exact ⟨_, rfl, law_post (by kernel_rfl) (by kernel_rfl) rfl (by kernel_rfl) (by kernel_rfl : Tryd.prog.underlying 4 = some .bool) hW' rfl hx⟩

set_option maxRecDepth 100000 in
theorem joins_lifted (os : Os) (started : os.Started) (H : Type) (enc : TypeId × Value → H) (F : Stop.Interp) :
    ReturnsInHanded {} Tryd.checked os 3 .any ((OpenSpec.ofChange Rows.shardJoinsSpec).preRow enc Tryd.prog Tryd.f3 Rows.shardJoinsRow.domain false Rows.shardJoinsRow.laid) (((OpenSpec.ofChange Rows.shardJoinsSpec).at F).post enc Tryd.prog Tryd.f3 false true false false) := by
  refine returnsInHanded_of_row (C := Tryd.checked) (s := OpenSpec.ofChange Rows.shardJoinsSpec) own started (by kernel_rfl) Tryd.func3 ?_ ?_
  · have hx : ∃ places, DataW.whole enc Tryd.prog ((World.laidAll Tryd.prog os Rows.shardJoinsRow.laid).forCall (fun _ _ => 0) ⟨#[], #[.int .i64 0, .slice none 0 0, .int .i64 0], []⟩).memory Tryd.f3.params.toList Rows.shardJoinsSpec.vars false #[Value.int .i64 0, .slice none 0 0, .int .i64 0].toList 8 = some ([.lit (.int .i64 0), .nil, .lit (.int .i64 0)], [], places) := ⟨[], by kernel_rfl⟩
    obtain ⟨places, hx⟩ := hx
    exact witness_shaped_row (enc := enc) (C := Tryd.checked) (os := os) (World.laidAll Tryd.prog os Rows.shardJoinsRow.laid) #[.int .i64 0, .slice none 0 0, .int .i64 0] (World.laidAll_os _ _ _)
      (World.shaped_of_ZipB (by kernel_rfl) (by kernel_rfl)) (by kernel_rfl)
      (OpenSpec.preRow_of_cond 8 hx (by kernel_rfl) (fun k hk => by cases hk) (by kernel_rfl) (by rw [MakeChecks.laidMetH_plain _ _ _ (by kernel_rfl)]; exact laidMet_laidAll _ (by kernel_rfl) (by kernel_rfl)))
  · intro W base args ds gs before hval hW _ _ _ hL hS _
    exact joins_contract H enc W base args ds gs before hval hW hL hS

theorem joins_said : Rows.ShardJoinsSaid :=
  OpenClaim.holds_of_cond 3 Tryd.f3 rfl rfl rfl rfl rfl rfl rfl ⟨rfl, rfl, rfl, rfl, rfl⟩ rfl rfl rfl rfl rfl (by kernel_rfl) Tryd.func3 (by kernel_rfl)
    (of_decide_eq_true (by kernel_rfl)) (by unfold Func.isWrapper; first | (rw [if_pos (by decide +kernel)]; kernel_rfl) | (rw [if_neg (by decide +kernel)]; exact ⟨rfl, rfl⟩))
    (fun os started H enc _ F => by rw [OpenClaim.pre_eq_preRow]; exact joins_lifted os started H enc F)

theorem joins_plain (f : FuncId) (fn : Func) (hf : Tryd.pinned.checked.prog.funcNamed "cicerone/ciceronelaw32.ShardJoins" = some f) (hfn : Tryd.pinned.checked.prog.funcs[f]? = some fn) :
    false = Tryd.pinned.checked.prog.looks [] ∧ ∀ (j : Nat) t, fn.params[j]? = some t → Tryd.pinned.checked.prog.wantsStandIn t = false := by
  obtain rfl : f = 3 := Option.some.inj ((show Tryd.prog.funcNamed "cicerone/ciceronelaw32.ShardJoins" = some 3 by kernel_rfl).symm.trans hf) |>.symm
  obtain rfl : fn = Tryd.f3 := (Option.some.inj (Tryd.func3.symm.trans hfn)).symm
  refine ⟨by kernel_rfl, fun j t ht => ?_⟩
  have hall : (Tryd.f3.params.toList.all fun u => !Tryd.prog.wantsStandIn u) = true := by kernel_rfl
  have hm := Array.mem_toList_iff.2 (Array.mem_of_getElem? ht)
  exact (show Tryd.prog.wantsStandIn t = false by simpa using List.all_eq_true.1 hall t hm)

theorem joins_holds : Rows.ShardJoinsCardSaid :=
  Claim7.holds_tied_plain_at .later [] _ _ _ _ joins_said (fun _ h => by cases h) (by kernel_rfl) (fun _ h => by cases h) shardJoins_row_tie rfl ⟨rfl, rfl⟩ (by kernel_rfl) rfl joins_plain (by kernel_rfl)
#print axioms joins_holds
end Go.Proofs.YtbfjlpoeglcmfaaDoor
