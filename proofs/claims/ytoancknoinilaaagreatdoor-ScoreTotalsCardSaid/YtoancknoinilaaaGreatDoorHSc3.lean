import Derived.Test.YtoancknoinilaaaGreatDoorHSc2

/- The parts of a score, where nobody did anything. -/
set_option linter.unusedVariables false
set_option linter.unusedSimpArgs false
namespace Go.Proofs.YtoancknoinilaaaGreatDoor
open Go.Se Go.RowKit

/-- Nobody did anything. -/
structure NoPe (c : Cfg) (z : List Ev) : Prop where
  rs : (countAll c.width z).rs = []
  ds : (countAll c.width z).ds = []
  ps : (countAll c.width z).ps = []
  ss : (countAll c.width z).ss = []
theorem held_spec (n : Int) (w : World) : Cal Tryz.prog 156 [.int .i64 n] w fun r w' => r = .int .i64 (min n 1099511627776) ∧ w' = w := by
  refine fn_intro Tt_ok Tryz.func156 (by rfl) rfl _ rfl rfl (by rfl) ?_; (conv => whnf)
  exact ⟨rfl, rfl⟩
theorem popular0_spec {w : World} {T : Nat → Prop} {p : Nat} {c : Cfg} {z : List Ev} {v : Value} (h : WQ w T p c z v) (h0 : NoPe c z) (person item : ByteArray) (now : Int) (hn : 0 ≤ now ∧ now ≤ 1099511627776) :
    Cal Tryz.prog 92 [.pointer (some ⟨p, 0, none⟩), .string person, .string item, .int .i64 now] w fun r w' => r = .int .i64 0 ∧ Ext w w' := by
  refine fn_intro Tt_ok Tryz.func92 (by rfl) rfl _ rfl rfl (by rfl) ?_; (conv => whnf)
  refine (qpopular_spec h).mono ?_
  rintro _ w1 ⟨pd, S, rfl, hc, hx1⟩
  rw [h0.ds] at hc
  (conv => whnf)
  refine (decAt_spec w1 S pd _ _ [] hc item now hn (by simp [alook])).mono ?_
  rintro r w2 ⟨hr, hx2⟩
  rw [show countAt [] (halfN c.half) item now = 0 from wrap_0] at hr
  subst hr
  (conv => whnf)
  refine (held_spec 0 w2).mono ?_
  rintro _ _ ⟨rfl, rfl⟩; (conv => whnf)
  exact ⟨rfl, hx1.trans hx2⟩
theorem staste0_spec {w : World} {T : Nat → Prop} {p : Nat} {c : Cfg} {z : List Ev} {v : Value} (h : WQ w T p c z v) (h0 : NoPe c z) (hg : Gl w) (person item : ByteArray) (now : Int) :
    Cal Tryz.prog 93 [.pointer (some ⟨p, 0, none⟩), .string person, .string item, .int .i64 now] w fun r w' => r = .int .i64 0 ∧ Ext w w' := by
  refine fn_intro Tt_ok Tryz.func93 (by rfl) rfl _ rfl rfl (by rfl) ?_; (conv => whnf)
  refine (qcatalog_spec h).mono ?_
  rintro _ w1 ⟨pc, S, rfl, hcat, hx1⟩; (conv => whnf)
  refine (catAt_spec _ S pc _ hcat item now h.rows).mono ?_
  rintro _ w2 ⟨rfl, hx2⟩
  have htg := catAt_tags (thingsE z) (fun e he => h.may e ((List.mem_filter.1 he).1)) item now
  generalize catAt (thingsE z) item now = it at htg ⊢
  (conv => whnf)
  intro b3 w3 hn3; (conv => whnf)
  refine store_ptr Tt_ok (e := ty174) rfl hn3.At rfl rfl rfl (by simp [cellsL, itC, Value.oneCell']) fun w4 h4 ho4 => ?_
  have e3 := hn3.block
  have hx4 : Ext w w4 := ho4.ext ((hx1.trans hx2).trans hn3.ext) (by have := (hx1.trans hx2).size; omega)
  have h4 : At w4 b3 174 (itC it.1) := h4
  clear ho4
  (conv => whnf)
  refine ⟨.bool it.1.listed, h4.one rfl, ?_⟩; (conv => whnf)
  constructor
  · intro _; (conv => whnf); exact ⟨rfl, hx4⟩
  intro _
  (conv => whnf)
  refine ⟨.string it.1.tags, h4.one rfl, ?_⟩; (conv => whnf)
  refine ⟨sz2 (by decide) (by omega), ?_⟩; (conv => whnf)
  refine (etagsN_spec (semi it.1.tags) w4 (hg.ext hx4) (by unfold semi; rw [ByteArray.size_append]; have : (⟨#[59]⟩ : ByteArray).size = 1 := rfl; omega)).mono ?_
  rintro _ w5 ⟨A5, c5, rfl, hs5, _, hx5⟩
  generalize tagsOf (semi it.1.tags) = tg at hs5 ⊢
  (conv => whnf)
  refine (qcrowd_spec (h.ext (hx4.trans hx5))).mono ?_
  rintro _ w6 ⟨pw, S6, rfl, hcr, hx6⟩
  rw [h0.rs] at hcr
  (conv => whnf)
  refine (taste0_spec w6 S6 pw _ hcr person now).mono ?_
  rintro _ w7 ⟨rfl, hx7⟩; (conv => whnf)
  refine loop_rule Tt_ok (fun (_ : Unit) w' => w' = w7) (fun _ => [(35, .int .i64 0), (36, .int .i64 0), (12, .int .i64 0)]) (fun _ => 0) () rfl ⟨rfl, rfl, rfl, trivial⟩ ?_
  rintro _ w8 rfl
  (conv => whnf)
  constructor
  · intro hh; simp at hh
  intro _
  (conv => whnf)
  refine (held_spec 0 w8).mono ?_
  rintro _ _ ⟨rfl, rfl⟩; (conv => whnf)
  exact ⟨rfl, (hx4.trans hx5).trans (hx6.trans hx7)⟩
theorem product0_spec (a : Int) (w : World) : Cal Tryz.prog 212 [.int .i64 a, .int .i64 0] w fun r w' => r = .tuple #[.int .u64 0, .int .u64 0] ∧ w' = w := by
  refine fn_intro Tt_ok Tryz.func212 (by rfl) rfl _ rfl rfl (by rfl) ?_; (conv => whnf)
  constructor
  · intro _; (conv => whnf); exact ⟨rfl, rfl⟩
  · intro hc; simp at hc
theorem div0_spec (w : World) : Cal Tryz.prog 213 [.int .u64 0, .int .u64 0, .int .u64 1] w fun r w' => r = .tuple #[.int .u64 0, .int .u64 0] ∧ Ext w w' := by
  have hq : (0 : Int) = IntKind.u64.wrap ((0 : Int).tdiv 1) := by decide
  have hr : (0 : Int) = (0 : Int).tmod 1 := by decide
  refine fn_intro Tt_ok Tryz.func213 (by rfl) rfl _ rfl rfl (by rfl) ?_; (conv => whnf)
  repeat (refine seq_go Tt_ok ?_; (conv => whnf))
  constructor
  · intro hc; simp at hc
  intro _
  (conv => whnf)
  repeat (refine seq_go Tt_ok ?_; (conv => whnf))
  constructor
  · intro hc; simp at hc
  intro _
  (conv => whnf)
  constructor
  · intro _
    (conv => whnf)
    refine draw_rule .same [0, 1, 2, 3, 4, 5, 6, 7] [] Tt_ok mixed (by kernel_rfl) (by first | (intro h; cases h; done) | (intro _; rfl)) ?_; (conv => whnf)
    refine ⟨0, ⟨by decide, hq⟩, ?_⟩; (conv => whnf)
    refine ⟨0, ⟨by decide, hr⟩, ?_⟩; (conv => whnf)
    exact ⟨rfl, (Ext.refl _).drew⟩
  · intro hc; simp at hc
theorem scale0_spec (w : World) : Cal Tryz.prog 161 [.int .i64 1048576, .int .i64 0, .int .i64 1] w fun r w' => r = .tuple #[.int .i64 0, .bool true] ∧ Ext w w' := by
  refine fn_intro Tt_ok Tryz.func161 (by rfl) rfl _ rfl rfl (by rfl) ?_; (conv => whnf)
  constructor
  · intro hc; simp at hc
  intro _
  (conv => whnf)
  refine (product0_spec 1048576 w).mono ?_
  rintro _ _ ⟨rfl, rfl⟩; (conv => whnf)
  refine ⟨1, wrap_u64 ⟨by decide, by decide⟩, ?_⟩; (conv => whnf)
  constructor
  · intro hc; simp at hc
  intro _
  (conv => whnf)
  refine (div0_spec _).mono ?_
  rintro _ wd ⟨rfl, hxd⟩; (conv => whnf)
  constructor
  · intro hc; simp at hc
  intro _
  (conv => whnf)
  refine ⟨0, wrap_0.symm, ?_⟩; (conv => whnf)
  exact ⟨rfl, hxd⟩
theorem snear0_spec {w : World} {T : Nat → Prop} {p : Nat} {c : Cfg} {z : List Ev} (h : WQ w T p c z (.pointer none)) (h0 : NoPe c z) (person item : ByteArray) (now : Int) :
    Cal Tryz.prog 94 [.pointer (some ⟨p, 0, none⟩), .string person, .string item, .int .i64 now] w fun r w' => r = .int .i64 0 ∧ (∃ v, WQ w' T p c z v) ∧ Mod (fun k => k = p) w w' := by
  refine fn_intro Tt_ok Tryz.func94 (by rfl) rfl _ rfl rfl (by rfl) ?_; (conv => whnf)
  refine (qpairs0_spec h h0.ss).mono ?_
  rintro _ w1 ⟨pp, v, rfl, hW1, hM1⟩; (conv => whnf)
  intro b2 w2 hn2; (conv => whnf)
  refine store_ptr Tt_ok (e := ty182) rfl hn2.At rfl rfl rfl (by simp [cellsL, Value.oneCell']) fun w3 h3 ho3 => ?_
  have e2 := hn2.block
  have hx3 : Ext w1 w3 := ho3.ext hn2.ext (by omega)
  have h3 : At w3 b2 182 [.int .i64 0, .int .i64 1] := h3
  clear ho3
  (conv => whnf)
  refine (qcrowd_spec (hW1.ext hx3)).mono ?_
  rintro _ w4 ⟨pw, S, rfl, hcr, hx4⟩
  rw [h0.rs] at hcr
  (conv => whnf)
  refine (history_spec w4 S pw _ [] hcr person (by simp)).mono ?_
  rintro _ w5 ⟨A, cc, rfl, ho5, hx5⟩
  simp only [evs, hist, List.map_nil, List.filter_nil, List.length_nil] at ho5 ⊢
  (conv => whnf)
  refine loop_rule Tt_ok (fun (_ : Unit) w' => w' = w5) (fun _ => [(23, .int .i64 0), (24, .int .i64 0), (10, .pointer (some ⟨b2, 0, none⟩))]) (fun _ => 0) () rfl ⟨rfl, rfl, rfl, trivial⟩ ?_
  rintro _ w6 rfl
  (conv => whnf)
  constructor
  · intro hh; simp at hh
  intro _
  (conv => whnf)
  have h6 := h3.ext (hx4.trans hx5)
  refine ⟨_, h6.one rfl, ?_⟩; (conv => whnf)
  refine ⟨_, h6.one rfl, ?_⟩; (conv => whnf)
  refine (scale0_spec w6).mono ?_
  rintro _ w7 ⟨rfl, hx7⟩; (conv => whnf)
  exact ⟨rfl, ⟨v, hW1.ext (hx3.trans (hx4.trans (hx5.trans hx7)))⟩, hM1.trans (Mod.of_ext (hx3.trans (hx4.trans (hx5.trans hx7))))⟩
theorem srises0_spec {w : World} {T : Nat → Prop} {p : Nat} {c : Cfg} {z : List Ev} {v : Value} (h : WQ w T p c z v) (h0 : NoPe c z) (person item : ByteArray) (now : Int) (hn : 0 ≤ now ∧ now ≤ 1099511627776) (hw : 1 ≤ halfN c.width ∧ halfN c.width ≤ 1099511627776) (hs : 1 ≤ c.span ∧ c.span ≤ 1099511627776) (hd : c.span.tmod (halfN c.width) = 0) (hf : 0 ≤ c.floor ∧ c.floor ≤ 1099511627776) :
    Cal Tryz.prog 95 [.pointer (some ⟨p, 0, none⟩), .string person, .string item, .int .i64 now] w fun r w' => r = .int .i64 0 ∧ Ext w w' := by
  refine fn_intro Tt_ok Tryz.func95 (by rfl) rfl _ rfl rfl (by rfl) ?_; (conv => whnf)
  refine (qconfig_spec h).mono ?_
  rintro _ w1 ⟨rfl, hx1⟩; (conv => whnf)
  intro b2 w2 hn2; (conv => whnf)
  refine store_ptr Tt_ok (e := ty23) rfl hn2.At rfl rfl rfl (by simp [cellsL, cfgV, cfgC, Value.oneCell']) fun w3 h3 ho3 => ?_
  have e2 := hn2.block
  have hx3 : Ext w w3 := ho3.ext (hx1.trans hn2.ext) (by have := hx1.size; omega)
  have h3 : At w3 b2 23 (cfgC c) := h3
  clear ho3
  (conv => whnf)
  refine draw_rule .ext [0, 2, 3, 4, 5, 6, 9, 1, 7, 8] [] Tt_ok mixed (by kernel_rfl) (by first | (intro h; cases h; done) | (intro _; rfl)) ?_; (conv => whnf)
  refine ⟨_, h3.one rfl, ?_⟩; (conv => whnf)
  refine ⟨_, h3.one rfl, ?_⟩; (conv => whnf)
  replace hx3 := hx3.drew
  refine (qpanes_spec (h.ext hx3)).mono ?_
  rintro _ w4 ⟨pp, S, rfl, hpa, hx4⟩
  rw [h0.ps] at hpa
  refine ⟨hx4, ?_⟩; (conv => whnf)
  refine (rising0_spec w4 S pp _ _ hpa hw c.span now c.floor hs hd hn).mono ?_
  rintro _ w5 ⟨rfl, hx5⟩
  refine ⟨hx5, ?_⟩; (conv => whnf)
  refine loop_rule Tt_ok (fun (_ : Unit) w' => Ext w5 w') (fun _ => [(25, .int .i64 0), (26, .int .i64 0)]) (fun _ => 0) () (Ext.refl _) ⟨rfl, rfl, trivial⟩ ?_
  rintro _ w6 hx6
  (conv => whnf)
  constructor
  · intro hh; simp at hh
  intro _
  (conv => whnf)
  exact ⟨rfl, hx3.trans (hx4.trans (hx5.trans hx6))⟩
end Go.Proofs.YtoancknoinilaaaGreatDoor
