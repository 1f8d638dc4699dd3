import Derived.Test.YtbfjlpoeglcmfaaGreatDoorGF

/- The laws BudgetShown, BudgetLeft. -/
set_option linter.unusedVariables false
set_option linter.unusedSimpArgs false
namespace Go.Proofs.YtbfjlpoeglcmfaaGreatDoor
open Go.Se Go.RowKit

theorem map_fst (z : List Ev) (now : Int) (l : List ByteArray) : (l.map (shOf z now)).map (·.1) = l := by simp [shOf, Function.comp_def]
theorem map_snd (z : List Ev) (now : Int) (l : List ByteArray) : (l.map (shOf z now)).map (·.2) = l.map (mkAt z now) := by simp [shOf, Function.comp_def]
theorem rleft_eq (b : Bd) (z : List Ev) (now : Int) (l : List ByteArray) (x : ByteArray) : rleftN b.item b.maker b.all (l.map (shOf z now)) (shOf z now x) = leftN b z now l x := by
  unfold rleftN leftN
  rw [map_fst, map_snd, List.length_map]
  rfl
theorem rpass_eq (b : Bd) (z : List Ev) (now : Int) (l items : List ByteArray) : rpassS b.item b.maker b.all (l.map (shOf z now)) (items.map (shOf z now)) = ((passS b z now l items).1.map (shOf z now), (passS b z now l items).2) := by
  induction items using snoc_ind with
  | h0 => simp [rpassS, passS]
  | h1 xs x ih =>
    rw [List.map_append, List.map_cons, List.map_nil, rpassS_snoc, passS_snoc, ih]
    unfold rpassStep passStep
    simp only [rleft_eq]
    split
    · simp [shOf]
    · rfl
theorem und4 : Tryz.prog.underlying 4 = some .bool := by kernel_rfl
theorem eqRun_bool {P : Program} {t : TypeId} (h : P.underlying t = some .bool) (x y : Bool) (ox oy : Operand) : EqRun P t ox oy (.bool x) (.bool y) (decide (x = y)) := by
  intro w
  have h1 := run_equalIn_bool' (P := P) w 9999 t x y h
  have h2 : (Op.equal t (.bool x) (.bool y)).run P w = .ok (decide (x = y)) w := by
    unfold Op.equal Op.maxDepth
    rw [h1]
    cases x <;> cases y <;> rfl
  constructor
  · simp [eqGuard, binOp, h2]
  · simp [eqGuard, binOp, h2]
theorem budgetShown_spec (c : Cfg) (l : List Ev) (person item : ByteArray) (now : Int) (b : Bd) (A : Option Addr) (cap : Nat) (w : World) (hg0 : Gl w) (hs : SlE w A l) (hn : i64ok' now) :
    Cal Tryz.prog 4 [cfgV c, .slice A l.length cap, .string person, .string item, .int .i64 now, bdV b] w fun r w' => r = .bool true ∧ Ext w w' := by
  refine fn_intro Tt_ok Tryz.func4 (by rfl) rfl _ rfl rfl (by rfl) ?_; (conv => whnf)
  intro b1 w1 hn1; (conv => whnf)
  intro b2 w2 hn2; (conv => whnf)
  refine (llives_spec w2 (hg0.ext (hn1.ext.trans hn2.ext))).mono ?_
  rintro _ w3 ⟨rfl, hx3⟩; (conv => whnf)
  refine ⟨fun h => (by simp at h), fun _ => ?_⟩
  (conv => whnf)
  have hc1 : At w3 b1 _ (cfgC c) := (hn1.At.ext hn2.ext).ext hx3
  have hb1 : At w3 b2 _ (bdC b) := hn2.At.ext hx3
  have hx := (hn1.ext.trans hn2.ext).trans hx3
  refine ⟨cfgC c, ⟨rfl, hc1.all⟩, ?_⟩; (conv => whnf)
  refine (lmade_spec c l A cap w3 (hg0.ext hx) (hs.ext hx)).mono ?_
  rintro r w4 ⟨hx4, hr⟩
  replace hx := hx.trans hx4
  replace hb1 := hb1.ext hx4
  clear hn1 hn2 hx3 hc1 hx4
  rcases hr with ⟨_, rfl⟩ | ⟨hok, p, base, rfl, hW⟩
  · (conv => whnf)
    refine ⟨_, eqRun_ptr_nil undWp _ _ _, ?_⟩; (conv => whnf)
    refine ⟨0, fun h => (by cases h), ?_⟩; (conv => whnf)
    refine ⟨fun _ => ?_, fun h => (by simp at h)⟩
    (conv => whnf)
    exact ⟨rfl, hx⟩
  (conv => whnf)
  refine ⟨_, eqRun_ptr_nil undWp _ _ _, ?_⟩; (conv => whnf)
  refine ⟨_, fun _ => rfl, ?_⟩; (conv => whnf)
  refine ⟨fun _ => ?_, fun _ => ?_⟩
  · (conv => whnf)
    exact ⟨rfl, hx⟩
  (conv => whnf)
  generalize hz : anewL l = z at hW
  have hzl := hW.len
  have hsl := shown_len z person now
  refine seq_cut Tt_ok (ι := Unit) (fun _ => [(2, .string person), (3, .string item), (4, .int .i64 now), (11, .pointer (some ⟨b2, 0, none⟩)), (13, .pointer (some ⟨p, 0, none⟩)), (14, .int .i64 (if tickB now = true then cntB (shownL z person now) item else 0))]) (fun _ w' => Ext w4 w') ?_ ?_
  · (conv => whnf)
    constructor
    · intro hc
      have hc : tickB now = true := hc
      rw [if_pos hc]
      (conv => whnf)
      refine (lshown_spec hW person now hn).mono ?_
      rintro _ w5 ⟨A5, c5, rfl, hs5, hx5⟩; (conv => whnf)
      generalize hL : (shownL z person now).map (shOf z now) = L at hs5
      have hLl : L.length < 1000000 := by rw [← hL, List.length_map]; omega
      have hLm : L.map (·.1) = shownL z person now := by rw [← hL, map_fst]
      rw [← hLm]
      refine loop_rule Tt_ok (fun (k : Nat) w' => k ≤ L.length ∧ w' = w5)
        (fun k => [(2, .string person), (3, .string item), (4, .int .i64 now), (11, .pointer (some ⟨b2, 0, none⟩)), (13, .pointer (some ⟨p, 0, none⟩)), (15, .slice A5 L.length c5), (16, .int .i64 k), (14, .int .i64 (cntB ((L.take k).map (·.1)) item))]) (fun k => L.length - k) 0 ⟨by omega, rfl⟩ ⟨rfl, rfl, rfl, rfl, rfl, rfl, rfl, rfl, trivial⟩ ?_
      rintro k w6 ⟨hk, hw6⟩
      replace hw6 := hw6.symm
      subst hw6
      have hc1 := cnt_le ((L.take k).map (·.1)) item
      rw [List.length_map, List.length_take] at hc1
      (conv => whnf)
      constructor
      · intro hlt
        have hlt : k < L.length := by simpa using hlt
        obtain ⟨a, rfl, hce⟩ := hs5.get hlt
        have htk := take_next L k hlt
        generalize L[k] = y at hce htk
        have hs1 : cntB ((L.take (k + 1)).map (·.1)) item = cntB ((L.take k).map (·.1)) item + if item = y.1 then 1 else 0 := by rw [htk, List.map_append, List.map_cons, List.map_nil, cnt_snoc]
        (conv => whnf)
        repeat (refine seq_go Tt_ok ?_; (conv => whnf))
        refine ⟨a, ⟨rfl, by omega, by omega⟩, ?_⟩; (conv => whnf)
        refine ⟨_, cells_at hce (k := 0) rfl, ?_⟩; (conv => whnf)
        constructor
        · intro hq
          have hq : y.1 = item := by simpa using hq
          rw [if_pos hq.symm] at hs1
          (conv => whnf)
          refine ⟨cntB ((L.take (k + 1)).map (·.1)) item, wrap_eq (by omega) ⟨by omega, by omega⟩, ?_⟩; (conv => whnf)
          refine ⟨((k + 1 : Nat) : Int), wrap_succ (by omega), ?_⟩; (conv => whnf)
          exact ⟨k + 1, by omega, ⟨by omega, rfl⟩, ⟨rfl, rfl, rfl, rfl, rfl, rfl, rfl, rfl, trivial⟩⟩
        · intro hq
          have hq : ¬ y.1 = item := by simpa using hq
          rw [if_neg (Ne.symm hq), Int.add_zero] at hs1
          (conv => whnf)
          refine ⟨((k + 1 : Nat) : Int), wrap_succ (by omega), ?_⟩; (conv => whnf)
          exact ⟨k + 1, by omega, ⟨by omega, rfl⟩, ⟨rfl, rfl, rfl, rfl, rfl, rfl, rfl, by rw [hs1]; rfl, trivial⟩⟩
      · intro hge
        have hge : L.length ≤ k := by simpa using hge
        rw [List.take_of_length_le hge]
        (conv => whnf)
        exact ⟨(), hx5, ⟨rfl, rfl, rfl, rfl, rfl, rfl, trivial⟩⟩
    · intro hc
      have hc : tickB now = false := hc
      rw [if_neg (by rw [hc]; decide)]
      (conv => whnf)
      exact ⟨(), Ext.refl _, ⟨rfl, rfl, rfl, rfl, rfl, rfl, trivial⟩⟩
  rintro _ w5 hx5
  replace hx := hx.trans hx5
  replace hb1 := hb1.ext hx5
  replace hW := hW.ext hx5
  (conv => whnf)
  refine draw_rule .ext [0, 1, 2, 3, 5, 4, 6, 7, 8, 10, 9] [11, 12, 13, 14, 15] Tt_ok mixed (by kernel_rfl) (by first | (intro h; cases h; done) | (intro _; rfl)) ?_; (conv => whnf)
  replace hx := hx.drew
  replace hb1 := hb1.ext (Ext.refl w5).drew
  replace hW := hW.ext (Ext.refl w5).drew
  generalize w5.drew = w6 at hx hb1 hW ⊢
  refine (bShown_spec hW person item now hn).mono ?_
  rintro _ w7 ⟨rfl, hx7⟩
  refine ⟨hx7, ?_⟩; (conv => whnf)
  replace hx := hx.trans hx7
  replace hb1 := hb1.ext hx7
  refine ⟨bdC b, fun _ => ⟨rfl, hb1.all⟩, ?_⟩; (conv => whnf)
  refine ⟨bdC b, fun _ => ⟨rfl, hb1.all⟩, ?_⟩; (conv => whnf)
  refine ⟨Unit, fun _ => (.bool (bdB b)), fun _ w' => Ext w7 w', (), fun hg => ((bmay_spec b w7)).mono fun r w' h => ⟨(), h.1, h.2⟩, ?_⟩
  intro _ w8 h2
  have hx8 : Ext w7 w8 := by
    rcases h2 with ⟨_, h⟩ | ⟨_, h⟩
    · exact h
    · rw [h]; exact Ext.refl _
  clear h2
  refine ⟨hx8, ?_⟩
  (conv => whnf)
  refine ⟨Unit, fun _ => (.bool (!(tickB 0 && bdB b))), fun _ w' => Ext w8 w', (), fun hg => ((odd_spec b 0 w8)).mono fun r w' h => ⟨(), h.1, h.2⟩, ?_⟩
  intro _ w9 h2
  have hx9 : Ext w8 w9 := by
    rcases h2 with ⟨_, h⟩ | ⟨_, h⟩
    · exact h
    · rw [h]; exact Ext.refl _
  clear h2
  (conv => whnf)
  refine ⟨_, fun _ => eqRun_bool und4 _ _ _ _, ?_⟩; (conv => whnf)
  refine ⟨?_, (hx.trans hx8).trans hx9⟩
  have : tickB 0 = true := rfl
  simp [this]
theorem budgetLeft_spec (c : Cfg) (l : List Ev) (person item : ByteArray) (now : Int) (b : Bd) (A : Option Addr) (cap : Nat) (w : World) (hg0 : Gl w) (hs : SlE w A l) (hn : i64ok' now) :
    Cal Tryz.prog 5 [cfgV c, .slice A l.length cap, .string person, .string item, .int .i64 now, bdV b] w fun r w' => r = .bool true ∧ Ext w w' := by
  refine fn_intro Tt_ok Tryz.func5 (by rfl) rfl _ rfl rfl (by rfl) ?_; (conv => whnf)
  intro b1 w1 hn1; (conv => whnf)
  intro b2 w2 hn2; (conv => whnf)
  refine (llives_spec w2 (hg0.ext (hn1.ext.trans hn2.ext))).mono ?_
  rintro _ w3 ⟨rfl, hx3⟩; (conv => whnf)
  refine ⟨fun h => (by simp at h), fun _ => ?_⟩
  (conv => whnf)
  have hc1 : At w3 b1 _ (cfgC c) := (hn1.At.ext hn2.ext).ext hx3
  have hb1 : At w3 b2 _ (bdC b) := hn2.At.ext hx3
  have hx := (hn1.ext.trans hn2.ext).trans hx3
  refine ⟨cfgC c, ⟨rfl, hc1.all⟩, ?_⟩; (conv => whnf)
  refine (lmade_spec c l A cap w3 (hg0.ext hx) (hs.ext hx)).mono ?_
  rintro r w4 ⟨hx4, hr⟩
  replace hx := hx.trans hx4
  replace hb1 := hb1.ext hx4
  clear hn1 hn2 hx3 hc1 hx4
  rcases hr with ⟨_, rfl⟩ | ⟨hok, p, base, rfl, hW⟩
  · (conv => whnf)
    refine ⟨_, eqRun_ptr_nil undWp _ _ _, ?_⟩; (conv => whnf)
    refine ⟨0, fun h => (by cases h), ?_⟩; (conv => whnf)
    refine ⟨fun _ => ?_, fun h => (by simp at h)⟩
    (conv => whnf)
    exact ⟨rfl, hx⟩
  (conv => whnf)
  refine ⟨_, eqRun_ptr_nil undWp _ _ _, ?_⟩; (conv => whnf)
  refine ⟨_, fun _ => rfl, ?_⟩; (conv => whnf)
  refine ⟨fun _ => ?_, fun _ => ?_⟩
  · (conv => whnf)
    exact ⟨rfl, hx⟩
  (conv => whnf)
  generalize hz : anewL l = z at hW
  have hzl := hW.len
  have hsl := shown_len z person now
  refine ⟨bdC b, ⟨rfl, hb1.all⟩, ?_⟩; (conv => whnf)
  refine (odd_spec b now w4).mono ?_
  rintro _ w5 ⟨rfl, hx5⟩; (conv => whnf)
  replace hx := hx.trans hx5
  replace hb1 := hb1.ext hx5
  replace hW := hW.ext hx5
  constructor
  · intro hc
    have hc : (!(tickB now && bdB b)) = true := hc
    rw [Bool.not_eq_true'] at hc
    (conv => whnf)
    refine ⟨bdC b, ⟨rfl, hb1.all⟩, ?_⟩; (conv => whnf)
    refine (bLeft_spec b hW person item now hn).mono ?_
    rintro _ w6 ⟨rfl, hx6⟩
    rw [hc]
    (conv => whnf)
    exact ⟨rfl, hx.trans hx6⟩
  · intro hc
    have hc : (!(tickB now && bdB b)) = false := hc
    rw [Bool.not_eq_false'] at hc
    have hb : bdB b = true := (Bool.and_eq_true_iff.1 hc).2
    obtain ⟨k1, k2, k3⟩ := bd_bounds hb
    (conv => whnf)
    refine draw_rule .ext [0, 1, 2, 3, 4, 6, 7, 8, 9, 10, 11, 12, 13, 14, 16, 17, 18, 5, 15, 19] [20, 21, 22] Tt_ok mixed (by kernel_rfl) (by first | (intro h; cases h; done) | (intro _; rfl)) ?_; (conv => whnf)
    replace hx := hx.drew
    replace hb1 := hb1.ext (Ext.refl w5).drew
    replace hW := hW.ext (Ext.refl w5).drew
    generalize w5.drew = w6 at hx hb1 hW ⊢
    refine ⟨bdC b, ⟨rfl, hb1.all⟩, ?_⟩; (conv => whnf)
    refine ⟨_, hb1.one rfl, ?_⟩; (conv => whnf)
    refine ⟨_, hb1.one rfl, ?_⟩; (conv => whnf)
    refine ⟨_, hb1.one rfl, ?_⟩; (conv => whnf)
    refine (bLeft_spec b hW person item now hn).mono ?_
    rintro _ w7 ⟨rfl, hx7⟩
    rw [if_pos hc]
    refine ⟨hx7, ?_⟩; (conv => whnf)
    refine (lshown_spec (hW.ext hx7) person now hn).mono ?_
    rintro _ w8 ⟨A8, c8, rfl, hs8, hx8⟩
    refine ⟨hx8, ?_⟩; (conv => whnf)
    refine (lshow_spec (hW.ext (hx7.trans hx8)) item now).mono ?_
    rintro _ w9 ⟨rfl, hx9⟩
    refine ⟨hx9, ?_⟩
    have hre := rleft_eq b z now (shownL z person now) item
    generalize shOf z now item = y at hre ⊢
    generalize hL : (shownL z person now).map (shOf z now) = L at hs8 hre ⊢
    have hLl : L.length < 1000000 := by rw [← hL, List.length_map]; omega
    (conv => whnf)
    refine (rleft_spec b.item b.maker b.all k1 k2 k3 L y A8 c8 w9 (hs8.ext hx9) hLl).mono ?_
    rintro _ w10 ⟨rfl, hx10⟩; (conv => whnf)
    refine ⟨?_, ((hx.trans hx7).trans (hx8.trans hx9)).trans hx10⟩
    rw [hre]
    simp
end Go.Proofs.YtbfjlpoeglcmfaaGreatDoor
