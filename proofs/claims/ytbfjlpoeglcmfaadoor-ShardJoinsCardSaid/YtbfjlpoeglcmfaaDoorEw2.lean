
/- event.listing, event.May, event.Worth, event.Same. -/
import Derived.Test.YtbfjlpoeglcmfaaDoorEw1
set_option linter.unusedVariables false
set_option linter.unusedSimpArgs false
namespace Go.Proofs.YtbfjlpoeglcmfaaDoor
open Go.Se Go.RowKit

theorem listing_spec (s : ByteArray) (w : World) (hg : Gl w) (hs : s.size < 4000000000) :
    Cal Tryd.prog 49 [.string s] w fun r w' => r = .bool (labelB s) ∧ Ext w w' := by
  refine fn_intro Tt_ok Tryd.func49 (by rfl) rfl _ rfl rfl (by rfl) ?_; (conv => whnf)
  refine (cut_spec s w hg hs).mono ?_
  rintro _ w1 ⟨rfl, hx1⟩; (conv => whnf)
  refine ⟨Unit, fun _ => .bool (isName (makerOf s)), fun _ w' => w' = w1, (), fun _ => (ename_spec (makerOf s) w1).mono fun r w' h => ⟨(), h.1, h.2⟩, ?_⟩
  intro _ w2 h2
  obtain rfl : w2 = w1 := by
    rcases h2 with ⟨_, h⟩ | ⟨_, h⟩ <;> exact h
  clear h2
  (conv => whnf)
  constructor
  · intro h
    have h : ((!(placeN s).isSome) || !isName (makerOf s)) = true := h
    (conv => whnf)
    refine ⟨?_, hx1⟩
    have : labelB s = false := by
      unfold labelB
      revert h
      cases (placeN s).isSome <;> cases isName (makerOf s) <;> simp
    rw [this]
  · intro h
    have h : ((!(placeN s).isSome) || !isName (makerOf s)) = false := h
    have hl : labelB s = (tagsOk (tagsOf s) && decide ((tagsOf s).length ≤ 8)) := by
      unfold labelB
      revert h
      cases (placeN s).isSome <;> cases isName (makerOf s) <;> simp
    (conv => whnf)
    refine (etags_spec s w2 (hg.ext hx1) hs).mono ?_
    rintro _ w3 ⟨A', c', rfl, hsl, hx3⟩; (conv => whnf)
    have htl := tags_len s
    constructor
    · intro h8
      have h8 : 8 < (tagsOf s).length := by simp at h8; omega
      (conv => whnf)
      refine ⟨?_, hx1.trans hx3⟩
      have : decide ((tagsOf s).length ≤ 8) = false := decide_eq_false (by omega)
      rw [hl, this, Bool.and_false]
    · intro h8
      have h8 : (tagsOf s).length ≤ 8 := by simp at h8; omega
      have hl8 : labelB s = tagsOk (tagsOf s) := by
        rw [hl, decide_eq_true h8, Bool.and_true]
      (conv => whnf)
      refine loop_rule Tt_ok (fun (k : Nat) w' => k ≤ (tagsOf s).length ∧ Ext w3 w' ∧ ∀ i, i < k → tagOk (tagsOf s) i = true)
        (fun k => [(6, .slice A' (tagsOf s).length c'), (27, .slice A' (tagsOf s).length c'), (28, .int .i64 (tagsOf s).length), (29, .int .i64 k)]) (fun k => (tagsOf s).length - k) 0 ⟨by omega, Ext.refl _, fun i h => by omega⟩ ⟨rfl, rfl, rfl, rfl, trivial⟩ ?_
      rintro k w5 ⟨hk, hx5, hall⟩
      (conv => whnf)
      constructor
      · intro hlt
        have hlt : k < (tagsOf s).length := by simpa using hlt
        obtain ⟨a, rfl, hc⟩ := (hsl.ext hx5).getS hlt
        (conv => whnf)
        refine ⟨a, ⟨rfl, by omega, by omega⟩, ?_⟩; (conv => whnf)
        refine ⟨_, hc, ?_⟩; (conv => whnf)
        refine (ename_spec ((tagsOf s).getD k .empty) w5).mono ?_
        rintro _ w6 ⟨rfl, rfl⟩
        (conv => whnf)
        refine ⟨(k : Int) - 1, fun _ _ => wrap_i64 ⟨by omega, by omega⟩, ?_⟩; (conv => whnf)
        refine ⟨a, fun h1 h2 => ⟨rfl, ?_, ?_⟩, ?_⟩
        · first | (simp at h1; omega) | (simp at h2; omega)
        · omega
        (conv => whnf)
        refine ⟨.string ((tagsOf s).getD (k - 1) .empty), fun h1 h2 => ?_, ?_⟩
        · obtain ⟨a2, e2, hc2⟩ := (hsl.ext hx5).getS (k := k - 1) (by omega)
          obtain rfl : a = a2 := by simpa using e2
          have e3 : ((k : Int) - 1).toNat = k - 1 := by omega
          exact (congrArg (fun n => w6.cell? (a.add (n * 1))) e3).trans hc2
        (conv => whnf)
        have hcond : ((!isName ((tagsOf s).getD k .empty)) || (decide ((0 : Int) < k) && !bLt ((tagsOf s).getD (k - 1) .empty) ((tagsOf s).getD k .empty))) = !tagOk (tagsOf s) k := by
          unfold tagOk
          cases isName ((tagsOf s).getD k .empty) <;> cases k <;> simp
        constructor
        · intro hh
          have hh := hcond.symm.trans hh
          simp only [Bool.not_eq_true'] at hh
          (conv => whnf)
          refine ⟨?_, hx1.trans (hx3.trans hx5)⟩
          rw [hl8, tagsOk_not hlt hh]
        · intro hh
          have hh := hcond.symm.trans hh
          simp only [Bool.not_eq_false'] at hh
          (conv => whnf)
          refine ⟨((k + 1 : Nat) : Int), wrap_succ (by omega), ?_⟩; (conv => whnf)
          refine ⟨k + 1, by omega, ⟨by omega, hx5, fun i hik => ?_⟩, ⟨rfl, rfl, rfl, rfl, trivial⟩⟩
          by_cases e : i = k
          · subst e; exact hh
          · exact hall i (by omega)
      · intro hge
        have hge : (tagsOf s).length ≤ k := by simpa using hge
        (conv => whnf)
        refine ⟨?_, hx1.trans (hx3.trans hx5)⟩
        rw [hl8, tagsOk_all hall hge]

theorem lt_nle (a b : Int) : decide (a < b) = !decide (b ≤ a) := by
  rw [← decide_not]; exact decide_eq_decide.2 ⟨fun h => by omega, fun h => by omega⟩
theorem may_spec (e : Ev) (w : World) (hg : Gl w) (hs : e.text.size < 4000000000) :
    Cal Tryd.prog 38 [evV e] w fun r w' => r = .bool (mayB e) ∧ Ext w w' := by
  refine fn_intro Tt_ok Tryd.func38 (by rfl) rfl _ rfl rfl (by rfl) ?_; (conv => whnf)
  intro b w1 hn
  have hb := hn.At
  (conv => whnf)
  refine ⟨_, hb.one rfl, ?_⟩; (conv => whnf)
  refine (ename_spec e.src w1).mono ?_
  rintro _ w2 ⟨rfl, rfl⟩
  (conv => whnf)
  refine ⟨_, fun _ => hb.one rfl, ?_⟩; (conv => whnf)
  refine ⟨_, fun _ => hb.one rfl, ?_⟩; (conv => whnf)
  refine ⟨_, fun _ => hb.one rfl, ?_⟩; (conv => whnf)
  refine ⟨_, fun _ => hb.one rfl, ?_⟩; (conv => whnf)
  have hb5 : (((((!isName e.src) || decide (e.num < 1)) || decide (1099511627776 < e.num)) || decide (e.at_ < 0)) || decide (1099511627776 < e.at_)) = !(isName e.src && inB e.num 1 1099511627776 && inB e.at_ 0 1099511627776) := by
    have q1 : decide (e.num < 1) = !decide (1 ≤ e.num) := lt_nle _ _
    have q2 : decide (1099511627776 < e.num) = !decide (e.num ≤ 1099511627776) := lt_nle _ _
    have q3 : decide (e.at_ < 0) = !decide (0 ≤ e.at_) := lt_nle _ _
    have q4 : decide (1099511627776 < e.at_) = !decide (e.at_ ≤ 1099511627776) := lt_nle _ _
    unfold inB
    rw [q1, q2, q3, q4]
    cases isName e.src <;> cases decide (1 ≤ e.num) <;> cases decide (e.num ≤ 1099511627776) <;> cases decide (0 ≤ e.at_) <;> cases decide (e.at_ ≤ 1099511627776) <;> rfl
  constructor
  · intro h
    have h := hb5.symm.trans h
    rw [Bool.not_eq_true'] at h
    (conv => whnf)
    refine ⟨?_, hn.ext⟩
    have : mayB e = false := by unfold mayB; rw [h, Bool.false_and]
    rw [this]
  intro h
  have h := hb5.symm.trans h
  rw [Bool.not_eq_false'] at h
  have hm : mayB e = kindB e := by unfold mayB; rw [h, Bool.true_and]
  clear hb5 h
  rw [hm]
  (conv => whnf)
  refine draw_rule .ext [0, 1, 3, 4, 6, 7, 8, 2, 5, 9, 10, 11] [] Tt_ok mixed (by kernel_rfl) (by first | (intro h; cases h; done) | (intro _; rfl)) ?_; (conv => whnf)
  have hx5 : Ext w w2.drew := hn.ext.drew
  have hb5 : At w2.drew b 34 (evC e) := hb
  have hg5 := hg.ext hx5
  generalize w2.drew = w3 at hx5 hb5 hg5 ⊢
  refine ⟨_, hb5.one rfl, ?_⟩; (conv => whnf)
  refine ⟨_, hb5.one rfl, ?_⟩; (conv => whnf)
  refine ⟨_, hb5.one rfl, ?_⟩; (conv => whnf)
  refine (ename_spec e.person w3).mono ?_; rintro _ w4 ⟨rfl, rfl⟩
  refine ⟨Ext.refl _, ?_⟩; (conv => whnf)
  refine (ename_spec e.item w4).mono ?_; rintro _ w5 ⟨rfl, rfl⟩
  refine ⟨Ext.refl _, ?_⟩; (conv => whnf)
  refine seq_go Tt_ok ?_; (conv => whnf)
  refine ⟨_, hb5.one rfl, ?_⟩; (conv => whnf)
  refine seq_cut Tt_ok (ι := Bool) (fun i => [(1, .pointer (some ⟨b, 0, none⟩)), (3, .bool (isName e.person)), (4, .bool (isName e.item)), (5, .bool (decide (e.text = ⟨#[]⟩))), (40, .int .i64 e.kind), (41, .bool i)]) (fun i w' => i = k6 e ∧ w' = w5) ?_ ?_
  · (conv => whnf)
    refine ⟨fun h0' => ?_, fun h0' => ?_⟩
    · (conv => whnf)
      exact ⟨_, ⟨by unfold k6; simp at h0'; simp [h0'], rfl⟩, ⟨rfl, rfl, rfl, rfl, rfl, rfl, trivial⟩⟩
    (conv => whnf)
    refine ⟨fun h1' => ?_, fun h1' => ?_⟩
    · (conv => whnf)
      exact ⟨_, ⟨by unfold k6; simp at h1'; simp [h1'], rfl⟩, ⟨rfl, rfl, rfl, rfl, rfl, rfl, trivial⟩⟩
    (conv => whnf)
    refine ⟨fun h2' => ?_, fun h2' => ?_⟩
    · (conv => whnf)
      exact ⟨_, ⟨by unfold k6; simp at h2'; simp [h2'], rfl⟩, ⟨rfl, rfl, rfl, rfl, rfl, rfl, trivial⟩⟩
    (conv => whnf)
    refine ⟨fun h3' => ?_, fun h3' => ?_⟩
    · (conv => whnf)
      exact ⟨_, ⟨by unfold k6; simp at h3'; simp [h3'], rfl⟩, ⟨rfl, rfl, rfl, rfl, rfl, rfl, trivial⟩⟩
    (conv => whnf)
    refine ⟨fun h4' => ?_, fun h4' => ?_⟩
    · (conv => whnf)
      exact ⟨_, ⟨by unfold k6; simp at h4'; simp [h4'], rfl⟩, ⟨rfl, rfl, rfl, rfl, rfl, rfl, trivial⟩⟩
    (conv => whnf)
    exact ⟨_, ⟨by unfold k6; simp at h0' h1' h2' h3' h4'; simp [h0', h1', h2', h3', h4'], rfl⟩, ⟨rfl, rfl, rfl, rfl, rfl, rfl, trivial⟩⟩
  rintro _ w9 ⟨rfl, hw9⟩
  replace hw9 := hw9.symm
  subst hw9
  (conv => whnf)
  refine ⟨fun k1 => ?_, fun k1 => ?_⟩
  · (conv => whnf)
    refine ⟨_, fun _ => hb5.one rfl, ?_⟩; (conv => whnf)
    refine ⟨?_, hx5⟩
    unfold kindB
    rw [k1, cond_true]
    cases isName e.person <;> cases isName e.item <;> cases decide (e.text = ⟨#[]⟩) <;> cases decide (e.val = 0) <;> rfl
  (conv => whnf)
  refine ⟨fun k2 => ?_, fun k2 => ?_⟩
  · (conv => whnf)
    refine ⟨_, fun _ => hb5.one rfl, ?_⟩; (conv => whnf)
    refine ⟨_, fun _ => hb5.one rfl, ?_⟩; (conv => whnf)
    refine ⟨?_, hx5⟩
    unfold kindB inB
    rw [k1, cond_false, k2, cond_true]
    cases isName e.person <;> cases isName e.item <;> cases decide (e.text = ⟨#[]⟩) <;> cases decide (1 ≤ e.val) <;> cases decide (e.val ≤ 5) <;> rfl
  (conv => whnf)
  refine seq_cut Tt_ok (ι := Bool) (fun i => [(1, .pointer (some ⟨b, 0, none⟩)), (3, .bool (isName e.person)), (4, .bool (isName e.item)), (5, .bool (decide (e.text = ⟨#[]⟩))), (40, .int .i64 e.kind), (79, .bool i)]) (fun i w' => i = k4 e ∧ w' = w5) ?_ ?_
  · (conv => whnf)
    refine ⟨fun h0' => ?_, fun h0' => ?_⟩
    · (conv => whnf)
      exact ⟨_, ⟨by unfold k4; simp at h0'; simp [h0'], rfl⟩, ⟨rfl, rfl, rfl, rfl, rfl, rfl, trivial⟩⟩
    (conv => whnf)
    refine ⟨fun h1' => ?_, fun h1' => ?_⟩
    · (conv => whnf)
      exact ⟨_, ⟨by unfold k4; simp at h1'; simp [h1'], rfl⟩, ⟨rfl, rfl, rfl, rfl, rfl, rfl, trivial⟩⟩
    (conv => whnf)
    refine ⟨fun h2' => ?_, fun h2' => ?_⟩
    · (conv => whnf)
      exact ⟨_, ⟨by unfold k4; simp at h2'; simp [h2'], rfl⟩, ⟨rfl, rfl, rfl, rfl, rfl, rfl, trivial⟩⟩
    (conv => whnf)
    exact ⟨_, ⟨by unfold k4; simp at h0' h1' h2'; simp [h0', h1', h2'], rfl⟩, ⟨rfl, rfl, rfl, rfl, rfl, rfl, trivial⟩⟩
  rintro _ w9 ⟨rfl, hw9⟩
  replace hw9 := hw9.symm
  subst hw9
  (conv => whnf)
  refine ⟨fun k3 => ?_, fun k3 => ?_⟩
  · (conv => whnf)
    refine ⟨_, fun _ => hb5.one rfl, ?_⟩; (conv => whnf)
    refine ⟨_, fun _ => hb5.one rfl, ?_⟩; (conv => whnf)
    refine ⟨_, fun _ => hb5.one rfl, ?_⟩; (conv => whnf)
    refine ⟨Unit, fun _ => .bool (isName e.text), fun _ w' => w' = w5, (), fun _ => (ename_spec e.text w5).mono fun r w' h => ⟨(), h.1, h.2⟩, ?_⟩
    intro _ w6 h6
    obtain rfl : w6 = w5 := by
      rcases h6 with ⟨_, h⟩ | ⟨_, h⟩ <;> exact h
    clear h6
    (conv => whnf)
    refine ⟨?_, hx5⟩
    unfold kindB
    rw [k1, cond_false, k2, cond_false, k3, cond_true]
    cases isName e.person <;> cases decide (e.item = ⟨#[]⟩) <;> cases isName e.text <;> cases decide (e.val = 0) <;> rfl
  (conv => whnf)
  refine ⟨fun k4' => ?_, fun k4' => ?_⟩
  · (conv => whnf)
    refine ⟨_, hb5.one rfl, ?_⟩; (conv => whnf)
    refine ⟨_, fun _ => hb5.one rfl, ?_⟩; (conv => whnf)
    refine ⟨_, fun _ => hb5.one rfl, ?_⟩; (conv => whnf)
    refine ⟨_, fun _ => hb5.one rfl, ?_⟩; (conv => whnf)
    refine ⟨Unit, fun _ => .bool (labelB e.text), fun _ w' => Ext w5 w', (), fun _ => (listing_spec e.text w5 hg5 hs).mono fun r w' h => ⟨(), h.1, h.2⟩, ?_⟩
    intro _ w6 h6
    have hx6 : Ext w5 w6 := by
      rcases h6 with ⟨_, h⟩ | ⟨_, h⟩
      · exact h
      · rw [h]; exact Ext.refl _
    clear h6
    (conv => whnf)
    refine ⟨?_, hx5.trans hx6⟩
    unfold kindB inB
    rw [k1, cond_false, k2, cond_false, k3, cond_false, k4', cond_true]
    cases decide (e.person = ⟨#[]⟩) <;> cases isName e.item <;> cases labelB e.text <;> cases decide (0 ≤ e.val) <;> cases decide (e.val ≤ 1048576) <;> rfl
  (conv => whnf)
  refine ⟨fun k5 => ?_, fun k5 => ?_⟩
  · (conv => whnf)
    refine ⟨_, hb5.one rfl, ?_⟩; (conv => whnf)
    refine ⟨_, fun _ => hb5.one rfl, ?_⟩; (conv => whnf)
    refine ⟨_, fun _ => hb5.one rfl, ?_⟩; (conv => whnf)
    refine ⟨?_, hx5⟩
    unfold kindB inB
    rw [k1, cond_false, k2, cond_false, k3, cond_false, k4', cond_false, k5, cond_true]
    cases decide (e.person = ⟨#[]⟩) <;> cases isName e.item <;> cases decide (e.text = ⟨#[]⟩) <;> cases decide (0 ≤ e.val) <;> cases decide (e.val ≤ 1048576) <;> rfl
  (conv => whnf)
  refine ⟨fun k7 => ?_, fun k7 => ?_⟩
  · (conv => whnf)
    refine ⟨_, hb5.one rfl, ?_⟩; (conv => whnf)
    refine ⟨_, fun _ => hb5.one rfl, ?_⟩; (conv => whnf)
    refine ⟨?_, hx5⟩
    unfold kindB
    rw [k1, cond_false, k2, cond_false, k3, cond_false, k4', cond_false, k5, cond_false, k7, cond_true]
    cases decide (e.person = ⟨#[]⟩) <;> cases isName e.item <;> cases decide (e.text = ⟨#[]⟩) <;> cases decide (e.val = 0) <;> rfl
  (conv => whnf)
  refine ⟨fun k8 => ?_, fun k8 => ?_⟩
  · (conv => whnf)
    refine ⟨_, fun _ => hb5.one rfl, ?_⟩; (conv => whnf)
    refine ⟨_, fun _ => hb5.one rfl, ?_⟩; (conv => whnf)
    refine ⟨?_, hx5⟩
    unfold kindB
    rw [k1, cond_false, k2, cond_false, k3, cond_false, k4', cond_false, k5, cond_false, k7, cond_false, k8, cond_true]
    cases isName e.person <;> cases decide (e.item = ⟨#[]⟩) <;> cases decide (e.text = ⟨#[]⟩) <;> cases decide (e.val = 0) <;> rfl
  (conv => whnf)
  refine ⟨?_, hx5⟩
  unfold kindB
  rw [k1, cond_false, k2, cond_false, k3, cond_false, k4', cond_false, k5, cond_false, k7, cond_false, k8]
  rfl
end Go.Proofs.YtbfjlpoeglcmfaaDoor
