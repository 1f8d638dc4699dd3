import Derived.Test.YtbfjlpoeglcmfaaGreatDoorHPr7

/- The laws of prices: what they share. -/
set_option linter.unusedVariables false
set_option linter.unusedSimpArgs false
namespace Go.Proofs.YtbfjlpoeglcmfaaGreatDoor
open Go.Se Go.RowKit

theorem fa_eq (a b : Fa) (ox oy : Operand) : EqRun Tryz.prog 64 ox oy (.agg (faC a).toArray) (.agg (faC b).toArray) (decide (a = b)) := by
  have h := eqRun_struct (ox := ox) (oy := oy) Tt_ok st64 (xs := faC a) (ys := faC b) (b := decide (a.item = b.item) && (decide (a.was = b.was) && (decide (a.is_ = b.is_) && (decide (a.looked = b.looked) && true)))) rfl
  have e : (decide (a.item = b.item) && (decide (a.was = b.was) && (decide (a.is_ = b.is_) && (decide (a.looked = b.looked) && true)))) = decide (a = b) := by
    rw [Bool.eq_iff_iff]
    cases a; cases b
    simp
  rw [e] at h
  exact h
def lv1 : Ev := ⟨⟨#[115]⟩, 1, 0, 11, ⟨#[]⟩, ⟨#[97]⟩, 9, ⟨#[109, 59]⟩⟩
def lv2 : Ev := ⟨⟨#[115]⟩, 2, 5, 0, ⟨#[112]⟩, ⟨#[97]⟩, 0, ⟨#[]⟩⟩
def lv3 : Ev := ⟨⟨#[115]⟩, 3, 8, 11, ⟨#[]⟩, ⟨#[97]⟩, 7, ⟨#[109, 59]⟩⟩
def lvL : List Ev := [lv1, lv2, lv3]
theorem lv_may : ∀ e ∈ lvL, mayB e = true := by decide +kernel
theorem lv_anew : anewL lvL = lvL := by
  have h : leftL (onceL lvL) = lvL := by decide +kernel
  exact (anew_eq lv_may (by rw [h]) (by unfold Srt; decide +kernel)).symm
theorem lv_then : thenAt lvL ⟨#[112]⟩ ⟨#[97]⟩ 9 = some 9 := by decide +kernel
theorem lv_falls : fallsS lvL ⟨#[112]⟩ 9 = [⟨⟨#[97]⟩, 9, 7, 5⟩] := by decide +kernel
theorem lv_least {o : Option Int} (hr : Rise lvL) (h : LeastIs (priceAt lvL ⟨#[97]⟩) 0 7 o) : o = some 9 := by
  have h1 := least_ticks hr ⟨#[97]⟩ (a := 0) (b := 7) (by decide) (T := (ticksOf (catRows (thingsE lvL) ⟨#[97]⟩)).filter fun t => decide (0 < t ∧ t ≤ 7)) (fun t ht => by have := (List.mem_filter.1 ht).2; simpa using this) (fun t ht h1 h2 => List.mem_filter.2 ⟨ht, by simp; omega⟩)
  rw [least_unique h h1]
  decide +kernel
theorem plives_spec (w : World) (hg0 : Gl w) : Cal Tryz.prog 29 [] w fun r w' => r = .bool true ∧ Ext w w' := by
  refine fn_intro Tt_ok Tryz.func29 (by rfl) rfl _ rfl rfl (by rfl) ?_; (conv => whnf)
  intro b1 w1 hn1; (conv => whnf)
  have hs1 : SlE w1 (some ⟨b1, 0, none⟩) lvL := sl_new evC_len hn1
  refine (made_spec cfg0 (by rfl) lvL (some ⟨b1, 0, none⟩) 3 w1 (hg0.ext hn1.ext) hs1 (by decide) lv_may).mono ?_
  rintro _ w2 ⟨p, rfl, hW, hx2⟩
  rw [lv_anew] at hW
  (conv => whnf)
  refine ⟨fun h => (by simp at h), fun _ => ?_⟩
  have hx := hn1.ext.trans hx2
  (conv => whnf)
  refine (pthen_spec hW ⟨#[112]⟩ ⟨#[97]⟩ 9).mono ?_
  rintro _ w3 ⟨rfl, hx3⟩
  rw [lv_then]
  (conv => whnf)
  refine (pfalls_spec (hW.ext hx3) ⟨#[112]⟩ 9).mono ?_
  rintro _ w4 ⟨A4, c4, F, rfl, hp, _, hs4, hx4⟩
  rw [lv_falls, List.perm_singleton] at hp
  subst hp
  (conv => whnf)
  refine (pleast_spec (hW.ext (hx3.trans hx4)) ⟨#[97]⟩ 0 7).mono ?_
  rintro _ w5 ⟨o, rfl, ho, hx5⟩
  rw [show leastOk 0 7 = true from rfl, if_pos rfl] at ho
  have ho := lv_least hW.rise ho
  subst ho
  obtain ⟨a4, rfl, hc4⟩ := (hs4.ext hx5).get (k := 0) (by simp)
  (conv => whnf)
  refine ⟨a4, fun _ => ⟨rfl, by omega, by simp⟩, ?_⟩; (conv => whnf)
  refine ⟨faC ⟨⟨#[97]⟩, 9, 7, 5⟩, fun _ => ⟨rfl, hc4⟩, ?_⟩; (conv => whnf)
  refine ⟨_, fun _ => fa_eq ⟨⟨#[97]⟩, 9, 7, 5⟩ ⟨⟨#[97]⟩, 9, 7, 5⟩ _ _, ?_⟩; (conv => whnf)
  exact ⟨rfl, (hx.trans (hx3.trans hx4)).trans hx5⟩
theorem pmade_spec (c : Cfg) (l : List Ev) (A : Option Addr) (cap : Nat) (w : World) (hg0 : Gl w) (hs : SlE w A l) :
    Cal Tryz.prog 30 [cfgV c, .slice A l.length cap] w fun r w' => Ext w w' ∧ ((okL 30 c l = false ∧ r = .tuple #[.pointer none, .slice none 0 0]) ∨ (okL 30 c l = true ∧ ∃ p base A' c', r = .tuple #[.pointer (some ⟨p, 0, none⟩), .slice A' (anewL l).length c'] ∧ WV w' base p c (anewL l) ∧ SlE w' A' (anewL l) ∧ ZOk (anewL l) ∧ l.length ≤ 30)) := by
  refine fn_intro Tt_ok Tryz.func30 (by rfl) rfl _ rfl rfl (by rfl) ?_; (conv => whnf)
  intro b1 w1 hn1; (conv => whnf)
  have h1 := hn1.At
  refine ⟨Unit, fun _ => (.bool (l.any (bigB 300))), fun _ w' => Ext w1 w', (), fun hg => ((some_spec l A cap 300 w1 (hs.ext hn1.ext) (by simp at hg; omega))).mono fun r w' h => ⟨(), h.1, h.2⟩, ?_⟩
  intro _ w2 h2
  have hx2 : Ext w1 w2 := by
    rcases h2 with ⟨_, h⟩ | ⟨_, h⟩
    · exact h
    · rw [h]; exact Ext.refl _
  clear h2
  (conv => whnf)
  refine ⟨Unit, fun _ => (.bool (l.all mayB)), fun _ w' => Ext w2 w', (), fun hg => ((all_spec l A cap w2 ((hs.ext hn1.ext).ext hx2) (by have := (Bool.or_eq_false_iff.1 hg).1; simp at this; omega) (any_big (Bool.or_eq_false_iff.1 hg).2))).mono fun r w' h => ⟨(), h.1, h.2⟩, ?_⟩
  intro _ w3 h2
  have hx3 : Ext w2 w3 := by
    rcases h2 with ⟨_, h⟩ | ⟨_, h⟩
    · exact h
    · rw [h]; exact Ext.refl _
  clear h2
  (conv => whnf)
  replace h1 := (h1.ext hx2).ext hx3
  refine ⟨cfgC c, fun _ => ⟨rfl, h1.all⟩, ?_⟩; (conv => whnf)
  refine ⟨Unit, fun _ => (.bool (cfgB c)), fun _ w' => Ext w3 w', (), fun hg => ((rconfig_spec c w3)).mono fun r w' h => ⟨(), h.1, h.2⟩, ?_⟩
  intro _ w4 h2
  have hx4 : Ext w3 w4 := by
    rcases h2 with ⟨_, h⟩ | ⟨_, h⟩
    · exact h
    · rw [h]; exact Ext.refl _
  clear h2
  (conv => whnf)
  replace h1 := h1.ext hx4
  have hx := ((hn1.ext.trans hx2).trans hx3).trans hx4
  have hq : (((decide ((30 : Int) < l.length) || l.any (bigB 300)) || !l.all mayB) || !cfgB c) = !okL 30 c l := by
    unfold okL
    cases decide (((30 : Nat) : Int) < l.length) <;> cases l.any (bigB 300) <;> cases l.all mayB <;> cases cfgB c <;> rfl
  constructor
  · intro hc
    have hc : (((decide ((30 : Int) < l.length) || l.any (bigB 300)) || !l.all mayB) || !cfgB c) = true := hc
    rw [hq] at hc
    (conv => whnf)
    exact ⟨hx, .inl ⟨by simpa using hc, rfl⟩⟩
  · intro hc
    have hc : (((decide ((30 : Int) < l.length) || l.any (bigB 300)) || !l.all mayB) || !cfgB c) = false := hc
    rw [hq] at hc
    have hok : okL 30 c l = true := by simpa using hc
    obtain ⟨k1, k2, k3, k4⟩ := okL_iff.1 hok
    (conv => whnf)
    refine ⟨cfgC c, ⟨rfl, h1.all⟩, ?_⟩; (conv => whnf)
    refine (made_spec c k4 l A cap w4 (hg0.ext hx) (hs.ext hx) (by omega) k3).mono ?_
    rintro _ w5 ⟨p, rfl, hW, hx5⟩; (conv => whnf)
    refine ⟨fun h => (by simp at h), fun _ => ?_⟩
    (conv => whnf)
    refine (ranew_spec l A cap w5 (hs.ext (hx.trans hx5)) (by omega) k3).mono ?_
    rintro _ w6 ⟨A6, c6, rfl, hs6, hx6⟩
    have hal := anew_len l
    have hz : ZOk (anewL l) := ⟨fun x hx => k3 x (anew_mem hx), anew_rise k3, by omega⟩
    (conv => whnf)
    exact ⟨(hx.trans hx5).trans hx6, .inr ⟨hok, p, _, A6, c6, rfl, hW.ext hx6, hs6, hz, k1⟩⟩
end Go.Proofs.YtbfjlpoeglcmfaaGreatDoor
