import Derived.Test.YtoancknoinilaaaGreatDoorHSc5

/- The chapter's example; the law ScoreTotals. -/
set_option linter.unusedVariables false
set_option linter.unusedSimpArgs false
namespace Go.Proofs.YtoancknoinilaaaGreatDoor
open Go.Se Go.RowKit

def cfg1 : Cfg := ⟨10, 10, 0, 10, 0, 0⟩
def sv1 : Ev := ⟨⟨#[115]⟩, 1, 5, 11, ⟨#[]⟩, ⟨#[97]⟩, 0, ⟨#[109, 59]⟩⟩
theorem sv_may : ∀ e ∈ [sv1], mayB e = true := by decide +kernel
theorem sv_anew : anewL [sv1] = [sv1] := by
  have h : leftL (onceL [sv1]) = [sv1] := by decide +kernel
  exact (anew_eq sv_may (by rw [h]) (by unfold Srt; decide +kernel)).symm
theorem sv_ex : Ex0 cfg1 [sv1] ⟨#[97]⟩ 5 where
  no := ⟨by decide +kernel, by decide +kernel, by decide +kernel, by decide +kernel⟩
  nowOk := by decide
  width := by decide
  span := by decide
  div := by decide
  floor := by decide
  born := by decide +kernel
  fresh := by decide +kernel
def ones (_ : Nat) : Int := 1
theorem sv_tot : totL (ptsF rawE ones 6) = 1048576 := by decide +kernel
theorem sv_5 : (ptsF rawE ones 6)[5]? = some (5, 1048576, 1048576) := by decide +kernel
theorem slives_spec (w : World) (hg0 : Gl w) : Cal Tryz.prog 15 [] w fun r w' => r = .bool true ∧ Ext w w' := by
  refine fn_intro Tt_ok Tryz.func15 (by rfl) rfl _ rfl rfl (by rfl) ?_; (conv => whnf)
  intro b1 w1 hn1; (conv => whnf)
  have hs1 : SlE w1 (some ⟨b1, 0, none⟩) [sv1] := sl_new evC_len hn1
  refine (made_spec cfg1 (by rfl) [sv1] (some ⟨b1, 0, none⟩) 1 w1 (hg0.ext hn1.ext) hs1 (by decide) sv_may).mono ?_
  rintro _ w2 ⟨p, rfl, hW, hx2⟩
  rw [sv_anew] at hW
  obtain ⟨T, hQ, hT⟩ := hW.q
  (conv => whnf)
  refine ⟨fun h => (by simp at h), fun _ => ?_⟩
  have hx := hn1.ext.trans hx2
  (conv => whnf)
  refine (sof_spec rawE ones (fun k T w' => ∃ v, WQ w' T p cfg1 [sv1] v ∧ (k ≤ 2 → v = .pointer none ∧ Gl w')) T p ⟨#[112]⟩ ⟨#[97]⟩ 5 w2 ⟨_, hQ, fun _ => ⟨rfl, hg0.ext hx⟩⟩ ?_ ?_ ?_).mono ?_
  · rintro k T w3 ⟨v, h, _⟩
    exact h.lt
  · rintro k T w3 w4 ⟨v, h, hv⟩ hm
    exact ⟨v, h.keep fun b hb => hm.block b (h.lt b hb) (fun hn => hn.1 hb), fun hk => ⟨(hv hk).1, (hv hk).2.mod hm fun k hk => Nat.le_trans (hg0.ext hx).size hk.2⟩⟩
  · rintro k hk T w3 ⟨v, h, hv⟩
    refine (raw_spec h ⟨#[112]⟩ ⟨#[97]⟩ 5 sv_ex k hk hv).mono ?_
    rintro r w4 ⟨h1, h2, v', h3, h4⟩
    exact ⟨h1, h2, T, ⟨v', h3, fun hk => ⟨(h4 (by omega)).1.trans (hv (by omega)).1, (h4 (by omega)).2⟩⟩, fun b hb => .inl hb⟩
  rintro _ w3 ⟨A, cap, T3, rfl, hown, _, _, _, hM3⟩
  rw [sv_tot]
  have hx3 : Ext w w3 := (mod_trans_grow (Mod.of_ext (S := fun _ => False) hx) (hM3.mono fun k _ hk => .inr (by have := hT k hk; have := hn1.ext.size; omega))).ext fun _ _ h => h
  have hl : (ptsF rawE ones 6).length = 6 := by rfl
  have htot := sv_tot
  have hsl := hown.sl ptC_len
  obtain ⟨a, rfl, hc⟩ := hsl 5 _ sv_5
  generalize ptsF rawE ones 6 = Q at hl hsl htot
  have htt := total_spec Q (some a) cap w3 hsl (by omega)
  rw [htot, hl] at htt
  (conv => whnf)
  refine ⟨a, fun _ => ⟨rfl, by omega, by omega⟩, ?_⟩; (conv => whnf)
  refine ⟨.int .i64 1048576, fun _ => cells_at hc (k := 1) rfl, ?_⟩; (conv => whnf)
  refine ⟨Unit, fun _ => (.int .i64 1048576), fun _ w' => Ext w3 w', (), fun hg => (htt).mono fun r w' h => ⟨(), h.1, h.2⟩, ?_⟩
  intro _ w4 h2
  have hx4 : Ext w3 w4 := by
    rcases h2 with ⟨_, h⟩ | ⟨_, h⟩
    · exact h
    · rw [h]; exact Ext.refl _
  clear h2
  (conv => whnf)
  exact ⟨rfl, hx3.trans hx4⟩
theorem scoreTotals_spec (l : List Pt) (at_ : Int) (A : Option Addr) (cap : Nat) (w : World) (hg0 : Gl w) (hs : Sl ptC 3 w A l) (hcap : l.length ≤ cap) :
    Cal Tryz.prog 5 [.slice A l.length cap, .int .i64 at_] w fun r w' => r = .bool true ∧ Ext w w' := by
  refine fn_intro Tt_ok Tryz.func5 (by rfl) rfl _ rfl rfl (by rfl) ?_; (conv => whnf)
  refine (slives_spec w hg0).mono ?_
  rintro _ w1 ⟨rfl, hx1⟩; (conv => whnf)
  refine ⟨fun h => (by simp at h), fun _ => ?_⟩
  (conv => whnf)
  constructor
  · intro _; (conv => whnf); exact ⟨rfl, hx1⟩
  intro hc
  have hc : l.length ≤ 50 ∧ 0 ≤ at_ ∧ at_ ≤ l.length := by
    simp at hc
    omega
  obtain ⟨k, rfl⟩ : ∃ k : Nat, at_ = k := ⟨at_.toNat, by omega⟩
  (conv => whnf)
  refine loop_rule Tt_ok (fun (q : Nat × Int) w' => q.1 ≤ l.length ∧ q.2 = totL (l.take q.1) ∧ w' = w1)
    (fun | (j, n) => [(0, .slice A l.length cap), (1, .int .i64 (k : Nat)), (5, .int .i64 n), (6, .int .i64 j)]) (fun q => l.length - q.1) (0, 0) ⟨by simp, tot_nil.symm, rfl⟩ ⟨rfl, rfl, rfl, rfl, trivial⟩ ?_
  rintro ⟨j, n⟩ u ⟨hj, hn, hu⟩
  subst hu
  simp only at hj hn
  (conv => whnf)
  constructor
  · intro hlt
    have hlt : j < l.length := by simpa using hlt
    obtain ⟨a, hA, hca⟩ := (hs.ext hx1).get hlt
    subst hA
    have htk : totL (l.take (j + 1)) = IntKind.i64.wrap (n + (l[j]).2.2) := by rw [hn, List.take_succ_eq_append_getElem hlt, tot_snoc]
    generalize l[j] = x at hca htk
    (conv => whnf)
    refine ⟨a, ⟨rfl, by omega, by omega⟩, ?_⟩; (conv => whnf)
    refine ⟨.int .i64 x.2.2, cells_at hca (k := 2) rfl, ?_⟩; (conv => whnf)
    refine ⟨_, rfl, ?_⟩; (conv => whnf)
    refine ⟨((j + 1 : Nat) : Int), wrap_succ (by omega), ?_⟩; (conv => whnf)
    exact ⟨(j + 1, _), by simp only; omega, ⟨by simp only; omega, htk.symm, rfl⟩, ⟨rfl, rfl, rfl, rfl, trivial⟩⟩
  · intro hge
    have hge : l.length ≤ j := by simpa using hge
    rw [List.take_of_length_le hge] at hn
    subst hn
    have hs1 := hs.ext hx1
    have htl : (l.take k).length = k := by rw [List.length_take]; omega
    have hdl : (l.drop k).length = l.length - k := List.length_drop
    have hsum : totL l = IntKind.i64.wrap (totL (l.take k) + totL (l.drop k)) := by rw [← tot_append, List.take_append_drop]
    (conv => whnf)
    refine draw_rule .ext [0, 2, 1, 3, 4, 5, 6, 7, 9, 10, 11, 14, 8, 12, 13, 15, 16, 17] [] Tt_ok mixed (by kernel_rfl) (by first | (intro h; cases h; done) | (intro _; rfl)) ?_; (conv => whnf)
    have hxd : Ext u u.drew := (Ext.refl u).drew
    refine (total_spec l A cap u.drew (hs1.ext hxd) (by omega)).mono ?_
    rintro _ w2 ⟨rfl, hx2⟩
    refine ⟨hx2, ?_⟩; (conv => whnf)
    refine ⟨fun _ => ⟨by omega, by omega, by omega, by omega⟩, ?_⟩; (conv => whnf)
    refine ⟨fun _ => ⟨by omega, by omega, by omega, by omega⟩, ?_⟩; (conv => whnf)
    have hs2 := (hs1.ext hxd).ext hx2
    have hst : Sl ptC 3 w2 (if cap = 0 then A else A.map (·.add (0 * 3))) (l.take k) := sl_drop_if (sl_take hs2 k) 0 cap (by rw [List.length_take]; omega)
    have hsd : Sl ptC 3 w2 (if cap = k then A else A.map (·.add (k * 3))) (l.drop k) := sl_drop_if hs2 k cap (by omega)
    have t1 := total_spec (l.take k) _ cap w2 hst (by omega)
    rw [htl] at t1
    refine ⟨Unit, fun _ => (.int .i64 (totL (l.take k))), fun _ w' => Ext w2 w', (), fun hg => (t1).mono fun r w' h => ⟨(), h.1, h.2⟩, ?_⟩
    intro _ w3 h2
    have hx3 : Ext w2 w3 := by
      rcases h2 with ⟨_, h⟩ | ⟨_, h⟩
      · exact h
      · rw [h]; exact Ext.refl _
    clear h2
    refine ⟨hx3, ?_⟩
    (conv => whnf)
    have t2 := total_spec (l.drop k) _ (cap - k) w3 (hsd.ext hx3) (by omega)
    rw [hdl] at t2
    refine ⟨Unit, fun _ => (.int .i64 (totL (l.drop k))), fun _ w' => Ext w3 w', (), fun hg => (t2).mono fun r w' h => ⟨(), h.1, h.2⟩, ?_⟩
    intro _ w4 h2
    have hx4 : Ext w3 w4 := by
      rcases h2 with ⟨_, h⟩ | ⟨_, h⟩
      · exact h
      · rw [h]; exact Ext.refl _
    clear h2
    refine ⟨hx4, ?_⟩
    (conv => whnf)
    refine ⟨totL l, fun _ => hsum, ?_⟩; (conv => whnf)
    exact ⟨by simp, hx1.trans (hxd.trans (hx2.trans (hx3.trans hx4)))⟩
end Go.Proofs.YtoancknoinilaaaGreatDoor
