import Derived.Test.YtbfjlpoeglcmfaaGreatDoorHPr13

/- The law PriceOthers: the walk. -/
set_option linter.unusedVariables false
set_option linter.unusedSimpArgs false
namespace Go.Proofs.YtbfjlpoeglcmfaaGreatDoor
open Go.Se Go.RowKit

set_option maxHeartbeats 1000000 in
theorem priceOthers_spec (c : Cfg) (l more : List Ev) (person : ByteArray) (now : Int) (A B : Option Addr) (cap capB : Nat) (w : World) (hg0 : Gl w) (hs : SlE w A l) (hsB : SlE w B more) :
    Cal Tryz.prog 13 [cfgV c, .slice A l.length cap, .slice B more.length capB, .string person, .int .i64 now] w fun r w' => r = .bool true ∧ Ext w w' := by
  refine fn_intro Tt_ok Tryz.func13 (by rfl) rfl _ rfl rfl (by rfl) ?_; (conv => whnf)
  intro b1 w1 hn1; (conv => whnf)
  refine (plives_spec w1 (hg0.ext hn1.ext)).mono ?_
  rintro _ w3 ⟨rfl, hx3⟩; (conv => whnf)
  refine ⟨fun h => (by simp at h), fun _ => ?_⟩
  (conv => whnf)
  have hc1 : At w3 b1 _ (cfgC c) := hn1.At.ext hx3
  have hx := hn1.ext.trans hx3
  clear hn1 hx3
  refine ⟨cfgC c, ⟨rfl, hc1.all⟩, ?_⟩; (conv => whnf)
  refine (pmade_spec c l A cap w3 (hg0.ext hx) (hs.ext hx)).mono ?_
  rintro r w4 ⟨hx4, hr⟩
  replace hx := hx.trans hx4
  replace hc1 := hc1.ext hx4
  clear hx4
  have hd0 : ∀ {b1 b2 b3 b4 : Bool}, (b1 || b2 || b3 || b4) = false → b4 = false := fun h => (Bool.or_eq_false_iff.1 h).2
  rcases hr with ⟨_, rfl⟩ | ⟨hok, p, base, A', c', rfl, hW, hs4, hz, hl30⟩
  · (conv => whnf)
    refine ⟨_, eqRun_ptr_nil undWp _ _ _, ?_⟩; (conv => whnf)
    refine ⟨Unit, fun _ => .bool true, fun _ w' => Ext w4 w', (), fun hg => (by simp at hg), ?_⟩
    rintro _ w5 h5
    have hx5 : Ext w4 w5 := by
      rcases h5 with ⟨_, h⟩ | ⟨_, h⟩
      · exact h
      · rw [h]; exact Ext.refl _
    (conv => whnf)
    refine ⟨fun _ => ?_, fun h => (by simp at h)⟩
    (conv => whnf)
    exact ⟨rfl, hx.trans hx5⟩
  obtain ⟨k1, k2, k3, k4⟩ := okL_iff.1 hok
  (conv => whnf)
  refine ⟨_, eqRun_ptr_nil undWp _ _ _, ?_⟩; (conv => whnf)
  refine ⟨Unit, fun _ => (.bool (more.any (bigB 300))), fun _ w' => Ext w4 w', (), fun hg => ((some_spec more B capB 300 w4 (hsB.ext hx) (by have := hd0 hg; simp at this; omega))).mono fun r w' h => ⟨(), h.1, h.2⟩, ?_⟩
  intro _ w5 h2
  have hx5 : Ext w4 w5 := by
    rcases h2 with ⟨_, h⟩ | ⟨_, h⟩
    · exact h
    · rw [h]; exact Ext.refl _
  clear h2
  (conv => whnf)
  replace hx := hx.trans hx5
  replace hc1 := hc1.ext hx5
  replace hW := hW.ext hx5
  replace hs4 := hs4.ext hx5
  clear hx5
  constructor
  · intro _
    (conv => whnf)
    exact ⟨rfl, hx⟩
  intro hc
  have hc : l.length ≤ 24 ∧ more.length ≤ 6 := by simp at hc; omega
  obtain ⟨hl24, hm6⟩ := hc
  have hal := anew_len l
  have hmay := k3
  obtain ⟨z, hzz⟩ : ∃ z, z = anewL l := ⟨_, rfl⟩
  rw [← hzz] at hW hs4 hz hal ⊢
  have hsB5 := hsB.ext hx
  (conv => whnf)
  refine loop_rule Tt_ok (fun (k : Nat) w' => k ≤ more.length ∧ w' = w5 ∧ ∀ e ∈ more.take k, e.person ≠ person ∧ e.person ≠ ⟨#[]⟩ ∧ e.src = newS)
    (fun k => [(2, .slice B more.length capB), (3, .string person), (4, .int .i64 now), (5, .pointer (some ⟨b1, 0, none⟩)), (11, .pointer (some ⟨p, 0, none⟩)), (12, .slice A' z.length c'), (13, .int .i64 k)]) (fun k => more.length - k) 0 ⟨by omega, rfl, by simp⟩ ⟨rfl, rfl, rfl, rfl, rfl, rfl, rfl, trivial⟩ ?_
  rintro k w6 ⟨hk, hw6, hall⟩
  replace hw6 := hw6.symm
  subst hw6
  (conv => whnf)
  constructor
  · intro hlt
    have hlt : k < more.length := by simpa using hlt
    obtain ⟨a2, rfl, hce⟩ := hsB5.get hlt
    have htk := take_next more k hlt
    generalize more[k] = e at hce htk
    (conv => whnf)
    repeat (refine seq_go Tt_ok ?_; (conv => whnf))
    refine ⟨a2, ⟨rfl, by omega, by omega⟩, ?_⟩; (conv => whnf)
    refine ⟨_, cells_at hce (k := 4) rfl, ?_⟩; (conv => whnf)
    refine ⟨a2, fun _ => ⟨rfl, by omega, by omega⟩, ?_⟩; (conv => whnf)
    refine ⟨_, fun _ => cells_at hce (k := 4) rfl, ?_⟩; (conv => whnf)
    refine ⟨a2, fun _ => ⟨rfl, by omega, by omega⟩, ?_⟩; (conv => whnf)
    refine ⟨_, fun _ => cells_at hce (k := 0) rfl, ?_⟩; (conv => whnf)
    constructor
    · intro _
      (conv => whnf)
      exact ⟨rfl, hx⟩
    · intro hq
      have hq : ((decide (e.person = person) || decide (e.person = ⟨#[]⟩)) || !decide (e.src = newS)) = false := hq
      have hq : e.person ≠ person ∧ e.person ≠ ⟨#[]⟩ ∧ e.src = newS := by
        simp only [Bool.or_eq_false_iff, decide_eq_false_iff_not, Bool.not_eq_false', decide_eq_true_eq] at hq
        exact ⟨hq.1.1, hq.1.2, hq.2⟩
      (conv => whnf)
      refine ⟨((k + 1 : Nat) : Int), wrap_succ (by omega), ?_⟩; (conv => whnf)
      refine ⟨k + 1, by omega, ⟨by omega, rfl, fun x hx' => ?_⟩, ⟨rfl, rfl, rfl, rfl, rfl, rfl, rfl, trivial⟩⟩
      rw [htk] at hx'
      rcases List.mem_append.1 hx' with h | h
      · exact hall x h
      · simp at h; subst h; exact hq
  · intro hge
    have hge : more.length ≤ k := by simpa using hge
    rw [List.take_of_length_le hge] at hall
    (conv => whnf)
    refine loop_rule Tt_ok (fun (k : Nat) w' => k ≤ z.length ∧ w' = w5 ∧ ∀ e ∈ z.take k, e.src ≠ newS)
      (fun k => [(2, .slice B more.length capB), (3, .string person), (4, .int .i64 now), (5, .pointer (some ⟨b1, 0, none⟩)), (11, .pointer (some ⟨p, 0, none⟩)), (12, .slice A' z.length c'), (14, .int .i64 k)]) (fun k => z.length - k) 0 ⟨by omega, rfl, by simp⟩ ⟨rfl, rfl, rfl, rfl, rfl, rfl, rfl, trivial⟩ ?_
    rintro j w7 ⟨hj, hw7, hall2⟩
    replace hw7 := hw7.symm
    subst hw7
    (conv => whnf)
    constructor
    · intro hlt
      have hlt : j < z.length := by simpa using hlt
      obtain ⟨a2, rfl, hce⟩ := hs4.get hlt
      have htk := take_next z j hlt
      generalize z[j] = e at hce htk
      (conv => whnf)
      repeat (refine seq_go Tt_ok ?_; (conv => whnf))
      refine ⟨a2, ⟨rfl, by omega, by omega⟩, ?_⟩; (conv => whnf)
      refine ⟨_, cells_at hce (k := 0) rfl, ?_⟩; (conv => whnf)
      constructor
      · intro _
        (conv => whnf)
        exact ⟨rfl, hx⟩
      · intro hq
        have hq : decide (e.src = newS) = false := hq
        have hq : e.src ≠ newS := by simpa using hq
        (conv => whnf)
        refine ⟨((j + 1 : Nat) : Int), wrap_succ (by omega), ?_⟩; (conv => whnf)
        refine ⟨j + 1, by omega, ⟨by omega, rfl, fun x hx' => ?_⟩, ⟨rfl, rfl, rfl, rfl, rfl, rfl, rfl, trivial⟩⟩
        rw [htk] at hx'
        rcases List.mem_append.1 hx' with h | h
        · exact hall2 x h
        · simp at h; subst h; exact hq
    · intro hge2
      have hge2 : z.length ≤ j := by simpa using hge2
      rw [List.take_of_length_le hge2] at hall2
      have hb1l := hc1.lt
      (conv => whnf)
      refine draw_rule (.mods (fun k => w5.heap.size ≤ k)) [0, 2, 4, 1, 3, 5, 6, 7, 8, 9, 10, 11] [] Tt_ok mixed (by kernel_rfl) (by first | (intro h; cases h; done) | (intro _; rfl)) ?_; (conv => whnf)
      have hb1n : ¬ (w5.heap.size ≤ b1) := Nat.not_le.2 hb1l
      replace hc1 : At w5.drew b1 _ _ := hc1
      have hx6 := (Ext.refl w5).drew
      replace hs4 := hs4.ext hx6
      replace hsB5 := hsB5.ext hx6
      generalize w5.drew = w6 at hc1 hx6 hs4 hsB5 ⊢
      refine ⟨cfgC c, ⟨rfl, hc1.all, hb1n⟩, ?_⟩; (conv => whnf)
      intro b7 w7 hn7
      refine ⟨Mod.of_ext hn7.ext, ?_⟩; (conv => whnf)
      have o7 := rowEv.made (base := w5.heap.size) hn7 hx6.size
      refine append_row rowEv (l := []) (news := z) rfl o7 rfl (hs4.ext hn7.ext) (by simp; omega) (hx6.trans hn7.ext).size fun A8 c8 w8 hown8 hg8 hA8 => ?_
      refine ⟨mod_grown hg8 (own_ge o7), ?_⟩
      have hx8 := ext_grown (hx6.trans hn7.ext) hg8 (own_ge o7)
      rw [List.nil_append] at hown8 ⊢
      (conv => whnf)
      have hsB8 : SlE w8 B more := hsB.ext (hx.trans hx8)
      refine append_row rowEv (l := z) (news := more) rfl hown8 rfl hsB8 (by omega) hx8.size fun A9 c9 w9 hown9 hg9 hA9 => ?_
      refine ⟨mod_grown hg9 (own_ge hown8), ?_⟩
      have hx9 := ext_grown hx8 hg9 (own_ge hown8)
      obtain ⟨Y, hY⟩ : ∃ Y, Y = z ++ more := ⟨_, rfl⟩
      rw [← hY] at hown9 ⊢
      (conv => whnf)
      refine (pmade_spec c Y A9 c9 w9 (hg0.ext (hx.trans hx9)) (hown9.sl evC_len)).mono ?_
      rintro r w10 ⟨hx10, hr⟩
      refine ⟨Mod.of_ext hx10, ?_⟩
      replace hx10 := hx9.trans hx10
      replace hx := hx.trans hx10
      replace hW := hW.ext hx10
      rcases hr with ⟨_, rfl⟩ | ⟨hok2, p2, base2, A2, c2, rfl, hW2, _, hz2, _⟩
      · (conv => whnf)
        refine ⟨_, eqRun_ptr_nil undWp _ _ _, ?_⟩; (conv => whnf)
        refine ⟨fun _ => ?_, fun h => (by simp at h)⟩
        (conv => whnf)
        exact ⟨rfl, hx⟩
      (conv => whnf)
      refine ⟨_, eqRun_ptr_nil undWp _ _ _, ?_⟩; (conv => whnf)
      refine ⟨fun h => (by simp at h), fun _ => ?_⟩
      have hfo : fallsS (anewL Y) person now = fallsS z person now := by
        rw [hY, hzz]
        rw [hzz] at hall2
        refine falls_others hmay now ?_ hall hall2
        rw [← hzz, ← hY]
        exact (okL_iff.1 hok2).2.2.1
      (conv => whnf)
      refine (pfalls_spec hW person now).mono ?_
      rintro _ w11 ⟨AF, cF, F, rfl, hp, hsr, hsF, hx11⟩; (conv => whnf)
      refine (pfalls_spec (hW2.ext hx11) person now).mono ?_
      rintro _ w12 ⟨AG, cG, G, rfl, hpG, hsG, hslG, hx12⟩
      rw [hfo] at hpG
      obtain rfl : F = G := falls_unique (falls_items z person now) hp hpG hsr hsG
      have hfl := falls_len z person now
      have hFl := hp.length_eq
      (conv => whnf)
      refine (fsame_spec F F AF AG cF cG w12 (hsF.ext hx12) hslG (by have := hz.len; omega)).mono ?_
      rintro _ w13 ⟨rfl, hx13⟩
      rw [decide_eq_true rfl]
      (conv => whnf)
      exact ⟨rfl, ((hx.trans hx11).trans hx12).trans hx13⟩
end Go.Proofs.YtbfjlpoeglcmfaaGreatDoor
