import Derived.Test.YtbfjlpoeglcmfaaGreatDoorHPr11

/- The law PriceFalls. -/
set_option linter.unusedVariables false
set_option linter.unusedSimpArgs false
namespace Go.Proofs.YtbfjlpoeglcmfaaGreatDoor
open Go.Se Go.RowKit

theorem fsame_spec (l m : List Fa) (A B : Option Addr) (c d : Nat) (w : World) (hs : Sl faC 4 w A l) (hm : Sl faC 4 w B m) (hl : l.length < 1000000000000) :
    Cal Tryz.prog 34 [.slice A l.length c, .slice B m.length d] w fun r w' => r = .bool (decide (l = m)) ∧ Ext w w' := by
  refine fn_intro Tt_ok Tryz.func34 (by rfl) rfl _ rfl rfl (by rfl) ?_; (conv => whnf)
  constructor
  · intro h1
    have h1 : l.length ≠ m.length := by simp at h1; omega
    (conv => whnf)
    exact ⟨by rw [decide_eq_false (fun e => h1 (by rw [e]))], Ext.refl _⟩
  · intro h1
    have h1 : l.length = m.length := by simp at h1; omega
    (conv => whnf)
    refine loop_rule Tt_ok (fun (k : Nat) w' => k ≤ l.length ∧ Ext w w' ∧ l.take k = m.take k)
      (fun k => [(0, .slice A l.length c), (1, .slice B m.length d), (5, .int .i64 k)]) (fun k => l.length - k) 0 ⟨by omega, Ext.refl _, by simp⟩ ⟨rfl, rfl, rfl, trivial⟩ ?_
    rintro k w1 ⟨hk, hx, hall⟩
    (conv => whnf)
    constructor
    · intro hlt
      have hlt : k < l.length := by simpa using hlt
      have hlt' : k < m.length := by omega
      obtain ⟨a, rfl, hc⟩ := hs.get hlt
      obtain ⟨b, rfl, hd⟩ := hm.get hlt'
      (conv => whnf)
      refine draw_rule .same [0, 1, 2, 3, 4, 5, 6, 7, 8] [] Tt_ok mixed (by kernel_rfl) (by first | (intro h; cases h; done) | (intro _; rfl)) ?_; (conv => whnf)
      refine ⟨a, ⟨rfl, by omega, by omega⟩, ?_⟩; (conv => whnf)
      refine ⟨faC l[k], ⟨rfl, hx.cells hc⟩, ?_⟩; (conv => whnf)
      refine ⟨b, ⟨rfl, by omega, by omega⟩, ?_⟩; (conv => whnf)
      refine ⟨faC m[k], ⟨rfl, hx.cells hd⟩, ?_⟩; (conv => whnf)
      refine ⟨_, fa_eq l[k] m[k] _ _, ?_⟩; (conv => whnf)
      constructor
      · intro he
        have he : l[k] ≠ m[k] := by simpa using he
        (conv => whnf)
        refine ⟨by rw [decide_eq_false (fun e => he (by simp [e]))], hx.drew⟩
      · intro he
        have he : l[k] = m[k] := by simpa using he
        (conv => whnf)
        refine ⟨((k + 1 : Nat) : Int), wrap_succ (by omega), ?_⟩; (conv => whnf)
        refine ⟨k + 1, by omega, ⟨by omega, hx.drew, ?_⟩, ⟨rfl, rfl, rfl, trivial⟩⟩
        rw [List.take_succ_eq_append_getElem hlt, List.take_succ_eq_append_getElem hlt', hall, he]
    · intro hge
      have hge : l.length ≤ k := by simpa using hge
      (conv => whnf)
      rw [List.take_of_length_le hge, List.take_of_length_le (by omega)] at hall
      exact ⟨by rw [decide_eq_true hall], hx⟩
theorem falls_mem {z : List Ev} (hm : ∀ e ∈ z, mayB e = true) (hr : Rise z) {person : ByteArray} {now : Int} (ht : tickB now = true) {f : Fa} (h : f ∈ fallsS z person now) :
    thenAt z person f.item now = some f.was ∧ (itemAt z f.item now).listed = true ∧ (itemAt z f.item now).price = f.is_ ∧ f.is_ < f.was ∧ f.looked ≤ now := by
  unfold fallsS at h
  rw [if_pos ht] at h
  obtain ⟨⟨x, t⟩, hx, hf⟩ := List.mem_filterMap.1 h
  have hl : lookAt z person x now = some t := mem_alook (lookM_keys _) hx
  obtain ⟨h1, h2, h3, h4, h5⟩ := fallOf_item hf
  simp only at h1 h2 h3 h4
  rw [h1, h2]
  refine ⟨?_, ?_, ?_, h5, (look_nonneg hm hl).2⟩
  · unfold thenAt; rw [if_pos ht, hl]; exact h3
  · rw [price_of_item _ _ _ hr] at h4
    split at h4
    · assumption
    · cases h4
  · rw [price_of_item _ _ _ hr] at h4
    split at h4
    · exact Option.some.inj h4
    · cases h4
theorem falls_len (z : List Ev) (person : ByteArray) (now : Int) : (fallsS z person now).length ≤ z.length := by
  unfold fallsS
  split
  · have h0 := List.length_filterMap_le (fallOf z now) (looksM z person now)
    have h1 : ∀ l : List Ev, (lookM l).length ≤ l.length := by
      intro l
      induction l using snoc_ind with
      | h0 => simp [lookM]
      | h1 l a ih =>
        rw [lookM_snoc, List.length_append, List.length_singleton]
        have := congrArg List.length (aset_keys a.item a.at_ (lookM l))
        rw [List.length_map] at this
        rw [this]
        split
        · rw [List.length_map]; omega
        · rw [List.length_append, List.length_map, List.length_singleton]; omega
    have h2 := h1 ((histE z person).filter (lookQ now))
    have h3 := List.length_filter_le (lookQ now) (histE z person)
    have h4 := hist_len z person
    unfold looksM at h0 ⊢
    omega
  · simp
theorem priceFalls_spec (c : Cfg) (l : List Ev) (person : ByteArray) (now : Int) (A : Option Addr) (cap : Nat) (w : World) (hg0 : Gl w) (hs : SlE w A l) :
    Cal Tryz.prog 10 [cfgV c, .slice A l.length cap, .string person, .int .i64 now] w fun r w' => r = .bool true ∧ Ext w w' := by
  refine fn_intro Tt_ok Tryz.func10 (by rfl) rfl _ rfl rfl (by rfl) ?_; (conv => whnf)
  intro b1 w1 hn1; (conv => whnf)
  refine (plives_spec w1 (hg0.ext hn1.ext)).mono ?_
  rintro _ w3 ⟨rfl, hx3⟩; (conv => whnf)
  refine ⟨fun h => (by simp at h), fun _ => ?_⟩
  (conv => whnf)
  have hc1 : At w3 b1 _ (cfgC c) := hn1.At.ext hx3
  have hx := hn1.ext.trans hx3
  clear hn1 hx3
  refine ⟨cfgC c, ⟨rfl, hc1.all⟩, ?_⟩; (conv => whnf)
  refine (pmade_spec c l A cap w3 (hg0.ext hx) (hs.ext hx)).mono ?_
  rintro r w4 ⟨hx4, hr⟩
  replace hx := hx.trans hx4
  clear hc1 hx4
  rcases hr with ⟨_, rfl⟩ | ⟨hok, p, base, A', c', rfl, hW, hs4, hz, _⟩
  · (conv => whnf)
    refine ⟨_, eqRun_ptr_nil undWp _ _ _, ?_⟩; (conv => whnf)
    refine ⟨fun _ => ?_, fun h => (by simp at h)⟩
    (conv => whnf)
    exact ⟨rfl, hx⟩
  (conv => whnf)
  refine ⟨_, eqRun_ptr_nil undWp _ _ _, ?_⟩; (conv => whnf)
  refine ⟨fun _ => ?_, fun _ => ?_⟩
  · (conv => whnf)
    exact ⟨rfl, hx⟩
  generalize anewL l = z at hW hs4 hz
  have hzl := hz.len
  have hfl := falls_len z person now
  (conv => whnf)
  refine (pfalls_spec hW person now).mono ?_
  rintro _ w5 ⟨AF, cF, F, rfl, hp, hsr, hsF, hx5⟩
  have hFl := hp.length_eq
  (conv => whnf)
  constructor
  · intro hc
    have hc : tickB now = false := by unfold tickB inB; simp at hc ⊢; omega
    have hF : F = [] := by
      have : fallsS z person now = [] := by unfold fallsS; rw [hc]; simp
      rw [this] at hp; exact hp.eq_nil
    subst hF
    (conv => whnf)
    exact ⟨rfl, hx.trans hx5⟩
  · intro hc
    have ht : tickB now = true := by unfold tickB inB; simp at hc ⊢; omega
    (conv => whnf)
    refine (r39Falls_spec hz person now ht A' c' w5 (hs4.ext hx5)).mono ?_
    rintro _ w6 ⟨AG, cG, G, rfl, hpG, hsG, hslG, hx6⟩
    obtain rfl : F = G := falls_unique (falls_items z person now) hp hpG hsr hsG
    (conv => whnf)
    refine (fsame_spec F F AF AG cF cG w6 (hsF.ext hx6) hslG (by omega)).mono ?_
    rintro _ w7 ⟨rfl, hx7⟩
    rw [decide_eq_true rfl]
    have hmem : ∀ f ∈ F, f ∈ fallsS z person now := fun f hf => hp.mem_iff.1 hf
    replace hW := hW.ext ((hx5.trans hx6).trans hx7)
    replace hsF := (hsF.ext hx6).ext hx7
    replace hx := ((hx.trans hx5).trans hx6).trans hx7
    clear hx5 hx6 hx7 hslG hsG hpG hsr hs4
    (conv => whnf)
    refine ⟨fun h => (by simp at h), fun _ => ?_⟩
    (conv => whnf)
    refine loop_rule Tt_ok (fun (k : Nat) w' => k ≤ F.length ∧ Ext w7 w')
      (fun k => [(2, .string person), (3, .int .i64 now), (9, .pointer (some ⟨p, 0, none⟩)), (11, .slice AF F.length cF), (12, .int .i64 k)]) (fun k => F.length - k) 0 ⟨by omega, Ext.refl _⟩ ⟨rfl, rfl, rfl, rfl, rfl, trivial⟩ ?_
    rintro k w8 ⟨hk, hx8⟩
    (conv => whnf)
    constructor
    · intro hlt
      have hlt : k < F.length := by simpa using hlt
      obtain ⟨a, rfl, hcf⟩ := (hsF.ext hx8).get hlt
      have hfm := falls_mem hW.may hW.rise ht (hmem F[k] (List.getElem_mem hlt))
      generalize F[k] = f at hcf hfm
      obtain ⟨f1, f2, f3, f4, f5⟩ := hfm
      (conv => whnf)
      repeat (refine seq_go Tt_ok ?_; (conv => whnf))
      refine ⟨a, ⟨rfl, by omega, by omega⟩, ?_⟩; (conv => whnf)
      refine ⟨.string f.item, cells_at hcf (k := 0) rfl, ?_⟩; (conv => whnf)
      refine (pthen_spec (hW.ext hx8) person f.item now).mono ?_
      rintro _ w9 ⟨rfl, hx9⟩
      rw [f1]
      replace hcf := hx9.cells hcf
      replace hx8 := hx8.trans hx9
      clear hx9
      (conv => whnf)
      refine sem_cut (ι := Nat) (fun j => [(2, .string person), (3, .int .i64 now), (9, .pointer (some ⟨p, 0, none⟩)), (11, .slice (some a) F.length cF), (12, .int .i64 k), (13, vi f.was), (14, .bool true), (15, .pointer (some ⟨j, 0, none⟩))])
        (fun j w' => Ext w9 w' ∧ At w' j 66 (itC (itemAt z f.item now))) ?_ ?_
      · refine draw_plan (.mods (fun k => w9.heap.size ≤ k)) (Pl.seq [0, 2, 3, 4, 5, 6, 7] (Pl.two 1 (Pl.seq [] (Pl.two 8 (Pl.seq [9, 10, 11, 12, 13, 14] Pl.done) 12 (Pl.seq [8, 9, 10, 11, 13, 14] Pl.done))) 12 (Pl.seq [1, 8, 9, 10, 11, 13, 14] Pl.done))) (by intro h; cases h) Tt_ok mixed (by kernel_rfl) ?_; (conv => whnf)
        have ha9 : ¬ (w9.heap.size ≤ (a.add (k * 4)).block) := by have := cell_lt (cells_head hcf); exact Nat.not_le.2 this
        replace hcf : CellsAt w9.drew (a.add (k * 4)) (faC f) := hcf
        have hW9 := (hW.ext hx8).ext (Ext.refl w9).drew
        have hx10 := (Ext.refl w9).drew
        generalize w9.drew = w10 at hcf hW9 hx10 ⊢
        refine ⟨a, ⟨rfl, by omega, by omega⟩, ?_⟩; (conv => whnf)
        refine ⟨.string f.item, ⟨cells_at hcf (k := 0) rfl, by rw [add_block]; exact ha9⟩, ?_⟩; (conv => whnf)
        refine ⟨?_, ?_⟩
        · refine (wcatalog_spec hW9).mono ?_
          rintro _ w3 ⟨pc, S0, rfl, hcat, hx3⟩
          refine ⟨Mod.of_ext hx3, ?_⟩; (conv => whnf)
          refine ⟨?_, ?_⟩
          · refine (catAt_spec _ _ pc _ hcat f.item now (hW9).rows).mono ?_
            rintro _ w4 ⟨rfl, hx4⟩
            refine ⟨Mod.of_ext hx4, ?_⟩; (conv => whnf)
            intro b5 w5 hn5
            have e5 := hn5.block
            refine ⟨Mod.of_ext hn5.ext, ?_⟩; (conv => whnf)
            refine store_ptr Tt_ok (e := ty66) rfl (hn5.At) rfl rfl rfl (by simp [cellsL, itC, Value.oneCell']) fun w6 h6 ho6 => ?_
            refine ⟨mod_only ho6 (by have := (hx10).size; have := hx3.size; have := hx4.size; omega), ?_⟩; (conv => whnf)
            exact ⟨b5, ⟨ho6.ext (((hx10).trans hx3).trans (hx4.trans hn5.ext)) (by have := (hx10).size; have := hx3.size; have := hx4.size; omega), h6⟩, ⟨rfl, rfl, rfl, rfl, rfl, rfl, rfl, rfl, trivial⟩⟩
          · intro b5 w5 hn5
            have e5 := hn5.block
            refine ⟨Mod.of_ext hn5.ext, ?_⟩; (conv => whnf)
            replace hcat := hcat.ext hn5.ext
            refine (catAt_spec _ _ pc _ hcat f.item now (hW9).rows).mono ?_
            rintro _ w4 ⟨rfl, hx4⟩
            refine ⟨Mod.of_ext hx4, ?_⟩; (conv => whnf)
            refine store_ptr Tt_ok (e := ty66) rfl (hn5.At.ext hx4) rfl rfl rfl (by simp [cellsL, itC, Value.oneCell']) fun w6 h6 ho6 => ?_
            refine ⟨mod_only ho6 (by have := (hx10).size; have := hx3.size; omega), ?_⟩; (conv => whnf)
            exact ⟨b5, ⟨ho6.ext (((hx10).trans hx3).trans (hn5.ext.trans hx4)) (by have := (hx10).size; have := hx3.size; omega), h6⟩, ⟨rfl, rfl, rfl, rfl, rfl, rfl, rfl, rfl, trivial⟩⟩
        · intro b5 w5 hn5
          have e5 := hn5.block
          refine ⟨Mod.of_ext hn5.ext, ?_⟩; (conv => whnf)
          refine (wcatalog_spec ((hW9).ext hn5.ext)).mono ?_
          rintro _ w3 ⟨pc, S0, rfl, hcat, hx3⟩
          refine ⟨Mod.of_ext hx3, ?_⟩; (conv => whnf)
          refine (catAt_spec _ _ pc _ hcat f.item now (hW9).rows).mono ?_
          rintro _ w4 ⟨rfl, hx4⟩
          refine ⟨Mod.of_ext hx4, ?_⟩; (conv => whnf)
          refine store_ptr Tt_ok (e := ty66) rfl ((hn5.At.ext hx3).ext hx4) rfl rfl rfl (by simp [cellsL, itC, Value.oneCell']) fun w6 h6 ho6 => ?_
          refine ⟨mod_only ho6 (by have := (hx10).size; omega), ?_⟩; (conv => whnf)
          exact ⟨b5, ⟨ho6.ext ((hx10).trans ((hn5.ext.trans hx3).trans hx4)) (by have := (hx10).size; omega), h6⟩, ⟨rfl, rfl, rfl, rfl, rfl, rfl, rfl, rfl, trivial⟩⟩
      rintro b10 w10 ⟨hx10, h10⟩
      generalize itemAt z f.item now = it at h10 f2 f3
      replace hcf := hx10.cells hcf
      replace hx8 := hx8.trans hx10
      clear hx10
      (conv => whnf)
      refine draw_rule .same [0, 1, 2, 3, 4, 5, 6, 7, 8, 9, 10, 11, 12, 13, 14, 15, 16, 17, 18, 19, 20, 21, 22, 23, 24, 25, 26, 27, 28, 29, 30, 31, 32, 33, 34, 35, 36, 37, 38, 39, 40, 41, 42, 43, 44, 45, 46, 47] [] Tt_ok mixed (by kernel_rfl) (by first | (intro h; cases h; done) | (intro _; rfl)) ?_; (conv => whnf)
      replace hcf : CellsAt w10.drew (a.add (k * 4)) (faC f) := hcf
      replace h10 : At w10.drew b10 _ _ := h10
      replace hx8 := hx8.drew
      generalize w10.drew = w11 at hcf h10 hx8 ⊢
      refine ⟨a, fun _ => ⟨rfl, by omega, by omega⟩, ?_⟩; (conv => whnf)
      refine ⟨vi f.was, fun _ => cells_at hcf (k := 1) rfl, ?_⟩; (conv => whnf)
      refine ⟨_, fun _ => h10.one rfl, ?_⟩; (conv => whnf)
      refine ⟨_, fun _ => h10.one rfl, ?_⟩; (conv => whnf)
      refine ⟨a, fun _ => ⟨rfl, by omega, by omega⟩, ?_⟩; (conv => whnf)
      refine ⟨vi f.is_, fun _ => cells_at hcf (k := 2) rfl, ?_⟩; (conv => whnf)
      refine ⟨a, fun _ => ⟨rfl, by omega, by omega⟩, ?_⟩; (conv => whnf)
      refine ⟨vi f.is_, fun _ => cells_at hcf (k := 2) rfl, ?_⟩; (conv => whnf)
      refine ⟨a, fun _ => ⟨rfl, by omega, by omega⟩, ?_⟩; (conv => whnf)
      refine ⟨vi f.was, fun _ => cells_at hcf (k := 1) rfl, ?_⟩; (conv => whnf)
      refine ⟨a, fun _ => ⟨rfl, by omega, by omega⟩, ?_⟩; (conv => whnf)
      refine ⟨vi f.looked, fun _ => cells_at hcf (k := 3) rfl, ?_⟩; (conv => whnf)
      constructor
      · intro hq
        exfalso
        simp [f2, f3] at hq
        omega
      · intro _
        (conv => whnf)
        refine ⟨((k + 1 : Nat) : Int), wrap_succ (by omega), ?_⟩; (conv => whnf)
        exact ⟨k + 1, by omega, ⟨by omega, hx8⟩, ⟨rfl, rfl, rfl, rfl, rfl, trivial⟩⟩
    · intro _
      (conv => whnf)
      exact ⟨rfl, hx.trans hx8⟩
end Go.Proofs.YtbfjlpoeglcmfaaGreatDoor
