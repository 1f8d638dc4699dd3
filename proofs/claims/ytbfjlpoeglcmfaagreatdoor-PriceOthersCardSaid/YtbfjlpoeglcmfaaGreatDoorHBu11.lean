import Derived.Test.YtbfjlpoeglcmfaaGreatDoorHBu10

/- The law BudgetKeeps: the walk. -/
set_option linter.unusedVariables false
set_option linter.unusedSimpArgs false
namespace Go.Proofs.YtbfjlpoeglcmfaaGreatDoor
open Go.Se Go.RowKit

theorem rnameX_spec (s : ByteArray) (w : World) : Cal Tryz.prog 26 [.string s] w fun r w' => r = .bool (isName s) ∧ Ext w w' :=
  (rname_spec s w).mono fun r w' h => ⟨h.1, by rw [h.2]; exact Ext.refl _⟩
set_option maxHeartbeats 2000000 in
theorem budgetKeeps_spec (c : Cfg) (l : List Ev) (person : ByteArray) (now : Int) (items : List ByteArray) (b : Bd) (A B : Option Addr) (cap cB : Nat) (w : World) (hg0 : Gl w) (hs : SlE w A l) (ht : SlT w B items) (hn : i64ok' now) :
    Cal Tryz.prog 6 [cfgV c, .slice A l.length cap, .string person, .int .i64 now, .slice B items.length cB, bdV b] w fun r w' => r = .bool true ∧ Ext w w' := by
  refine fn_intro Tt_ok Tryz.func6 (by rfl) rfl _ rfl rfl (by rfl) ?_; (conv => whnf)
  intro b1 w1 hn1; (conv => whnf)
  intro b2 w2 hn2; (conv => whnf)
  refine (llives_spec w2 (hg0.ext (hn1.ext.trans hn2.ext))).mono ?_
  rintro _ w3 ⟨rfl, hx3⟩; (conv => whnf)
  refine ⟨fun h => (by simp at h), fun _ => ?_⟩
  (conv => whnf)
  have hc1 : At w3 b1 _ (cfgC c) := (hn1.At.ext hn2.ext).ext hx3
  have hb1 : At w3 b2 _ (bdC b) := hn2.At.ext hx3
  have hx := (hn1.ext.trans hn2.ext).trans hx3
  refine ⟨cfgC c, ⟨rfl, hc1.all⟩, ?_⟩; (conv => whnf)
  refine (lmade_spec c l A cap w3 (hg0.ext hx) (hs.ext hx)).mono ?_
  rintro r w4 ⟨hx4, hr⟩
  replace hx := hx.trans hx4
  replace hb1 := hb1.ext hx4
  replace hc1 := hc1.ext hx4
  clear hn1 hn2 hx3 hx4
  rcases hr with ⟨_, rfl⟩ | ⟨hok, p, base, rfl, hW⟩
  · (conv => whnf)
    refine draw_rule .ext [0, 1, 2, 3, 4, 5, 6, 7, 8, 9, 10, 11, 12, 13, 14, 15, 16, 17, 18, 19, 20, 23, 24, 21, 22, 25, 26] [] Tt_ok mixed (by kernel_rfl) (by first | (intro h; cases h; done) | (intro _; rfl)) ?_; (conv => whnf)
    replace hx := hx.drew
    replace hb1 := hb1.ext (Ext.refl w4).drew
    generalize w4.drew = w5 at hx hb1 ⊢
    refine ⟨_, eqRun_ptr_nil undWp _ _ _, ?_⟩; (conv => whnf)
    refine ⟨Unit, fun _ => (.bool (isName person)), fun _ w' => Ext w5 w', (), fun hg => ((rnameX_spec person w5)).mono fun r w' h => ⟨(), h.1, h.2⟩, ?_⟩
    intro _ w6 h2
    have hx6 : Ext w5 w6 := by
      rcases h2 with ⟨_, h⟩ | ⟨_, h⟩
      · exact h
      · rw [h]; exact Ext.refl _
    clear h2
    refine ⟨hx6, ?_⟩
    (conv => whnf)
    replace hb1 := hb1.ext hx6
    refine ⟨bdC b, fun _ => ⟨rfl, hb1.all⟩, ?_⟩; (conv => whnf)
    refine ⟨Unit, fun _ => (.bool (!(tickB now && bdB b))), fun _ w' => Ext w6 w', (), fun hg => ((odd_spec b now w6)).mono fun r w' h => ⟨(), h.1, h.2⟩, ?_⟩
    intro _ w7 h2
    have hx7 : Ext w6 w7 := by
      rcases h2 with ⟨_, h⟩ | ⟨_, h⟩
      · exact h
      · rw [h]; exact Ext.refl _
    clear h2
    refine ⟨hx7, ?_⟩
    (conv => whnf)
    replace hb1 := hb1.ext hx7
    refine ⟨_, fun _ => hb1.one rfl, ?_⟩; (conv => whnf)
    refine ⟨Unit, fun _ => .slice none 0 0, fun _ _ => False, (), fun hg => ?_, ?_⟩
    · exfalso
      have hg : ((((none : Option Addr).isNone || decide ((20 : Int) < items.length)) || !isName person) || !(tickB now && bdB b)) = false := hg
      simp at hg
    intro _ w8 h8
    have hw8 : w8 = w7 := by
      rcases h8 with ⟨_, h⟩ | ⟨_, h⟩
      · exact h.elim
      · exact h
    clear h8
    subst hw8
    refine ⟨Ext.refl _, ?_⟩
    (conv => whnf)
    refine ⟨fun _ => ?_, fun h => ?_⟩
    · (conv => whnf)
      exact ⟨rfl, (hx.trans hx6).trans hx7⟩
    · exfalso
      have h : (((((none : Option Addr).isNone || decide ((20 : Int) < items.length)) || !isName person) || !(tickB now && bdB b)) || decide (b.all < (0 : Nat))) = false := h
      simp at h
  obtain ⟨k1, _, k3, k4⟩ := okL_iff.1 hok
  generalize hz : anewL l = z at hW
  have hzl := hW.len
  have hsl := shown_len z person now
  (conv => whnf)
  refine draw_rule .ext [0, 1, 2, 3, 4, 5, 6, 7, 8, 9, 10, 11, 12, 13, 14, 15, 16, 17, 18, 19, 20, 23, 24, 21, 22, 25, 26] [] Tt_ok mixed (by kernel_rfl) (by first | (intro h; cases h; done) | (intro _; rfl)) ?_; (conv => whnf)
  replace hx := hx.drew
  replace hb1 := hb1.ext (Ext.refl w4).drew
  replace hc1 := hc1.ext (Ext.refl w4).drew
  replace hW := hW.ext (Ext.refl w4).drew
  generalize w4.drew = w5 at hx hb1 hc1 hW ⊢
  refine ⟨_, eqRun_ptr_nil undWp _ _ _, ?_⟩; (conv => whnf)
  refine ⟨Unit, fun _ => (.bool (isName person)), fun _ w' => Ext w5 w', (), fun hg => ((rnameX_spec person w5)).mono fun r w' h => ⟨(), h.1, h.2⟩, ?_⟩
  intro _ w6 h2
  have hx6 : Ext w5 w6 := by
    rcases h2 with ⟨_, h⟩ | ⟨_, h⟩
    · exact h
    · rw [h]; exact Ext.refl _
  clear h2
  refine ⟨hx6, ?_⟩
  (conv => whnf)
  replace hx := hx.trans hx6
  replace hb1 := hb1.ext hx6
  replace hc1 := hc1.ext hx6
  replace hW := hW.ext hx6
  refine ⟨bdC b, fun _ => ⟨rfl, hb1.all⟩, ?_⟩; (conv => whnf)
  refine ⟨Unit, fun _ => (.bool (!(tickB now && bdB b))), fun _ w' => Ext w6 w', (), fun hg => ((odd_spec b now w6)).mono fun r w' h => ⟨(), h.1, h.2⟩, ?_⟩
  intro _ w7 h2
  have hx7 : Ext w6 w7 := by
    rcases h2 with ⟨_, h⟩ | ⟨_, h⟩
    · exact h
    · rw [h]; exact Ext.refl _
  clear h2
  refine ⟨hx7, ?_⟩
  (conv => whnf)
  replace hx := hx.trans hx7
  replace hb1 := hb1.ext hx7
  replace hc1 := hc1.ext hx7
  replace hW := hW.ext hx7
  refine ⟨_, fun _ => hb1.one rfl, ?_⟩; (conv => whnf)
  refine ⟨Option Addr × Nat, fun j => .slice j.1 ((shownL z person now).map (shOf z now)).length j.2, fun j w' => Ext w7 w', (none, 0), fun _ => (lshown_spec hW person now hn).mono (fun r w' ⟨A', c', h1, h2, h3⟩ => ⟨(A', c'), h1, h3⟩), ?_⟩
  rintro ⟨A8, c8⟩ w8 h8
  have hx8 : Ext w7 w8 := by
    rcases h8 with ⟨_, h⟩ | ⟨_, h⟩
    · exact h
    · rw [h]; exact Ext.refl _
  clear h8
  refine ⟨hx8, ?_⟩
  replace hx := hx.trans hx8
  replace hb1 := hb1.ext hx8
  replace hc1 := hc1.ext hx8
  replace hW := hW.ext hx8
  (conv => whnf)
  refine ⟨fun _ => ?_, fun hq => ?_⟩
  · (conv => whnf)
    exact ⟨rfl, hx⟩
  have hq : (((((some (⟨p, 0, none⟩ : Addr)).isNone || decide ((20 : Int) < items.length)) || !isName person) || !(tickB now && bdB b)) || decide (b.all < (((shownL z person now).map (shOf z now)).length : Nat))) = false := hq
  rw [List.length_map] at hq
  simp only [Bool.or_eq_false_iff, Bool.not_eq_false', Bool.and_eq_true, decide_eq_false_iff_not, Option.isNone_some, true_and] at hq
  obtain ⟨⟨⟨q1, q2⟩, q3, q4⟩, q5⟩ := hq
  have hil : items.length ≤ 20 := by omega
  have hall : ((shownL z person now).length : Int) ≤ b.all := by omega
  have htb : (tickB now && bdB b) = true := by rw [q3, q4]; rfl
  clear hx6 hx7 hx8 q1 q5
  (conv => whnf)
  refine ⟨bdC b, ⟨rfl, hb1.all⟩, ?_⟩; (conv => whnf)
  refine (bPass_spec b hW person now hn items B cB (ht.ext hx) (by omega)).mono ?_
  rintro _ w9 ⟨A9, c9, rfl, hs9, hx9⟩
  rw [if_pos htb] at hs9 ⊢
  have hkept := pass_kept b z now (shownL z person now) items hall
  have hPl : (passL b z now (shownL z person now) items).length ≤ 20 := by have := (passS_len b z now (shownL z person now) items).2; unfold passL; omega
  have hKe : ∀ x ∈ passL b z now (shownL z person now) items, cntB (shownL z person now ++ passL b z now (shownL z person now) items) x ≤ b.item ∧ cntB (shownL z person now) x < b.item ∧ (mkAt z now x ≠ ⟨#[]⟩ → cntB ((shownL z person now ++ passL b z now (shownL z person now) items).map (mkAt z now)) (mkAt z now x) ≤ b.maker) := by
    intro x hx
    have := hkept.all x hx
    rw [hkept.eq] at this
    exact this
  have hKl : ((shownL z person now ++ passL b z now (shownL z person now) items).length : Int) ≤ b.all := by
    have := hkept.len
    rw [hkept.eq] at this
    exact this
  clear hkept
  generalize passL b z now (shownL z person now) items = P at hs9 hPl hKe hKl ⊢
  replace hx := hx.trans hx9
  replace hb1 := hb1.ext hx9
  replace hc1 := hc1.ext hx9
  replace hW := hW.ext hx9
  clear hx9
  (conv => whnf)
  intro b10 w10 hn10; (conv => whnf)
  have o10 := rowEv.made (base := w9.heap.size) hn10 (Nat.le_refl _)
  refine append_row rowEv (l := []) (news := l) rfl o10 rfl ((hs.ext hx).ext hn10.ext) (by simp; omega) hn10.ext.size fun A11 c11 w11 hown11 hg11 hA11 => ?_
  have hx11 : Ext w9 w11 := ext_grown hn10.ext hg11 (own_ge o10)
  replace hown11 : Own evC 8 47 w9.heap.size w11 A11 c11 (l ++ newL person now P 0) := by simpa [newL] using hown11
  clear hg11 hn10 o10 hA11
  (conv => whnf)
  refine loop_rule Tt_ok (fun (i : Nat × Option Addr × Nat) w' => i.1 ≤ P.length ∧ Ext w9 w' ∧ Own evC 8 47 w9.heap.size w' i.2.1 i.2.2 (l ++ newL person now P i.1) ∧ ∀ j, j < i.1 → isName (P.getD j .empty) = true)
    (fun i => [(1, .slice A l.length cap), (2, .string person), (3, .int .i64 now), (6, .pointer (some ⟨b1, 0, none⟩)), (11, .pointer (some ⟨b2, 0, none⟩)), (13, .pointer (some ⟨p, 0, none⟩)), (14, .slice A9 P.length c9), (15, .slice i.2.1 (l ++ newL person now P i.1).length i.2.2), (16, .int .i64 i.1)]) (fun i => P.length - i.1) (0, A11, c11)
    ⟨by simp, hx11, hown11, fun j h => by omega⟩ ⟨rfl, rfl, rfl, rfl, rfl, rfl, rfl, by simp [newL]; rfl, rfl, trivial⟩ ?_
  clear hx11 hown11
  rintro ⟨k, A12, c12⟩ w12 ⟨hk, hx12, hown12, hnm⟩
  simp only at hk hown12 hnm
  (conv => whnf)
  constructor
  · intro hlt
    have hlt : k < P.length := by simpa using hlt
    obtain ⟨a, rfl, hce⟩ := hs9.get hlt
    have hxm := hKe P[k] (List.getElem_mem hlt)
    have hgd : P.getD k .empty = P[k] := getD_lt hlt
    have hnl := newL_len person now P k
    have hns := newL_succ person now P k
    generalize hPk : P[k] = x at hce hxm hgd
    have hLl : (l ++ newL person now P k).length ≤ 100 := by simp [hnl]; omega
    generalize hL : l ++ newL person now P k = L at hown12 hLl ⊢
    (conv => whnf)
    refine draw_rule .ext [0, 1, 2, 3, 4, 5, 6, 7, 8, 9, 10, 11, 12, 13, 15, 16, 14, 17, 18] [] Tt_ok mixed (by kernel_rfl) (by first | (intro h; cases h; done) | (intro _; rfl)) ?_; (conv => whnf)
    replace hx12 := hx12.drew
    replace hown12 := hown12.ext (Ext.refl w12).drew
    generalize w12.drew = w13 at hx12 hown12 ⊢
    have hce13 := hx12.cell (cells_head hce)
    refine ⟨a, ⟨rfl, by omega, by omega⟩, ?_⟩; (conv => whnf)
    refine ⟨_, hce13, ?_⟩; (conv => whnf)
    refine (rnameX_spec x w13).mono ?_
    rintro _ w14 ⟨rfl, hx14⟩
    refine ⟨hx14, ?_⟩
    replace hx12 := hx12.trans hx14
    replace hown12 := hown12.ext hx14
    have hb14 := hb1.ext hx12
    (conv => whnf)
    refine ⟨a, fun _ => ⟨rfl, by omega, by omega⟩, ?_⟩; (conv => whnf)
    refine ⟨_, fun _ => hx14.cell hce13, ?_⟩; (conv => whnf)
    refine ⟨_, fun _ => hb14.one rfl, ?_⟩; (conv => whnf)
    have hsp := bShown_spec (hW.ext hx12) person x now hn
    rw [if_pos q3] at hsp
    refine ⟨Unit, fun _ => (.int .i64 (cntB (shownL z person now) x)), fun _ w' => Ext w14 w', (), fun hg => ((hsp)).mono fun r w' h => ⟨(), h.1, h.2⟩, ?_⟩
    intro _ w15 h2
    have hx15 : Ext w14 w15 := by
      rcases h2 with ⟨_, h⟩ | ⟨_, h⟩
      · exact h
      · rw [h]; exact Ext.refl _
    clear h2
    refine ⟨hx15, ?_⟩
    (conv => whnf)
    replace hx12 := hx12.trans hx15
    replace hown12 := hown12.ext hx15
    clear hsp hx14 hce13
    have hce15 := hx12.cell (cells_head hce)
    refine ⟨fun hq => ?_, fun hq => ?_⟩
    · have hq : (!isName x || decide (b.item ≤ cntB (shownL z person now) x)) = true := hq
      have hno : isName x = false := by
        cases h : isName x
        · rfl
        · rw [h] at hq
          simp at hq
          omega
      (conv => whnf)
      refine ⟨a, ⟨rfl, by omega, by omega⟩, ?_⟩; (conv => whnf)
      refine ⟨_, hce15, ?_⟩; (conv => whnf)
      refine (rnameX_spec x w15).mono ?_
      rintro _ w16 ⟨rfl, hx16⟩
      rw [hno]
      (conv => whnf)
      exact ⟨rfl, (hx.trans hx12).trans hx16⟩
    · have hq : (!isName x || decide (b.item ≤ cntB (shownL z person now) x)) = false := hq
      have hyes : isName x = true := by
        cases h : isName x
        · rw [h] at hq; simp at hq
        · rfl
      (conv => whnf)
      refine ⟨((k + 1 : Nat) : Int), wrap_succ (by omega), ?_⟩; (conv => whnf)
      refine ⟨a, ⟨rfl, by omega, by omega⟩, ?_⟩; (conv => whnf)
      refine ⟨_, hce15, ?_⟩; (conv => whnf)
      intro b16 w16 hn16; (conv => whnf)
      have hx16 := hx12.trans hn16.ext
      have hnew : newE person now P k = ⟨zzB, ((k + 1 : Nat) : Int), now, 0, person, x, 0, ⟨#[]⟩⟩ := by unfold newE; rw [hgd]
      refine append_row rowEv (l := L) (news := [⟨zzB, ((k + 1 : Nat) : Int), now, 0, person, x, 0, ⟨#[]⟩⟩]) rfl (hown12.ext hn16.ext) rfl (rowEv.new1 (x := ⟨zzB, ((k + 1 : Nat) : Int), now, 0, person, x, 0, ⟨#[]⟩⟩) hn16) (by simp; omega) hx16.size fun A17 c17 w17 hown17 hg17 hA17 => ?_
      have hL1 : L ++ [(⟨zzB, ((k + 1 : Nat) : Int), now, 0, person, x, 0, ⟨#[]⟩⟩ : Ev)] = l ++ newL person now P (k + 1) := by rw [hns, ← hL, hnew, List.append_assoc]
      rw [hL1] at hown17 ⊢
      (conv => whnf)
      refine ⟨((k + 1 : Nat) : Int), wrap_succ (by omega), ?_⟩; (conv => whnf)
      refine ⟨(k + 1, A17, c17), by simp; omega, ⟨by simp; omega, ext_grown hx16 hg17 (own_ge hown12), hown17, fun j hj => ?_⟩, ⟨rfl, rfl, rfl, rfl, rfl, rfl, rfl, rfl, rfl, trivial⟩⟩
      by_cases e : j = k
      · subst e; rw [hgd]; exact hyes
      · exact hnm j (by simp at hj; omega)
  intro hge
  have hge : k = P.length := by simp at hge; omega
  subst hge
  have hs12 := hown12.sl evC_len
  have hnl := newL_len person now P P.length
  have hmay : ∀ e ∈ l ++ newL person now P P.length, mayB e = true := fun e he => by
    rcases List.mem_append.1 he with he | he
    · exact k3 e he
    · exact new_may q2 q3 (by omega) hnm e he
  clear hown12 hnm
  replace hx := hx.trans hx12
  replace hb1 := hb1.ext hx12
  replace hc1 := hc1.ext hx12
  replace hs9 := hs9.ext hx12
  clear hx12 hW
  (conv => whnf)
  refine loop_rule Tt_ok (fun (i : Nat) w' => i ≤ l.length ∧ w' = w12 ∧ ∀ j (hj : j < l.length), j < i → l[j].src ≠ zzB ∧ ¬ (l[j].kind = 14 ∧ l[j].person = person))
    (fun i => [(1, .slice A l.length cap), (2, .string person), (3, .int .i64 now), (6, .pointer (some ⟨b1, 0, none⟩)), (11, .pointer (some ⟨b2, 0, none⟩)), (14, .slice A9 P.length c9), (15, .slice A12 (l ++ newL person now P P.length).length c12), (17, .int .i64 i)]) (fun i => l.length - i) 0
    ⟨by omega, rfl, fun j hj h => by omega⟩ ⟨rfl, rfl, rfl, rfl, rfl, rfl, rfl, rfl, trivial⟩ ?_
  rintro i w13 ⟨hi, hw13, hno⟩
  replace hw13 := hw13.symm
  subst hw13
  (conv => whnf)
  constructor
  · intro hlt
    have hlt : i < l.length := by simpa using hlt
    obtain ⟨a, rfl, hce⟩ := (hs.ext hx).get hlt
    (conv => whnf)
    refine ⟨a, ⟨rfl, by omega, by omega⟩, ?_⟩; (conv => whnf)
    refine ⟨_, cells_at hce (k := 0) rfl, ?_⟩; (conv => whnf)
    refine ⟨a, fun _ => ⟨rfl, by omega, by omega⟩, ?_⟩; (conv => whnf)
    refine ⟨_, fun _ => cells_at hce (k := 3) rfl, ?_⟩; (conv => whnf)
    refine ⟨a, fun _ _ => ⟨rfl, by omega, by omega⟩, ?_⟩; (conv => whnf)
    refine ⟨_, fun _ _ => cells_at hce (k := 4) rfl, ?_⟩; (conv => whnf)
    refine ⟨fun _ => ?_, fun hq => ?_⟩
    · (conv => whnf)
      exact ⟨rfl, hx⟩
    have hq : (decide (l[i].src = zzB) || (decide (l[i].kind = 14) && decide (l[i].person = person))) = false := hq
    simp only [Bool.or_eq_false_iff, decide_eq_false_iff_not, Bool.and_eq_false_iff] at hq
    (conv => whnf)
    refine ⟨((i + 1 : Nat) : Int), wrap_succ (by omega), ?_⟩; (conv => whnf)
    refine ⟨i + 1, by omega, ⟨by omega, rfl, fun j hj h => ?_⟩, ⟨rfl, rfl, rfl, rfl, rfl, rfl, rfl, rfl, trivial⟩⟩
    by_cases e : j = i
    · subst e
      exact ⟨hq.1, fun h => by rcases hq.2 with h1 | h1; exact h1 h.1; exact h1 h.2⟩
    · exact hno j hj (by omega)
  intro hge2
  have hge2 : l.length ≤ i := by simpa using hge2
  have hzz : ∀ e ∈ l, e.src ≠ zzB := fun e he => by
    obtain ⟨j, hj, rfl⟩ := List.getElem_of_mem he
    exact (hno j hj (by omega)).1
  have hfg : ∀ e ∈ l, ¬ (e.kind = 14 ∧ e.person = person) := fun e he => by
    obtain ⟨j, hj, rfl⟩ := List.getElem_of_mem he
    exact (hno j hj (by omega)).2
  have hmk := things_new hmay hzz hfg
  have hsh := shown_new (now := now) (pass := P) hzz hfg
  rw [hz] at hmk hsh
  have hNl : (l ++ newL person now P P.length).length ≤ 100 := by simp [hnl]; omega
  clear hno hzz hfg hnl
  generalize l ++ newL person now P P.length = NX at hs12 hmay hmk hsh hNl ⊢
  (conv => whnf)
  refine ⟨cfgC c, ⟨rfl, hc1.all⟩, ?_⟩; (conv => whnf)
  refine (made_spec c k4 NX A12 c12 w12 (hg0.ext hx) hs12 (by omega) hmay).mono ?_
  rintro _ w14 ⟨p', rfl, hW, hx14⟩
  replace hx := hx.trans hx14
  replace hb1 := hb1.ext hx14
  replace hs9 := hs9.ext hx14
  generalize anewL NX = z' at hW hmk hsh
  have hsl' := shown_len z' person now
  have hzl' := hW.len
  clear hx14 hs12 hc1
  (conv => whnf)
  refine ⟨_, fun _ => eqRun_ptr_nil undWp _ _ _, ?_⟩; (conv => whnf)
  refine ⟨fun h => (by simp at h), fun _ => ?_⟩
  (conv => whnf)
  refine (lshown_spec hW person now hn).mono ?_
  rintro _ w15 ⟨A15, c15, rfl, hs15, hx15⟩
  replace hx := hx.trans hx15
  replace hb1 := hb1.ext hx15
  replace hs9 := hs9.ext hx15
  replace hW := hW.ext hx15
  have hLs := map_snd z' now (shownL z' person now)
  have hLl : ((shownL z' person now).map (shOf z' now)).length = (shownL z' person now).length := List.length_map _
  generalize (shownL z' person now).map (shOf z' now) = L at hs15 hLs hLl ⊢
  clear hx15
  (conv => whnf)
  intro b16 w16 hn16; (conv => whnf)
  have e16 := hn16.block
  have hx16 := hn16.ext
  refine loop_rule Tt_ok (fun (i : Nat × List (ByteArray × Int)) w' => i.1 ≤ L.length ∧ Ext w15 w' ∧ MapAt w' b16 Value.string (venc vi i.2) ∧ ∀ x, (alook i.2 x).getD 0 = cntB ((L.take i.1).map (·.2)) x)
    (fun i => [(2, .string person), (3, .int .i64 now), (11, .pointer (some ⟨b2, 0, none⟩)), (14, .slice A9 P.length c9), (18, .pointer (some ⟨p', 0, none⟩)), (20, .slice A15 L.length c15), (21, .map (some b16)), (22, .int .i64 i.1)]) (fun i => L.length - i.1) (0, [])
    ⟨by simp, hx16, MapAt.new hn16, fun x => rfl⟩ ⟨rfl, rfl, rfl, rfl, rfl, rfl, rfl, rfl, trivial⟩ ?_
  clear hx16 hn16
  rintro ⟨k, m⟩ w17 ⟨hk, hx17, hm17, hcm⟩
  simp only at hk hm17 hcm
  (conv => whnf)
  constructor
  · intro hlt
    have hlt : k < L.length := by simpa using hlt
    obtain ⟨a, rfl, hce⟩ := (hs15.ext hx17).get hlt
    have htk := take_next L k hlt
    generalize L[k] = y at hce htk
    have hcy := hcm y.2
    have hcl := cnt_le ((L.take k).map (·.2)) y.2
    rw [List.length_map, List.length_take] at hcl
    (conv => whnf)
    refine ⟨a, ⟨rfl, by omega, by omega⟩, ?_⟩; (conv => whnf)
    refine ⟨_, cells_at hce (k := 1) rfl, ?_⟩; (conv => whnf)
    refine ⟨_, look_cnt hm17 kept_same y.2 hcy, ?_⟩; (conv => whnf)
    refine ⟨cntB ((L.take k).map (·.2)) y.2 + 1, wrap_eq rfl ⟨by omega, by omega⟩, ?_⟩; (conv => whnf)
    refine map_update undSI (key_string undStr) hm17 y.2 _ fun w18 hm18 ho18 => ?_
    have hm18 : MapAt w18 b16 Value.string (aset (venc vi m) y.2 (vi (cntB ((L.take k).map (·.2)) y.2 + 1))) := hm18
    rw [aset_venc] at hm18
    (conv => whnf)
    refine ⟨((k + 1 : Nat) : Int), wrap_succ (by omega), ?_⟩; (conv => whnf)
    refine ⟨(k + 1, _), by simp; omega, ⟨by simp; omega, ho18.ext hx17 (by omega), hm18, fun x => ?_⟩, ⟨rfl, rfl, rfl, rfl, rfl, rfl, rfl, rfl, trivial⟩⟩
    simp only
    rw [htk, List.map_append, List.map_cons, List.map_nil, cnt_snoc, alook_aset]
    by_cases e : x = y.2
    · subst e; simp
    · rw [if_neg e, if_neg e, hcm x]; simp
  intro hge3
  have hge3 : L.length ≤ k := by simpa using hge3
  rw [List.take_of_length_le hge3, hLs] at hcm
  replace hx := hx.trans hx17
  replace hb1 := hb1.ext hx17
  replace hs9 := hs9.ext hx17
  replace hW := hW.ext hx17
  rw [hLl]
  clear hLs hs15 hx17 hk hge3 hge2 hi hLl
  have hlen := hsh.length_eq
  (conv => whnf)
  refine loop_rule Tt_ok (fun (i : Nat) w' => i ≤ P.length ∧ Ext w17 w')
    (fun i => [(2, .string person), (3, .int .i64 now), (11, .pointer (some ⟨b2, 0, none⟩)), (14, .slice A9 P.length c9), (18, .pointer (some ⟨p', 0, none⟩)), (20, .slice A15 (shownL z' person now).length c15), (21, .map (some b16)), (23, .int .i64 i)]) (fun i => P.length - i) 0
    ⟨by omega, Ext.refl _⟩ ⟨rfl, rfl, rfl, rfl, rfl, rfl, rfl, rfl, trivial⟩ ?_
  rintro i w18 ⟨hi, hx18⟩
  (conv => whnf)
  constructor
  · intro hlt
    have hlt : i < P.length := by simpa using hlt
    obtain ⟨a, rfl, hce⟩ := hs9.get hlt
    obtain ⟨g1, _, g3⟩ := hKe P[i] (List.getElem_mem hlt)
    generalize P[i] = x at hce g1 g3
    have g1' : cntB (shownL z' person now) x ≤ b.item := by rw [cnt_perm hsh]; exact g1
    have g3' : mkAt z' now x ≠ ⟨#[]⟩ → cntB ((shownL z' person now).map (mkAt z' now)) (mkAt z' now x) ≤ b.maker := fun h => by
      rw [hmk] at h ⊢
      rw [cnt_perm (hsh.map _)]
      exact g3 h
    (conv => whnf)
    refine ⟨a, ⟨rfl, by omega, by omega⟩, ?_⟩; (conv => whnf)
    refine ⟨_, hx18.cell (cells_head hce), ?_⟩; (conv => whnf)
    refine (lshow_spec (hW.ext hx18) x now).mono ?_
    rintro _ w19 ⟨rfl, hx19⟩
    have hy : (shOf z' now x).2 = mkAt z' now x := rfl
    generalize shOf z' now x = y at hy ⊢
    replace hx19 := hx18.trans hx19
    (conv => whnf)
    refine draw_rule .ext [0, 1, 2, 3, 4, 5, 6, 8, 9, 7, 10, 11, 12, 13, 14, 15, 16, 17, 18, 19, 20, 21, 22] [] Tt_ok mixed (by kernel_rfl) (by first | (intro h; cases h; done) | (intro _; rfl)) ?_; (conv => whnf)
    replace hx19 := hx19.drew
    generalize w19.drew = w20 at hx19 ⊢
    have hb20 := hb1.ext hx19
    have hm20 := hm17.ext hx19
    refine ⟨a, ⟨rfl, by omega, by omega⟩, ?_⟩; (conv => whnf)
    refine ⟨_, hx19.cell (cells_head hce), ?_⟩; (conv => whnf)
    refine ⟨_, hb20.one rfl, ?_⟩; (conv => whnf)
    have hsp := bShown_spec (hW.ext hx19) person x now hn
    rw [if_pos q3] at hsp
    refine hsp.mono ?_
    rintro _ w21 ⟨rfl, hx21⟩
    refine ⟨hx21, ?_⟩
    replace hx19 := hx19.trans hx21
    replace hb20 := hb20.ext hx21
    replace hm20 := hm20.ext hx21
    clear hsp
    (conv => whnf)
    refine ⟨.int .i64 (cntB ((shownL z' person now).map (mkAt z' now)) y.2), fun _ _ => look_cnt hm20 (kept_ext hm20.lt) y.2 (hcm y.2), ?_⟩; (conv => whnf)
    refine ⟨_, fun _ _ => hb20.one rfl, ?_⟩; (conv => whnf)
    refine ⟨fun hq => ?_, fun _ => ?_⟩
    · exfalso
      have hq : (decide (b.item < cntB (shownL z' person now) x) || ((!decide (y.2 = ⟨#[]⟩)) && decide (b.maker < cntB ((shownL z' person now).map (mkAt z' now)) y.2))) = true := hq
      rw [hy] at hq
      simp only [Bool.or_eq_true, Bool.and_eq_true, decide_eq_true_eq, Bool.not_eq_true', decide_eq_false_iff_not] at hq
      rcases hq with h | ⟨h1, h2⟩
      · omega
      · have := g3' h1; omega
    (conv => whnf)
    refine ⟨((i + 1 : Nat) : Int), wrap_succ (by omega), ?_⟩; (conv => whnf)
    exact ⟨i + 1, by omega, ⟨by omega, hx19⟩, ⟨rfl, rfl, rfl, rfl, rfl, rfl, rfl, rfl, trivial⟩⟩
  intro _
  have hb18 := hb1.ext hx18
  (conv => whnf)
  refine ⟨_, hb18.one rfl, ?_⟩; (conv => whnf)
  refine ⟨?_, hx.trans hx18⟩
  rw [hlen]
  rw [decide_eq_true hKl]
end Go.Proofs.YtbfjlpoeglcmfaaGreatDoor
