import Derived.Test.YtbfjlpoeglcmfaaGreatDoorHBu7

/- The laws BudgetPasses, BudgetSpent. -/
set_option linter.unusedVariables false
set_option linter.unusedSimpArgs false
namespace Go.Proofs.YtbfjlpoeglcmfaaGreatDoor
open Go.Se Go.RowKit

theorem budgetPasses_spec (c : Cfg) (l : List Ev) (person : ByteArray) (now : Int) (items : List ByteArray) (b : Bd) (A B : Option Addr) (cap cB : Nat) (w : World) (hg0 : Gl w) (hs : SlE w A l) (ht : SlT w B items) (hn : i64ok' now) :
    Cal Tryz.prog 3 [cfgV c, .slice A l.length cap, .string person, .int .i64 now, .slice B items.length cB, bdV b] w fun r w' => r = .bool true ∧ Ext w w' := by
  refine fn_intro Tt_ok Tryz.func3 (by rfl) rfl _ rfl rfl (by rfl) ?_; (conv => whnf)
  intro b1 w1 hn1; (conv => whnf)
  intro b2 w2 hn2; (conv => whnf)
  refine (llives_spec w2 (hg0.ext (hn1.ext.trans hn2.ext))).mono ?_
  rintro _ w3 ⟨rfl, hx3⟩; (conv => whnf)
  refine ⟨fun h => (by simp at h), fun _ => ?_⟩
  (conv => whnf)
  have hc1 : At w3 b1 _ (cfgC c) := (hn1.At.ext hn2.ext).ext hx3
  have hb1 : At w3 b2 _ (bdC b) := hn2.At.ext hx3
  have hx := (hn1.ext.trans hn2.ext).trans hx3
  refine ⟨cfgC c, ⟨rfl, hc1.all⟩, ?_⟩; (conv => whnf)
  refine (lmade_spec c l A cap w3 (hg0.ext hx) (hs.ext hx)).mono ?_
  rintro r w4 ⟨hx4, hr⟩
  replace hx := hx.trans hx4
  replace hb1 := hb1.ext hx4
  clear hn1 hn2 hx3 hc1 hx4
  rcases hr with ⟨_, rfl⟩ | ⟨hok, p, base, rfl, hW⟩
  · (conv => whnf)
    refine ⟨_, eqRun_ptr_nil undWp _ _ _, ?_⟩; (conv => whnf)
    refine ⟨fun _ => ?_, fun h => (by simp at h)⟩
    (conv => whnf)
    exact ⟨rfl, hx⟩
  (conv => whnf)
  refine ⟨_, eqRun_ptr_nil undWp _ _ _, ?_⟩; (conv => whnf)
  refine ⟨fun _ => ?_, fun hq => ?_⟩
  · (conv => whnf)
    exact ⟨rfl, hx⟩
  have hil : items.length ≤ 30 := by
    have hq : ((false || decide ((300 : Int) < person.size)) || decide ((30 : Int) < items.length)) = false := hq
    simp at hq
    omega
  (conv => whnf)
  generalize hz : anewL l = z at hW
  have hzl := hW.len
  have hsl := shown_len z person now
  refine loop_rule Tt_ok (fun (i : Nat × Option Addr × Nat) w' => i.1 ≤ items.length ∧ Ext w4 w' ∧ Own shC 2 33 w4.heap.size w' i.2.1 i.2.2 ((items.take i.1).map (shOf z now)))
    (fun i => [(2, .string person), (3, .int .i64 now), (4, .slice B items.length cB), (11, .pointer (some ⟨b2, 0, none⟩)), (13, .pointer (some ⟨p, 0, none⟩)), (14, .slice i.2.1 ((items.take i.1).map (shOf z now)).length i.2.2), (15, .int .i64 i.1)]) (fun i => items.length - i.1) (0, none, 0)
    ⟨by simp, Ext.refl _, Own.nil⟩ ⟨rfl, rfl, rfl, rfl, rfl, rfl, rfl, trivial⟩ ?_
  rintro ⟨k, A5, c5⟩ w5 ⟨hk, hx5, hown5⟩
  simp only at hk hown5
  (conv => whnf)
  constructor
  · intro hlt
    have hlt : k < items.length := by simpa using hlt
    obtain ⟨a, rfl, hce⟩ := ht.get hlt
    have htk := take_next items k hlt
    generalize items[k] = x at hce htk
    have hsn : (items.take (k + 1)).map (shOf z now) = (items.take k).map (shOf z now) ++ [shOf z now x] := by rw [htk, List.map_append]; rfl
    have hLl : ((items.take k).map (shOf z now)).length ≤ 30 := by rw [List.length_map, List.length_take]; omega
    generalize (items.take k).map (shOf z now) = L at hown5 hsn hLl ⊢
    have hce5 := (hx.trans hx5).cell (cells_head hce)
    (conv => whnf)
    refine ⟨a, ⟨rfl, by omega, by omega⟩, ?_⟩; (conv => whnf)
    refine ⟨_, hce5, ?_⟩; (conv => whnf)
    refine ⟨fun _ => ?_, fun _ => ?_⟩
    · (conv => whnf)
      exact ⟨rfl, hx.trans hx5⟩
    (conv => whnf)
    refine ⟨a, ⟨rfl, by omega, by omega⟩, ?_⟩; (conv => whnf)
    refine ⟨_, hce5, ?_⟩; (conv => whnf)
    refine (lshow_spec (hW.ext hx5) x now).mono ?_
    rintro _ w6 ⟨rfl, hx6⟩
    generalize shOf z now x = y at hsn ⊢
    (conv => whnf)
    intro b7 w7 hn7; (conv => whnf)
    have hx7 := (hx5.trans hx6).trans hn7.ext
    refine append_row rowSh (l := L) (news := [y]) rfl ((hown5.ext hx6).ext hn7.ext) rfl (rowSh.new1 (x := y) hn7) (by simp; omega) hx7.size fun A8 c8 w8 hown8 hg8 hA8 => ?_
    (conv => whnf)
    refine ⟨((k + 1 : Nat) : Int), wrap_succ (by omega), ?_⟩; (conv => whnf)
    exact ⟨(k + 1, A8, c8), by simp; omega, ⟨by simp; omega, ext_grown hx7 hg8 (own_ge hown5), by rw [hsn]; exact hown8⟩, ⟨rfl, rfl, rfl, rfl, rfl, by rw [hsn]; rfl, rfl, trivial⟩⟩
  · intro hge
    have hge : items.length ≤ k := by simpa using hge
    rw [List.take_of_length_le hge] at hown5 ⊢
    replace hx := hx.trans hx5
    replace hb1 := hb1.ext hx5
    replace hW := hW.ext hx5
    (conv => whnf)
    refine ⟨bdC b, ⟨rfl, hb1.all⟩, ?_⟩; (conv => whnf)
    refine (bPass_spec b hW person now hn items B cB (ht.ext hx) (by omega)).mono ?_
    rintro _ w6 ⟨A6, c6, rfl, hs6, hx6⟩
    replace hx := hx.trans hx6
    replace hb1 := hb1.ext hx6
    replace hW := hW.ext hx6
    replace hown5 := hown5.ext hx6
    generalize hT : (if (tickB now && bdB b) = true then passL b z now (shownL z person now) items else []) = T at hs6 ⊢
    (conv => whnf)
    refine ⟨bdC b, ⟨rfl, hb1.all⟩, ?_⟩; (conv => whnf)
    refine (odd_spec b now w6).mono ?_
    rintro _ w7 ⟨rfl, hx7⟩; (conv => whnf)
    replace hx := hx.trans hx7
    replace hb1 := hb1.ext hx7
    replace hW := hW.ext hx7
    replace hown5 := hown5.ext hx7
    replace hs6 := hs6.ext hx7
    constructor
    · intro hc
      have hc : (!(tickB now && bdB b)) = true := hc
      rw [Bool.not_eq_true'] at hc
      rw [hc] at hT
      have hT : T = [] := by simpa using hT.symm
      subst hT
      (conv => whnf)
      exact ⟨rfl, hx⟩
    · intro hc
      have hc : (!(tickB now && bdB b)) = false := hc
      rw [Bool.not_eq_false'] at hc
      rw [if_pos hc] at hT
      have hb : bdB b = true := (Bool.and_eq_true_iff.1 hc).2
      obtain ⟨k1, k2, k3⟩ := bd_bounds hb
      (conv => whnf)
      refine draw_rule .ext [0, 1, 2, 3, 4, 5, 6, 7, 8, 9, 11, 10, 12] [13, 14] Tt_ok mixed (by kernel_rfl) (by first | (intro h; cases h; done) | (intro _; rfl)) ?_; (conv => whnf)
      replace hx := hx.drew
      replace hb1 := hb1.ext (Ext.refl w7).drew
      replace hW := hW.ext (Ext.refl w7).drew
      replace hown5 := hown5.ext (Ext.refl w7).drew
      replace hs6 := hs6.ext (Ext.refl w7).drew
      generalize w7.drew = w8 at hx hb1 hW hown5 hs6 ⊢
      refine ⟨_, hb1.one rfl, ?_⟩; (conv => whnf)
      refine ⟨_, hb1.one rfl, ?_⟩; (conv => whnf)
      refine ⟨_, hb1.one rfl, ?_⟩; (conv => whnf)
      refine (lshown_spec hW person now hn).mono ?_
      rintro _ w9 ⟨A9, c9, rfl, hs9, hx9⟩
      refine ⟨hx9, ?_⟩
      have hre := rpass_eq b z now (shownL z person now) items
      have hLl : ((shownL z person now).map (shOf z now)).length < 100000 := by
        rw [List.length_map]
        have h1 := anew_len l
        have h2 := (okL_iff.1 hok).1
        rw [hz] at h1
        omega
      have hIl : (items.map (shOf z now)).length < 100000 := by rw [List.length_map]; omega
      replace hown5 := (hown5.ext hx9).sl shC_len
      generalize (shownL z person now).map (shOf z now) = L at hs9 hre hLl ⊢
      generalize items.map (shOf z now) = I at hown5 hre hIl ⊢
      (conv => whnf)
      refine (rpass_spec b.item b.maker b.all k1 k2 k3 L I A9 A5 c9 c5 w9 hs9 hown5 hLl hIl).mono ?_
      rintro _ w10 ⟨A10, c10, rfl, hs10, hx10⟩
      refine ⟨hx10, ?_⟩
      rw [hre] at hs10 ⊢
      have hT : (passS b z now (shownL z person now) items).2 = T := hT
      simp only at hs10 ⊢
      rw [hT] at hs10 ⊢
      have hTl : T.length < 1000000000000 := by rw [← hT]; have := (passS_len b z now (shownL z person now) items).2; omega
      (conv => whnf)
      refine (texts_spec T T A6 A10 c6 c10 w10 ((hs6.ext hx9).ext hx10) hs10 hTl).mono ?_
      rintro _ w11 ⟨rfl, hx11⟩; (conv => whnf)
      exact ⟨by simp, (hx.trans hx9).trans (hx10.trans hx11)⟩

/-! ### BudgetSpent -/
def min3 (b : Bd) (z : List Ev) (now : Int) (l : List ByteArray) (x : ByteArray) : Int :=
  if mkAt z now x = ⟨#[]⟩ then min (b.item - cntB l x) (b.all - l.length) else min (min (b.item - cntB l x) (b.all - l.length)) (b.maker - cntB (l.map (mkAt z now)) (mkAt z now x))
theorem left_min3 (b : Bd) (z : List Ev) (now : Int) (l : List ByteArray) (x : ByteArray) : leftN b z now l x = max (min3 b z now l x) 0 := by
  unfold leftN min3 left2
  split
  · rfl
  · omega
theorem min3_snoc (b : Bd) (z : List Ev) (now : Int) (l : List ByteArray) (x : ByteArray) : min3 b z now (l ++ [x]) x = min3 b z now l x - 1 := by
  unfold min3
  rw [List.map_append, List.map_cons, List.map_nil, cnt_snoc, cnt_snoc, if_pos rfl, if_pos rfl, List.length_append]
  simp only [List.length_cons, List.length_nil]
  split <;> omega
theorem min3_le (b : Bd) (z : List Ev) (now : Int) (l : List ByteArray) (x : ByteArray) : min3 b z now l x ≤ b.item := by
  have := cnt_le l x
  unfold min3
  split <;> omega
theorem pass3 (b : Bd) (z : List Ev) (now : Int) (l : List ByteArray) (x : ByteArray) : passL b z now l [x, x, x] = List.replicate (min (leftN b z now l x) 3).toNat x := by
  have h0 := left_min3 b z now l x
  have h1 := left_min3 b z now (l ++ [x]) x
  have h2 := left_min3 b z now (l ++ [x] ++ [x]) x
  rw [min3_snoc] at h1
  rw [min3_snoc, min3_snoc] at h2
  unfold passL passS
  simp only [List.foldl_cons, List.foldl_nil, passStep]
  by_cases c0 : 0 < leftN b z now l x
  · simp only [if_pos c0]
    by_cases c1 : 0 < leftN b z now (l ++ [x]) x
    · simp only [if_pos c1]
      by_cases c2 : 0 < leftN b z now (l ++ [x] ++ [x]) x
      · simp only [if_pos c2]
        have : (min (leftN b z now l x) 3).toNat = 3 := by omega
        rw [this]; rfl
      · simp only [if_neg c2]
        have : (min (leftN b z now l x) 3).toNat = 2 := by omega
        rw [this]; rfl
    · simp only [if_neg c1]
      have : (min (leftN b z now l x) 3).toNat = 1 := by omega
      rw [this]; rfl
  · simp only [if_neg c0]
    have : (min (leftN b z now l x) 3).toNat = 0 := by omega
    rw [this]; rfl
theorem budgetSpent_spec (c : Cfg) (l : List Ev) (person item : ByteArray) (now : Int) (b : Bd) (A : Option Addr) (cap : Nat) (w : World) (hg0 : Gl w) (hs : SlE w A l) (hn : i64ok' now) :
    Cal Tryz.prog 7 [cfgV c, .slice A l.length cap, .string person, .string item, .int .i64 now, bdV b] w fun r w' => r = .bool true ∧ Ext w w' := by
  refine fn_intro Tt_ok Tryz.func7 (by rfl) rfl _ rfl rfl (by rfl) ?_; (conv => whnf)
  intro b1 w1 hn1; (conv => whnf)
  intro b2 w2 hn2; (conv => whnf)
  refine (llives_spec w2 (hg0.ext (hn1.ext.trans hn2.ext))).mono ?_
  rintro _ w3 ⟨rfl, hx3⟩; (conv => whnf)
  refine ⟨fun h => (by simp at h), fun _ => ?_⟩
  (conv => whnf)
  have hc1 : At w3 b1 _ (cfgC c) := (hn1.At.ext hn2.ext).ext hx3
  have hb1 : At w3 b2 _ (bdC b) := hn2.At.ext hx3
  have hx := (hn1.ext.trans hn2.ext).trans hx3
  refine ⟨cfgC c, ⟨rfl, hc1.all⟩, ?_⟩; (conv => whnf)
  refine (lmade_spec c l A cap w3 (hg0.ext hx) (hs.ext hx)).mono ?_
  rintro r w4 ⟨hx4, hr⟩
  replace hx := hx.trans hx4
  replace hb1 := hb1.ext hx4
  clear hn1 hn2 hx3 hc1 hx4
  rcases hr with ⟨_, rfl⟩ | ⟨hok, p, base, rfl, hW⟩
  · (conv => whnf)
    refine ⟨_, eqRun_ptr_nil undWp _ _ _, ?_⟩; (conv => whnf)
    refine ⟨0, fun h => (by cases h), ?_⟩; (conv => whnf)
    refine ⟨fun _ => ?_, fun h => (by simp at h)⟩
    (conv => whnf)
    exact ⟨rfl, hx⟩
  (conv => whnf)
  refine ⟨_, eqRun_ptr_nil undWp _ _ _, ?_⟩; (conv => whnf)
  refine ⟨_, fun _ => rfl, ?_⟩; (conv => whnf)
  refine ⟨fun _ => ?_, fun _ => ?_⟩
  · (conv => whnf)
    exact ⟨rfl, hx⟩
  (conv => whnf)
  generalize hz : anewL l = z at hW
  refine ⟨bdC b, ⟨rfl, hb1.all⟩, ?_⟩; (conv => whnf)
  refine (bLeft_spec b hW person item now hn).mono ?_
  rintro _ w5 ⟨rfl, hx5⟩
  replace hx := hx.trans hx5
  replace hb1 := hb1.ext hx5
  replace hW := hW.ext hx5
  have h3 := pass3 b z now (shownL z person now) item
  have hm3 := left_min3 b z now (shownL z person now) item
  have hml := min3_le b z now (shownL z person now) item
  generalize hLf : (if (tickB now && bdB b) = true then leftN b z now (shownL z person now) item else 0) = Lf at ⊢
  have hLf0 : 0 ≤ Lf := by rw [← hLf]; split <;> omega
  have hLfb : 0 < Lf → Lf ≤ b.item := fun h => by
    rw [← hLf] at h ⊢
    split at h
    · rename_i hc; rw [if_pos hc]; omega
    · omega
  have hT : (if (tickB now && bdB b) = true then passL b z now (shownL z person now) [item, item, item] else []) = List.replicate (min Lf 3).toNat item := by
    rw [← hLf]
    split
    · exact h3
    · rfl
  clear h3 hm3 hml
  (conv => whnf)
  refine ⟨fun h => (by simp at h; omega), fun _ => ?_⟩
  (conv => whnf)
  refine loop_rule Tt_ok (fun (i : Nat × Option Addr × Nat) w' => i.1 ≤ 3 ∧ Ext w5 w' ∧ Own strE 1 9 w5.heap.size w' i.2.1 i.2.2 (List.replicate i.1 item))
    (fun i => [(2, .string person), (3, .string item), (4, .int .i64 now), (11, .pointer (some ⟨b2, 0, none⟩)), (13, .pointer (some ⟨p, 0, none⟩)), (14, .int .i64 Lf), (15, .int .i64 3), (16, .slice i.2.1 (List.replicate i.1 item).length i.2.2), (17, .int .i64 i.1)]) (fun i => 3 - i.1) (0, none, 0)
    ⟨by simp, Ext.refl _, Own.nil⟩ ⟨rfl, rfl, rfl, rfl, rfl, rfl, rfl, rfl, rfl, trivial⟩ ?_
  rintro ⟨k, A6, c6⟩ w6 ⟨hk, hx6, hown6⟩
  simp only at hk hown6
  (conv => whnf)
  constructor
  · intro hlt
    have hlt : k < 3 := by simp at hlt; omega
    have hsn : List.replicate (k + 1) item = List.replicate k item ++ [item] := List.replicate_succ'
    have hRl : (List.replicate k item).length ≤ 3 := by simp; omega
    generalize List.replicate k item = R at hown6 hsn hRl ⊢
    (conv => whnf)
    intro b7 w7 hn7; (conv => whnf)
    have hx7 := hx6.trans hn7.ext
    refine append_row rowStr (l := R) (news := [item]) rfl (hown6.ext hn7.ext) rfl (rowStr.new1 (x := item) hn7) (by simp; omega) hx7.size fun A8 c8 w8 hown8 hg8 hA8 => ?_
    (conv => whnf)
    refine ⟨((k + 1 : Nat) : Int), wrap_succ (by omega), ?_⟩; (conv => whnf)
    exact ⟨(k + 1, A8, c8), by simp; omega, ⟨by simp; omega, ext_grown hx7 hg8 (own_ge hown6), by rw [hsn]; exact hown8⟩, ⟨rfl, rfl, rfl, rfl, rfl, rfl, rfl, by rw [hsn]; rfl, rfl, trivial⟩⟩
  · intro hge
    have hge : k = 3 := by simp at hge; omega
    subst hge
    have hi3 : List.replicate 3 item = [item, item, item] := rfl
    rw [hi3] at hown6 ⊢
    replace hx := hx.trans hx6
    replace hb1 := hb1.ext hx6
    replace hW := hW.ext hx6
    (conv => whnf)
    refine ⟨bdC b, ⟨rfl, hb1.all⟩, ?_⟩; (conv => whnf)
    refine (bPass_spec b hW person now hn [item, item, item] A6 c6 (hown6.sl strE_len) (by simp)).mono ?_
    rintro _ w7 ⟨A7, c7, rfl, hs7, hx7⟩
    rw [hT] at hs7 ⊢
    replace hx := hx.trans hx7
    replace hb1 := hb1.ext hx7
    replace hW := hW.ext hx7
    have hlen : (List.replicate (min Lf 3).toNat item).length = (min Lf 3).toNat := List.length_replicate
    generalize hN : (min Lf 3).toNat = N at hs7 hlen ⊢
    have hN' : (N : Int) = min Lf 3 := by rw [← hN]; omega
    rw [hlen]
    (conv => whnf)
    refine ⟨_, fun _ _ => hb1.one rfl, ?_⟩; (conv => whnf)
    refine ⟨fun h => ?_, fun _ => ?_⟩
    · have h : ((!decide ((N : Int) = min Lf 3)) || (decide (0 < Lf) && decide (b.item < Lf))) = true := h
      simp only [hN', decide_true, Bool.not_true, Bool.false_or, Bool.and_eq_true, decide_eq_true_eq] at h
      have := hLfb h.1
      omega
    (conv => whnf)
    refine loop_rule Tt_ok (fun (k : Nat) w' => k ≤ N ∧ w' = w7)
      (fun k => [(2, .string person), (3, .string item), (4, .int .i64 now), (11, .pointer (some ⟨b2, 0, none⟩)), (13, .pointer (some ⟨p, 0, none⟩)), (18, .slice A7 N c7), (19, .int .i64 k)]) (fun k => N - k) 0 ⟨by omega, rfl⟩ ⟨rfl, rfl, rfl, rfl, rfl, rfl, rfl, trivial⟩ ?_
    rintro k w8 ⟨hk, hw8⟩
    replace hw8 := hw8.symm
    subst hw8
    (conv => whnf)
    constructor
    · intro hlt
      have hlt : k < N := by simpa using hlt
      obtain ⟨a, ha, hce⟩ := hs7.get (show k < (List.replicate N item).length by simpa using hlt)
      subst ha
      rw [List.getElem_replicate] at hce
      (conv => whnf)
      refine ⟨a, ⟨rfl, by omega, by omega⟩, ?_⟩; (conv => whnf)
      refine ⟨_, cells_head hce, ?_⟩; (conv => whnf)
      refine ⟨fun h => (by simp at h), fun _ => ?_⟩
      (conv => whnf)
      refine ⟨((k + 1 : Nat) : Int), wrap_succ (by omega), ?_⟩; (conv => whnf)
      exact ⟨k + 1, by omega, ⟨by omega, rfl⟩, ⟨rfl, rfl, rfl, rfl, rfl, rfl, rfl, trivial⟩⟩
    · intro _
      (conv => whnf)
      refine ⟨bdC b, ⟨rfl, hb1.all⟩, ?_⟩; (conv => whnf)
      refine (bPass_spec b hW person now hn [] none 0 Sl.nil (by simp)).mono ?_
      rintro _ w9 ⟨A9, c9, rfl, hs9, hx9⟩
      have hE : (if (tickB now && bdB b) = true then passL b z now (shownL z person now) [] else []) = [] := by split <;> rfl
      rw [hE]
      (conv => whnf)
      exact ⟨rfl, hx.trans hx9⟩
end Go.Proofs.YtbfjlpoeglcmfaaGreatDoor
