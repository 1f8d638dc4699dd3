import Derived.Test.YtoancknoinilaaaGreatDoorGN
import Derived.Test.YtoancknoinilaaaGreatDoorHSl1

/- The law ScoreAhead. -/
set_option linter.unusedVariables false
set_option linter.unusedSimpArgs false
namespace Go.Proofs.YtoancknoinilaaaGreatDoor
open Go.Se Go.RowKit

def newS : ByteArray := ⟨#[110, 101, 119]⟩
theorem rawX_behind (c : Cfg) {z M : List Ev} {person : ByteArray} {now : Int} (h : Behind now person M) (item : ByteArray) (x : Int) : rawX c (z ++ M) person item now x = rawX c z person item now x := by
  unfold rawX
  rw [raw_behind c h item]
set_option maxHeartbeats 2000000 in
theorem scoreAhead_spec (c : Cfg) (l more : List Ev) (person item : ByteArray) (now : Int) (A : Option Addr) (cap : Nat) (B : Option Addr) (capB : Nat) (w : World) (hg0 : Gl w) (hs : SlE w A l) (hs2 : SlE w B more) :
    Cal Tryz.prog 8 [cfgV c, .slice A l.length cap, .slice B more.length capB, .string person, .string item, .int .i64 now] w fun r w' => r = .bool true ∧ Ext w w' := by
  refine fn_intro Tt_ok Tryz.func8 (by rfl) rfl _ rfl rfl (by rfl) ?_; (conv=>whnf)
  intro b1 w1 hn1; (conv=>whnf)
  refine (slives_spec w1 (hg0.ext hn1.ext)).mono ?_
  rintro _ w2 ⟨rfl, hx2⟩; (conv=>whnf)
  refine ⟨fun h => (by simp at h), fun _ => ?_⟩
  have hx := hn1.ext.trans hx2
  have hc1 : At w2 b1 _ (cfgC c) := hn1.At.ext hx2
  clear hn1 hx2
  (conv=>whnf)
  refine ⟨cfgC c, ⟨rfl, hc1.all⟩, ?_⟩; (conv=>whnf)
  refine (heavy_spec 14 (by omega) c l A cap person item w2 (hs.ext hx)).mono ?_
  rintro _ w3 ⟨rfl, hx3⟩
  replace hx := hx.trans hx3
  replace hc1 := hc1.ext hx3
  clear hx3
  generalize hq : hvB 14 c l person item = q
  (conv=>whnf)
  refine ⟨cfgC c, fun _ => ⟨rfl, hc1.all⟩, ?_⟩; (conv=>whnf)
  have hhv := heavy_spec 6 (by omega) c more B capB person item w3 (hs2.ext hx)
  generalize hq2 : hvB 6 c more person item = q2 at hhv
  refine ⟨Unit, fun _ => (.bool q2), fun _ w' => Ext w3 w', (), fun hg => (hhv).mono fun r w' h => ⟨(), h.1, h.2⟩, ?_⟩
  intro _ w4 h2
  have hx4 : Ext w3 w4 := by
    rcases h2 with ⟨_, h⟩ | ⟨_, h⟩
    · exact h
    · rw [h]; exact Ext.refl _
  clear h2
  (conv=>whnf)
  replace hx := hx.trans hx4
  replace hc1 := hc1.ext hx4
  clear hx4 hhv
  constructor
  · intro _; (conv=>whnf); exact ⟨rfl, hx⟩
  intro hc
  have hc : (((q || q2) || decide (now < 0)) || decide (1099511627776 < now)) = false := hc
  simp only [Bool.or_eq_false_iff, decide_eq_false_iff_not] at hc
  obtain ⟨⟨⟨rfl, rfl⟩, hn0⟩, hn1⟩ := hc
  obtain ⟨hl, hm, hcf⟩ := hv_not hq
  obtain ⟨hl2, hm2, _⟩ := hv_not hq2
  clear hq hq2
  (conv=>whnf)
  refine loop_rule Tt_ok (fun (k : Nat) w' => k ≤ more.length ∧ Ext w4 w' ∧ ∀ e ∈ more.take k, now < e.at_ ∧ e.src = newS ∧ e.person ≠ person ∧ worthE e ≤ 0 ∧ e.kind ≠ 14)
    (fun k => [(1, .slice A l.length cap), (2, .slice B more.length capB), (3, .string person), (4, .string item), (5, .int .i64 now), (6, .pointer (some ⟨b1, 0, none⟩)), (13, .int .i64 (k : Nat))]) (fun k => more.length - k) 0 ⟨Nat.zero_le _, Ext.refl _, by simp⟩ ⟨rfl, rfl, rfl, rfl, rfl, rfl, rfl, trivial⟩ ?_
  rintro k w5 ⟨hk, hx5, hall⟩
  (conv=>whnf)
  constructor
  · intro hlt
    have hlt : k < more.length := by simpa using hlt
    obtain ⟨a6, hA6, hc6⟩ := (hs2.ext (hx.trans hx5)).get hlt
    subst hA6
    have htk : ∀ e ∈ more.take (k + 1), e ∈ more.take k ∨ e = more[k] := fun e he => by
      rw [List.take_succ_eq_append_getElem hlt] at he
      rcases List.mem_append.1 he with he | he
      · exact .inl he
      · exact .inr (by simpa using he)
    generalize more[k] = e at hc6 htk
    (conv=>whnf); repeat (refine seq_go Tt_ok ?_; (conv=>whnf))
    refine ⟨a6, ⟨rfl, by omega, by omega⟩, ?_⟩; (conv=>whnf); repeat (refine seq_go Tt_ok ?_; (conv=>whnf))
    refine ⟨evC e, ⟨rfl, hc6⟩, ?_⟩; (conv=>whnf); repeat (refine seq_go Tt_ok ?_; (conv=>whnf))
    intro b7 w7 hn7; (conv=>whnf); repeat (refine seq_go Tt_ok ?_; (conv=>whnf))
    refine store_ptr Tt_ok (e := ty53) rfl hn7.At rfl rfl rfl (evC_one e) fun w8 h8 ho8 => ?_
    have h8 : At w8 b7 53 (evC e) := h8
    have e7 := hn7.block
    have hx58 : Ext w5 w8 := ho8.ext hn7.ext (by omega)
    clear ho8 hn7
    (conv=>whnf); repeat (refine seq_go Tt_ok ?_; (conv=>whnf))
    refine ⟨.int .i64 e.at_, h8.one rfl, ?_⟩; (conv=>whnf); repeat (refine seq_go Tt_ok ?_; (conv=>whnf))
    refine ⟨.string e.src, fun _ => h8.one rfl, ?_⟩; (conv=>whnf); repeat (refine seq_go Tt_ok ?_; (conv=>whnf))
    refine ⟨.string e.person, fun _ => h8.one rfl, ?_⟩; (conv=>whnf); repeat (refine seq_go Tt_ok ?_; (conv=>whnf))
    refine ⟨evC e, fun _ => ⟨rfl, h8.all⟩, ?_⟩; (conv=>whnf); repeat (refine seq_go Tt_ok ?_; (conv=>whnf))
    refine ⟨Unit, fun _ => (.int .i64 (worthE e)), fun _ w' => Ext w8 w', (), fun hg => ((rworth2_spec e w8)).mono fun r w' h => ⟨(), h.1, h.2⟩, ?_⟩
    intro _ w9 h2
    have hx9 : Ext w8 w9 := by
      rcases h2 with ⟨_, h⟩ | ⟨_, h⟩
      · exact h
      · rw [h]; exact Ext.refl _
    clear h2
    (conv=>whnf)
    refine ⟨.int .i64 e.kind, fun _ => (h8.ext hx9).one rfl, ?_⟩; (conv=>whnf); repeat (refine seq_go Tt_ok ?_; (conv=>whnf))
    have hx59 := hx5.trans (hx58.trans hx9)
    constructor
    · intro _
      (conv=>whnf); repeat (refine seq_go Tt_ok ?_; (conv=>whnf))
      exact ⟨rfl, hx.trans hx59⟩
    · intro hc
      have hc : ((((decide (e.at_ ≤ now) || !decide (e.src = newS)) || decide (e.person = person)) || decide (0 < worthE e)) || decide (e.kind = 14)) = false := hc
      simp only [Bool.or_eq_false_iff, decide_eq_false_iff_not, Bool.not_eq_false', decide_eq_true_eq] at hc
      obtain ⟨⟨⟨⟨q1, q2⟩, q3⟩, q4⟩, q5⟩ := hc
      (conv=>whnf); repeat (refine seq_go Tt_ok ?_; (conv=>whnf))
      refine ⟨((k + 1 : Nat) : Int), wrap_succ (by omega), ?_⟩; (conv=>whnf); repeat (refine seq_go Tt_ok ?_; (conv=>whnf))
      refine ⟨k + 1, by omega, ⟨by omega, hx59, fun y hy => ?_⟩, ⟨rfl, rfl, rfl, rfl, rfl, rfl, rfl, trivial⟩⟩
      rcases htk y hy with h | h
      · exact hall y h
      · rw [h]; exact ⟨by omega, q2, q3, by omega, q5⟩
  · intro hge
    have hge : more.length ≤ k := by simpa using hge
    rw [List.take_of_length_le hge] at hall
    replace hx := hx.trans hx5
    replace hc1 := hc1.ext hx5
    clear hx5
    (conv=>whnf)
    refine loop_rule Tt_ok (fun (k : Nat) w' => k ≤ l.length ∧ w' = w5 ∧ ∀ e ∈ l.take k, e.src ≠ newS ∧ e.at_ ≤ now)
      (fun k => [(1, .slice A l.length cap), (2, .slice B more.length capB), (3, .string person), (4, .string item), (5, .int .i64 now), (6, .pointer (some ⟨b1, 0, none⟩)), (15, .int .i64 (k : Nat))]) (fun k => l.length - k) 0 ⟨Nat.zero_le _, rfl, by simp⟩ ⟨rfl, rfl, rfl, rfl, rfl, rfl, rfl, trivial⟩ ?_
    rintro k w6 ⟨hk, hw6, hal⟩
    subst hw6
    (conv=>whnf)
    constructor
    · intro hlt
      have hlt : k < l.length := by simpa using hlt
      obtain ⟨a6, hA6, hc6⟩ := (hs.ext hx).get hlt
      subst hA6
      have htk : ∀ e ∈ l.take (k + 1), e ∈ l.take k ∨ e = l[k] := fun e he => by
        rw [List.take_succ_eq_append_getElem hlt] at he
        rcases List.mem_append.1 he with he | he
        · exact .inl he
        · exact .inr (by simpa using he)
      generalize l[k] = e at hc6 htk
      (conv=>whnf); repeat (refine seq_go Tt_ok ?_; (conv=>whnf))
      refine ⟨a6, ⟨rfl, by omega, by omega⟩, ?_⟩; (conv=>whnf); repeat (refine seq_go Tt_ok ?_; (conv=>whnf))
      refine ⟨.string e.src, cells_at hc6 (k := 0) rfl, ?_⟩; (conv=>whnf); repeat (refine seq_go Tt_ok ?_; (conv=>whnf))
      refine ⟨a6, fun _ => ⟨rfl, by omega, by omega⟩, ?_⟩; (conv=>whnf); repeat (refine seq_go Tt_ok ?_; (conv=>whnf))
      refine ⟨.int .i64 e.at_, fun _ => cells_at hc6 (k := 2) rfl, ?_⟩; (conv=>whnf); repeat (refine seq_go Tt_ok ?_; (conv=>whnf))
      constructor
      · intro _
        (conv=>whnf); repeat (refine seq_go Tt_ok ?_; (conv=>whnf))
        exact ⟨rfl, hx⟩
      · intro hc
        have hc : (decide (e.src = newS) || decide (now < e.at_)) = false := hc
        simp only [Bool.or_eq_false_iff, decide_eq_false_iff_not] at hc
        obtain ⟨q1, q2⟩ := hc
        (conv=>whnf); repeat (refine seq_go Tt_ok ?_; (conv=>whnf))
        refine ⟨((k + 1 : Nat) : Int), wrap_succ (by omega), ?_⟩; (conv=>whnf); repeat (refine seq_go Tt_ok ?_; (conv=>whnf))
        refine ⟨k + 1, by omega, ⟨by omega, rfl, fun y hy => ?_⟩, ⟨rfl, rfl, rfl, rfl, rfl, rfl, rfl, trivial⟩⟩
        rcases htk y hy with h | h
        · exact hal y h
        · rw [h]; exact ⟨q1, by omega⟩
    · intro hge
      have hge : l.length ≤ k := by simpa using hge
      rw [List.take_of_length_le hge] at hal
      obtain ⟨M, hM, hbeh⟩ := ahead_split (person := person) hm hm2 hal hall
      have hlmm : ∀ e ∈ l ++ more, mayB e = true := fun e he => (List.mem_append.1 he).elim (hm e) (hm2 e)
      have hlml : (l ++ more).length ≤ 20 := by rw [List.length_append]; omega
      (conv=>whnf)
      refine ⟨cfgC c, ⟨rfl, hc1.all⟩, ?_⟩; (conv=>whnf)
      refine (made_spec c hcf l A cap w6 (hg0.ext hx) (hs.ext hx) (by omega) hm).mono ?_
      rintro _ w7 ⟨pa, rfl, hWa, hx7⟩
      obtain ⟨Ta, hTa, hTab⟩ := hWa.t
      have hbase := hx.size
      have hTaw : ∀ k, Ta k → w.heap.size ≤ k := fun k hk => Nat.le_trans hbase (hTab k hk)
      replace hx := hx.trans hx7
      replace hc1 := hc1.ext hx7
      have hzl := anew_len l
      have hzl2 := anew_len (l ++ more)
      clear hWa hTab hx7
      (conv=>whnf)
      refine draw_rule (.mods (fun k => w7.heap.size ≤ k)) [0, 2, 4, 1, 3, 5, 6, 7, 8, 9, 10, 11] [] Tt_ok mixed (by kernel_rfl) (by first | (intro h; cases h; done) | (intro _; rfl)) ?_; (conv=>whnf)
      have hb1 := hc1.lt
      replace hTa := hTa.ext (Ext.refl w7).drew
      replace hc1 : At w7.drew b1 _ (cfgC c) := hc1
      replace hx := hx.drew
      have hz7 : w7.drew.heap.size = w7.heap.size := rfl
      generalize hN : w7.heap.size = N at *
      generalize w7.drew = w8 at *
      refine ⟨cfgC c, ⟨rfl, hc1.all, by show ¬ (N ≤ b1); omega⟩, ?_⟩; (conv=>whnf)
      intro b9 w9 hn9
      have o9 := rowEv.made (base := N) hn9 (by omega)
      have hx89 := hn9.ext
      refine ⟨Mod.of_ext hx89, ?_⟩; (conv=>whnf)
      refine append_row rowEv (l := []) (news := l) rfl o9 rfl ((hs.ext hx).ext hx89) (by simp; omega) (by have := hx89.size; omega) fun A10 c10 w10 hown10 hg10 hA10 => ?_
      have hown10 : Own evC 8 53 N w10 A10 c10 l := hown10
      have hM10 : Mod (fun k => N ≤ k) w9 w10 := mod_grown hg10 (own_ge o9)
      have hx810 : Ext w8 w10 := ext_grown hx89 hg10 fun k hk => by have := own_ge o9 k hk; omega
      refine ⟨hM10, ?_⟩; (conv=>whnf)
      refine append_row rowEv (l := l) (news := more) rfl hown10 rfl ((hs2.ext hx).ext hx810) (by simp at hlml ⊢; omega) (by have := hx810.size; omega) fun A11 c11 w11 hown11 hg11 hA11 => ?_
      have hM11 : Mod (fun k => N ≤ k) w10 w11 := mod_grown hg11 (own_ge hown10)
      have hx811 : Ext w8 w11 := ext_grown hx810 hg11 fun k hk => by have := own_ge hown10 k hk; omega
      refine ⟨hM11, ?_⟩
      generalize l ++ more = lm at hown11 hlmm hlml hM hzl2 ⊢
      (conv=>whnf)
      refine (made_spec c hcf lm A11 c11 w11 (hg0.ext (hx.trans hx811)) (hown11.sl evC_len) (by omega) hlmm).mono ?_
      rintro _ w12 ⟨pb, rfl, hWb, hx12⟩
      refine ⟨Mod.of_ext hx12, ?_⟩
      obtain ⟨Tb, hTb, hTbb⟩ := hWb.t
      rw [hM] at hTb
      have hTbw : ∀ k, Tb k → w.heap.size ≤ k := fun k hk => by
        have h1 := hTbb k hk
        have h2 := (hx.trans hx811).size
        omega
      have hdis : ∀ k, Ta k → ¬ Tb k := fun k h1 h2 => by
        have h3 := hTa.lt k h1
        have h4 := hTbb k h2
        have h5 := hx811.size
        omega
      have hTa12 := hTa.ext (hx811.trans hx12)
      replace hx := hx.trans (hx811.trans hx12)
      have hoka : ScOk c (anewL l) := ⟨hcf, by omega⟩
      have hokb : ScOk c (anewL l ++ M) := ⟨hcf, by rw [← hM]; omega⟩
      clear hWb hTbb hTa hown11 hown10 o9 hn9 hg10 hg11 hM10 hM11 hx89 hx810 hx811 hx12 hA10 hA11 hzl hzl2 hc1
      generalize anewL l = z at *
      (conv=>whnf)
      refine ⟨fun h => (by simp at h), fun _ => ?_⟩
      (conv=>whnf)
      refine loop_rule Tt_ok (fun (k : Nat) w' => k ≤ 6 ∧ Ext w w' ∧ ∃ Ta Tb : Nat → Prop, WT w' Ta pa c z ∧ WT w' Tb pb c (z ++ M) ∧ (∀ k, Ta k → ¬ Tb k) ∧ (∀ k, Ta k → w.heap.size ≤ k) ∧ ∀ k, Tb k → w.heap.size ≤ k)
        (fun k => [(3, .string person), (4, .string item), (5, .int .i64 now), (16, .pointer (some ⟨pa, 0, none⟩)), (18, .pointer (some ⟨pb, 0, none⟩)), (20, .int .i64 (k : Nat))]) (fun k => 6 - k) 0 ⟨by omega, hx, Ta, Tb, hTa12, hTb, hdis, hTaw, hTbw⟩ ⟨rfl, rfl, rfl, rfl, rfl, rfl, trivial⟩ ?_
      clear hx hTa12 hTb hdis hTaw hTbw
      rintro k w13 ⟨hk, hx13, Ua, Ub, hUa, hUb, hd, hUaw, hUbw⟩
      (conv=>whnf)
      constructor
      · intro hlt
        have hlt : k < 6 := by
          have : (k : Int) < 6 := by simpa using hlt
          omega
        (conv=>whnf); repeat (refine seq_go Tt_ok ?_; (conv=>whnf))
        refine (sraw_spec hUa hoka (hg0.ext hx13) person item now k).mono ?_
        rintro _ w14 ⟨rfl, hM14, Va, hVa, hVaT⟩
        have hx14 := ext_mod hx13 hUaw hM14
        have hUb14 := hUb.mod hM14 hd
        have hVaw : ∀ b, Va b → w.heap.size ≤ b := fun b hb => (hVaT b hb).elim (hUaw b) fun h => Nat.le_trans hx13.size h
        have hd14 : ∀ b, Va b → ¬ Ub b := fun b h1 h2 => by
          rcases hVaT b h1 with h | h
          · exact hd b h h2
          · have := hUb.lt b h2; omega
        (conv=>whnf); repeat (refine seq_go Tt_ok ?_; (conv=>whnf))
        refine (sraw_spec hUb14 hokb (hg0.ext hx14) person item now k).mono ?_
        rintro _ w15 ⟨rfl, hM15, Vb, hVb, hVbT⟩
        rw [rawX_behind c hbeh item]
        have hx15 := ext_mod hx14 hUbw hM15
        have hVa15 := hVa.mod hM15 fun b h1 h2 => hd14 b h2 h1
        have hVbw : ∀ b, Vb b → w.heap.size ≤ b := fun b hb => (hVbT b hb).elim (hUbw b) fun h => Nat.le_trans hx14.size h
        have hd15 : ∀ b, Va b → ¬ Vb b := fun b h1 h2 => by
          rcases hVbT b h2 with h | h
          · exact hd14 b h1 h
          · have := hVa.lt b h1; omega
        generalize rawX c z person item now k = ra
        (conv=>whnf); repeat (refine seq_go Tt_ok ?_; (conv=>whnf))
        refine ⟨fun h => (by simp at h), fun _ => ?_⟩
        (conv=>whnf); repeat (refine seq_go Tt_ok ?_; (conv=>whnf))
        refine ⟨((k + 1 : Nat) : Int), wrap_succ (by omega), ?_⟩; (conv=>whnf); repeat (refine seq_go Tt_ok ?_; (conv=>whnf))
        exact ⟨k + 1, by omega, ⟨by omega, hx15, Va, Vb, hVa15, hVb, hd15, hVaw, hVbw⟩, ⟨rfl, rfl, rfl, rfl, rfl, rfl, trivial⟩⟩
      · intro _
        (conv=>whnf)
        exact ⟨rfl, hx13⟩
end Go.Proofs.YtoancknoinilaaaGreatDoor
