/- The chapter's example; the law 'ShardSplits'. -/
import Derived.Test.YthogbgdaeclkaaaShard4
set_option linter.unusedVariables false
set_option linter.unusedSimpArgs false
namespace Go.Proofs.Ythogbgdaeclkaaa
open Go.Se Go.RowKit

def e0 : Ev := ⟨⟨#[115]⟩, 1, 0, 14, ⟨#[112]⟩, ⟨#[]⟩, 0, ⟨#[]⟩⟩
theorem shardOf_one (p : ByteArray) : shardOf p 1 = 0 := by
  have h := below_bounds (hashN p) 1 (hashN_lt p)
  have := h.2 (by omega)
  unfold shardOf
  omega
theorem part_one (l : List Ev) : partL l 1 0 = l := by
  unfold partL
  rw [List.filter_eq_self]
  intro e _
  simp [inPart, shardOf_one]

theorem lives_spec (w : World) : Cal Try.prog 5 [] w fun r w' => r = .bool true ∧ Ext w w' := by
  refine fn_intro Tt_ok Try.func5 (by rfl) rfl _ rfl rfl (by rfl) ?_; (conv => whnf)
  intro b w1 hn1
  (conv => whnf)
  refine store_at Tt_ok (e := ty33) (v := evV e0) (off := 0) (by rfl) hn1.At (by rfl) (by decide) (evC_one e0) fun w2 hat hon => ?_
  have hat : At w2 b 33 (evC e0) := hat
  have hx2 : Ext w w2 := hon.ext hn1.ext (by rw [hn1.block]; exact Nat.le_refl _)
  (conv => whnf)
  refine ⟨evC e0, ⟨rfl, hat.all⟩, ?_⟩; (conv => whnf)
  refine ⟨evC e0, ⟨rfl, hat.all⟩, ?_⟩; (conv => whnf)
  intro b3 w3 hn3
  (conv => whnf)
  refine (split_yes [e0, e0] _ _ 1 w3 (by omega) (by omega) (sl_new evC_len (l := [e0, e0]) hn3) (by simp) (by simp [e0]; decide)).mono ?_
  rintro r w4 ⟨pb, A', c', rfl, hpl, hx4⟩
  have hat4 := (hat.ext hn3.ext).ext hx4
  (conv => whnf)
  refine draw_rule .ext [0, 1, 2, 3, 4, 5, 6, 7, 8, 9, 10, 11, 12, 13, 14, 15, 16, 17, 18, 19, 20, 21, 22, 23] [] Tt_ok mixed (by kernel_rfl) (by first | (intro h; cases h; done) | (intro _; rfl)) ?_; (conv => whnf)
  refine (of_spec ⟨#[112]⟩ 1 w4.drew (by decide) (by omega)).mono ?_
  rintro r w5 ⟨rfl, hx5⟩
  refine ⟨hx5, ?_⟩
  rw [shardOf_one]
  have hx45 : Ext w4 w5 := (Ext.refl w4).drew.trans hx5
  have hcell := (hpl.ext hx45).cell (k := 0) (by omega)
  have hown := (hpl.ext hx45).own 0 (by omega)
  have hp1 : partL [e0, e0] ((1 : Nat) : Int) ((0 : Nat) : Int) = [e0, e0] := part_one _
  rw [hp1] at hcell hown
  obtain ⟨a, hA, hc⟩ := hown.sl evC_len 1 e0 rfl
  (conv => whnf)
  refine ⟨⟨pb, 0, none⟩, fun _ => ⟨rfl, by omega, by omega⟩, ?_⟩; (conv => whnf)
  refine ⟨_, fun _ => hcell, ?_⟩; (conv => whnf)
  refine ⟨⟨pb, 0, none⟩, fun _ => ⟨rfl, by omega, by omega⟩, ?_⟩; (conv => whnf)
  refine ⟨_, fun _ => hcell, ?_⟩; (conv => whnf)
  refine ⟨a, fun _ => ⟨hA, by omega, by simp⟩, ?_⟩; (conv => whnf)
  refine ⟨evC e0, fun _ => ⟨rfl, hc⟩, ?_⟩; (conv => whnf)
  refine ⟨evC e0, fun _ => ⟨rfl, (hat4.ext hx45).all⟩, ?_⟩; (conv => whnf)
  refine ⟨_, fun _ => ev_eq e0 e0 _ _, ?_⟩; (conv => whnf)
  exact ⟨by simp, ((hx2.trans hn3.ext).trans hx4).trans hx45⟩

theorem splits_spec (n : Int) (l : List Ev) (p : ByteArray) (A : Option Addr) (c : Nat) (w : World) (hs : SlE w A l) (hn : n < 9223372036854775808) :
    Cal Try.prog 3 [.int .i64 n, .slice A l.length c, .string p] w fun r w' => r = .bool true ∧ Ext w w' := by
  refine fn_intro Tt_ok Try.func3 (by rfl) rfl _ rfl rfl (by rfl) ?_; (conv => whnf)
  refine (lives_spec w).mono ?_
  rintro r w1 ⟨rfl, hx1⟩
  (conv => whnf)
  refine ⟨fun h => by simp at h, fun _ => ?_⟩
  (conv => whnf)
  refine ⟨Unit, fun _ => .bool (l.any (bigB 300)), fun _ w' => Ext w1 w', (), fun hg => (some_spec l A c 300 w1 (hs.ext hx1) (by simp at hg; omega)).mono fun r w' h => ⟨(), h.1, h.2⟩, ?_⟩
  intro _ w2 h2
  have hx2 : Ext w1 w2 := by
    rcases h2 with ⟨_, h⟩ | ⟨_, rfl⟩
    · exact h
    · exact Ext.refl _
  clear h2
  (conv => whnf)
  constructor
  · intro _; (conv => whnf); exact ⟨rfl, hx1.trans hx2⟩
  · intro hcond
    simp only [Bool.or_eq_false_iff, Bool.and_eq_false_iff, decide_eq_false_iff_not] at hcond
    obtain ⟨⟨⟨hc1, hc2⟩, hc3⟩, hc4⟩ := hcond
    have hl : l.length ≤ 40 := by omega
    have hpl : p.size ≤ 100 := by omega
    have hpe : ∀ e ∈ l, e.person.size < 1000000000000000 := by
      intro e he
      have := (List.any_eq_false.1 hc3) e he
      simp [bigB] at this
      omega
    have hs2 := (hs.ext hx1).ext hx2
    have hxw2 := hx1.trans hx2
    have hsb := below_bounds (hashN p) n (hashN_lt p)
    (conv => whnf)
    by_cases hr : n < 1 ∨ 1024 < n
    · refine (split_no l A c n w2 hr).mono ?_
      rintro r w3 ⟨rfl, rfl⟩
      (conv => whnf)
      refine (of_spec p n w3 (by omega) hn).mono ?_
      rintro r w4 ⟨rfl, hx4⟩
      (conv => whnf)
      refine (rof_spec p n w4 (by omega) hn).mono ?_
      rintro r w5 ⟨rfl, hx5⟩
      (conv => whnf)
      refine ⟨fun h => ?_, fun _ => ?_⟩
      · simp at h
        unfold shardOf at h
        omega
      · (conv => whnf)
        refine ⟨fun _ => ?_, fun h => ?_⟩
        · (conv => whnf)
          exact ⟨rfl, hxw2.trans (hx4.trans hx5)⟩
        · simp at h; omega
    · obtain ⟨m, rfl⟩ : ∃ m : Nat, n = m := ⟨n.toNat, by omega⟩
      have hm : 1 ≤ m ∧ m ≤ 20 := by omega
      refine (split_yes l A c m w2 (by omega) (by omega) hs2 (by omega) hpe).mono ?_
      rintro r w3 ⟨pb, A3, c3, rfl, hpl3, hx3⟩
      (conv => whnf)
      refine (of_spec p m w3 (by omega) hn).mono ?_
      rintro r w4 ⟨rfl, hx4⟩
      (conv => whnf)
      refine (rof_spec p m w4 (by omega) hn).mono ?_
      rintro r w5 ⟨rfl, hx5⟩
      (conv => whnf)
      refine ⟨fun h => ?_, fun _ => ?_⟩
      · simp at h
        unfold shardOf at h
        omega
      · (conv => whnf)
        refine ⟨fun h => ?_, fun _ => ?_⟩
        · simp at h; omega
        · (conv => whnf)
          refine ⟨fun h => by simp at h, fun _ => ?_⟩
          (conv => whnf)
          have hpl5 := (hpl3.ext hx4).ext hx5
          have hs5 := ((hs2.ext hx3).ext hx4).ext hx5
          refine loop_rule Tt_ok (fun (k : Nat) w' => k ≤ m ∧ Ext w5 w')
            (fun k => [(0, .int .i64 m), (1, .slice A l.length c), (7, .slice (some ⟨pb, 0, none⟩) m m), (9, .int .i64 k)]) (fun k => m - k) 0 ⟨by omega, Ext.refl _⟩ ⟨rfl, rfl, rfl, rfl, trivial⟩ ?_
          rintro k w6 ⟨hk, hx6⟩
          (conv => whnf)
          constructor
          · intro hkm
            have hkm : k < m := by simpa using hkm
            (conv => whnf)
            refine draw_rule .ext [0, 1, 2, 3, 4, 5, 6, 7] [8, 9] Tt_ok mixed (by kernel_rfl) (by first | (intro h; cases h; done) | (intro _; rfl)) ?_; (conv => whnf)
            refine ⟨⟨pb, 0, none⟩, ⟨rfl, by omega, by omega⟩, ?_⟩; (conv => whnf)
            refine ⟨_, (hpl5.ext hx6).cell hkm, ?_⟩; (conv => whnf)
            refine (part_spec l A c m k w6.drew ((hs5.ext hx6).ext (Ext.refl w6).drew) (by omega) hpe hn).mono ?_
            rintro r w7 ⟨A7, c7, rfl, hs7, hx7⟩
            refine ⟨hx7, ?_⟩
            (conv => whnf)
            have hx67 : Ext w6 w7 := (Ext.refl w6).drew.trans hx7
            refine (same_spec (partL l m k) (partL l m k) (A3 k) A7 _ _ w7 (((hpl5.ext hx6).own k hkm).sl evC_len |>.ext hx67) hs7 ?_).mono ?_
            · have := List.length_filter_le (inPart m k) l
              unfold partL
              omega
            rintro r w8 ⟨rfl, hx8⟩
            (conv => whnf)
            refine ⟨fun h => by simp at h, fun _ => ?_⟩
            (conv => whnf)
            refine ⟨((k + 1 : Nat) : Int), wrap_succ (by omega), ?_⟩; (conv => whnf)
            exact ⟨k + 1, by omega, ⟨by omega, hx6.trans (hx67.trans hx8)⟩, ⟨rfl, rfl, rfl, rfl, trivial⟩⟩
          · intro hkm
            (conv => whnf)
            exact ⟨rfl, hxw2.trans (hx3.trans (hx4.trans (hx5.trans hx6)))⟩
end Go.Proofs.Ythogbgdaeclkaaa
