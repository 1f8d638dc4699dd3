
/- The chapter's example; the law 'ShardSplits'. -/
import Derived.Test.YtbfjlpoeglcmfaaDoorShard4
set_option linter.unusedVariables false
set_option linter.unusedSimpArgs false
namespace Go.Proofs.YtbfjlpoeglcmfaaDoor
open Go.Se Go.RowKit

def e0 : Ev := ⟨⟨#[115]⟩, 1, 0, 14, ⟨#[112]⟩, ⟨#[]⟩, 0, ⟨#[]⟩⟩
theorem shardOf_one (p : ByteArray) : shardOf p 1 = 0 := by
  have h := below_bounds (hashN p) 1 (hashN_lt p)
  have := h.2 (by omega)
  unfold shardOf
  omega
theorem part_one (l : List Ev) : partL l 1 0 = l := by
  unfold partL
  rw [List.filter_eq_self]
  intro e _
  simp [inPart, shardOf_one]

theorem lives_spec (w : World) : Cal Tryd.prog 4 [] w fun r w' => r = .bool true ∧ Ext w w' := by
  refine fn_intro Tt_ok Tryd.func4 (by rfl) rfl _ rfl rfl (by rfl) ?_; (conv => whnf)
  intro b w1 hn1
  (conv => whnf)
  refine store_at Tt_ok (e := ty34) (v := evV e0) (off := 0) (by rfl) hn1.At (by rfl) (by decide) (evC_one e0) fun w2 hat hon => ?_
  have hat : At w2 b 34 (evC e0) := hat
  have hx2 : Ext w w2 := hon.ext hn1.ext (by rw [hn1.block]; exact Nat.le_refl _)
  (conv => whnf)
  refine ⟨evC e0, ⟨rfl, hat.all⟩, ?_⟩; (conv => whnf)
  refine ⟨evC e0, ⟨rfl, hat.all⟩, ?_⟩; (conv => whnf)
  intro b3 w3 hn3
  (conv => whnf)
  refine (split_yes [e0, e0] _ _ 1 w3 (by omega) (by omega) (sl_new evC_len (l := [e0, e0]) hn3) (by simp) (by simp [e0]; decide)).mono ?_
  rintro r w4 ⟨pb, A', c', rfl, hpl, hx4⟩
  have hat4 := (hat.ext hn3.ext).ext hx4
  (conv => whnf)
  refine draw_rule .ext [0, 1, 2, 3, 4, 5, 6, 7, 8, 9, 10, 11, 12, 13, 14, 15, 16, 17, 18, 19, 20, 21, 22, 23] [] Tt_ok mixed (by kernel_rfl) (by first | (intro h; cases h; done) | (intro _; rfl)) ?_; (conv => whnf)
  refine (of_spec ⟨#[112]⟩ 1 w4.drew (by decide) (by omega)).mono ?_
  rintro r w5 ⟨rfl, hx5⟩
  refine ⟨hx5, ?_⟩
  rw [shardOf_one]
  have hx45 : Ext w4 w5 := (Ext.refl w4).drew.trans hx5
  have hcell := (hpl.ext hx45).cell (k := 0) (by omega)
  have hown := (hpl.ext hx45).own 0 (by omega)
  have hp1 : partL [e0, e0] ((1 : Nat) : Int) ((0 : Nat) : Int) = [e0, e0] := part_one _
  rw [hp1] at hcell hown
  obtain ⟨a, hA, hc⟩ := hown.sl evC_len 1 e0 rfl
  (conv => whnf)
  refine ⟨⟨pb, 0, none⟩, fun _ => ⟨rfl, by omega, by omega⟩, ?_⟩; (conv => whnf)
  refine ⟨_, fun _ => hcell, ?_⟩; (conv => whnf)
  refine ⟨⟨pb, 0, none⟩, fun _ => ⟨rfl, by omega, by omega⟩, ?_⟩; (conv => whnf)
  refine ⟨_, fun _ => hcell, ?_⟩; (conv => whnf)
  refine ⟨a, fun _ => ⟨hA, by omega, by simp⟩, ?_⟩; (conv => whnf)
  refine ⟨evC e0, fun _ => ⟨rfl, hc⟩, ?_⟩; (conv => whnf)
  refine ⟨evC e0, fun _ => ⟨rfl, (hat4.ext hx45).all⟩, ?_⟩; (conv => whnf)
  refine ⟨_, fun _ => ev_eq e0 e0 _ _, ?_⟩; (conv => whnf)
  exact ⟨by simp, ((hx2.trans hn3.ext).trans hx4).trans hx45⟩

end Go.Proofs.YtbfjlpoeglcmfaaDoor
