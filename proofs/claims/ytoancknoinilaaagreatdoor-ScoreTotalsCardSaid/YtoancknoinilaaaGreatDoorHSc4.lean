import Derived.Test.YtoancknoinilaaaGreatDoorHSc3

/- Raw points, where nobody did anything. -/
set_option linter.unusedVariables false
set_option linter.unusedSimpArgs false
namespace Go.Proofs.YtoancknoinilaaaGreatDoor
open Go.Se Go.RowKit

theorem fresh_spec {w : World} {T : Nat → Prop} {p : Nat} {c : Cfg} {z : List Ev} {v : Value} (h : WQ w T p c z v) (person item : ByteArray) (now : Int) (hn : 0 ≤ now ∧ now ≤ 1099511627776) (hb : 0 ≤ (catAt (thingsE z) item now).1.born ∧ (catAt (thingsE z) item now).1.born ≤ 1099511627776) :
    Cal Tryz.prog 97 [.pointer (some ⟨p, 0, none⟩), .string person, .string item, .int .i64 now] w fun r w' => r = .int .i64 (if (catAt (thingsE z) item now).1.listed = true then weightF (now - (catAt (thingsE z) item now).1.born) c.half else 0) ∧ Ext w w' := by
  refine fn_intro Tt_ok Tryz.func97 (by rfl) rfl _ rfl rfl (by rfl) ?_; (conv => whnf)
  refine (qcatalog_spec h).mono ?_
  rintro _ w1 ⟨pc, S, rfl, hcat, hx1⟩; (conv => whnf)
  refine (catAt_spec _ S pc _ hcat item now h.rows).mono ?_
  rintro _ w2 ⟨rfl, hx2⟩
  generalize catAt (thingsE z) item now = it at hb ⊢
  (conv => whnf)
  intro b3 w3 hn3; (conv => whnf)
  refine store_ptr Tt_ok (e := ty174) rfl hn3.At rfl rfl rfl (by simp [cellsL, itC, Value.oneCell']) fun w4 h4 ho4 => ?_
  have e3 := hn3.block
  have hx4 : Ext w w4 := ho4.ext ((hx1.trans hx2).trans hn3.ext) (by have := (hx1.trans hx2).size; omega)
  have h4 : At w4 b3 174 (itC it.1) := h4
  clear ho4
  (conv => whnf)
  refine ⟨.bool it.1.listed, h4.one rfl, ?_⟩; (conv => whnf)
  constructor
  · intro hl
    have hl : it.1.listed = false := by simpa using hl
    (conv => whnf)
    exact ⟨by rw [hl]; rfl, hx4⟩
  intro hl
  have hl : it.1.listed = true := by simpa using hl
  rw [if_pos hl]
  (conv => whnf)
  refine draw_rule .ext [0, 1, 2, 3, 4, 5, 6] [7, 8] Tt_ok mixed (by kernel_rfl) (by first | (intro h; cases h; done) | (intro _; rfl)) ?_; (conv => whnf)
  refine ⟨.int .i64 it.1.born, h4.one rfl, ?_⟩; (conv => whnf)
  refine ⟨now - it.1.born, wrap_eq rfl ⟨by omega, by omega⟩, ?_⟩; (conv => whnf)
  replace hx4 := hx4.drew
  refine (qconfig_spec (h.ext hx4)).mono ?_
  rintro _ w5 ⟨rfl, hx5⟩
  refine ⟨hx5, ?_⟩; (conv => whnf)
  refine (weight_spec (now - it.1.born) c.half ⟨by omega, by omega⟩ w5).mono ?_
  rintro _ _ ⟨rfl, rfl⟩; (conv => whnf)
  exact ⟨rfl, hx4.trans hx5⟩
theorem contains0_spec (A : Option Addr) (c : Nat) (x : ByteArray) (w : World) :
    Cal Tryz.prog 121 [.slice A 0 c, .string x] w fun r w' => r = .bool false ∧ Ext w w' :=
  cal_of ok_contains (Tryz.slices_Contains_string_empty A c x w) fun w' hw => ⟨rfl, by rw [hw]; exact Ext.refl _⟩
theorem sfollow0_spec {w : World} {T : Nat → Prop} {p : Nat} {c : Cfg} {z : List Ev} {v : Value} (h : WQ w T p c z v) (h0 : NoPe c z) (person item : ByteArray) (now : Int) :
    Cal Tryz.prog 96 [.pointer (some ⟨p, 0, none⟩), .string person, .string item, .int .i64 now] w fun r w' => r = .int .i64 0 ∧ Ext w w' := by
  refine fn_intro Tt_ok Tryz.func96 (by rfl) rfl _ rfl rfl (by rfl) ?_; (conv => whnf)
  refine (qcatalog_spec h).mono ?_
  rintro _ w1 ⟨pc, S, rfl, hcat, hx1⟩; (conv => whnf)
  refine (catAt_spec _ S pc _ hcat item now h.rows).mono ?_
  rintro _ w2 ⟨rfl, hx2⟩
  generalize catAt (thingsE z) item now = it
  (conv => whnf)
  intro b3 w3 hn3; (conv => whnf)
  refine store_ptr Tt_ok (e := ty174) rfl hn3.At rfl rfl rfl (by simp [cellsL, itC, Value.oneCell']) fun w4 h4 ho4 => ?_
  have e3 := hn3.block
  have hx4 : Ext w w4 := ho4.ext ((hx1.trans hx2).trans hn3.ext) (by have := (hx1.trans hx2).size; omega)
  have h4 : At w4 b3 174 (itC it.1) := h4
  clear ho4
  (conv => whnf)
  repeat (refine seq_go Tt_ok ?_; (conv => whnf))
  refine draw_rule .ext [0, 1, 2, 3, 5, 7, 8, 4, 6] [9, 10] Tt_ok mixed (by kernel_rfl) (by first | (intro h; cases h; done) | (intro _; rfl)) ?_; (conv => whnf)
  refine ⟨.bool it.1.listed, h4.one rfl, ?_⟩; (conv => whnf)
  refine ⟨.string it.1.maker, fun _ => h4.one rfl, ?_⟩; (conv => whnf)
  replace hx4 := hx4.drew
  refine ⟨Nat, fun pw => .pointer (some ⟨pw, 0, none⟩), fun pw w' => (∃ S, CrowdAt w' S pw (halfN c.half) []) ∧ Ext w4.drew w', 0, fun _ => (qcrowd_spec (h.ext hx4)).mono fun r w' hh => ?_, ?_⟩
  · obtain ⟨pw, S, h1, h2, h3⟩ := hh
    rw [h0.rs] at h2
    exact ⟨pw, h1, ⟨S, h2⟩, h3⟩
  intro pw w5 h5
  have hx5 : Ext w4.drew w5 := by
    rcases h5 with ⟨_, hh⟩ | ⟨_, hh⟩
    · exact hh.2
    · rw [hh]; exact Ext.refl _
  have hcr : it.1.listed = true → ∃ S, CrowdAt w5 S pw (halfN c.half) [] := fun hl => by
    rcases h5 with ⟨_, hh⟩ | ⟨hg, _⟩
    · exact hh.1
    · exact (hg ⟨hl, trivial⟩).elim
  clear h5
  refine ⟨hx5, ?_⟩
  (conv => whnf)
  refine ⟨Option Addr × Nat, fun q => .slice q.1 0 q.2, fun _ w' => Ext w5 w', (none, 0), fun hg => ?_, ?_⟩
  · obtain ⟨S, hc⟩ := hcr hg
    refine (follows0_spec w5 S pw _ hc person).mono ?_
    rintro r w' ⟨⟨A, c, hr⟩, hx⟩
    exact ⟨(A, c), hr, hx⟩
  rintro ⟨A, c6⟩ w6 h6
  have hx6 : Ext w5 w6 := by
    rcases h6 with ⟨_, hh⟩ | ⟨_, hh⟩
    · exact hh
    · rw [hh]; exact Ext.refl _
  clear h6
  refine ⟨hx6, ?_⟩
  (conv => whnf)
  refine ⟨Unit, fun _ => (.bool false), fun _ w' => Ext w6 w', (), fun hg => ((contains0_spec A c6 it.1.maker w6)).mono fun r w' h => ⟨(), h.1, h.2⟩, ?_⟩
  intro _ w7 h2
  have hx7 : Ext w6 w7 := by
    rcases h2 with ⟨_, h⟩ | ⟨_, h⟩
    · exact h
    · rw [h]; exact Ext.refl _
  clear h2
  (conv => whnf)
  constructor
  · intro hc; simp at hc
  intro _
  (conv => whnf)
  exact ⟨rfl, (hx4.trans hx5).trans (hx6.trans hx7)⟩
def fnsL : List Value := [.func (.func 92) #[] #[], .func (.func 93) #[] #[], .func (.func 94) #[] #[], .func (.func 95) #[] #[], .func (.func 96) #[] #[], .func (.func 97) #[] #[]]
theorem sparts_spec (w : World) : Cal Tryz.prog 49 [] w fun r w' => r = .agg fnsL.toArray ∧ Ext w w' := by
  refine fn_intro Tt_ok Tryz.func49 (by rfl) rfl _ rfl rfl (by rfl) ?_; (conv => whnf)
  intro b1 w1 hn1; (conv => whnf)
  refine store_ptr Tt_ok (e := ty95) rfl hn1.At rfl rfl rfl (by simp [cellsL, Value.oneCell']) fun w2 h2 ho2 => ?_
  have h2 : At w2 b1 95 fnsL := h2
  have e1 := hn1.block
  (conv => whnf)
  refine ⟨fnsL, ⟨rfl, h2.all⟩, ?_⟩; (conv => whnf)
  exact ⟨rfl, ho2.ext hn1.ext (by omega)⟩
theorem raw0_spec {w : World} {T : Nat → Prop} {p : Nat} {c : Cfg} {z : List Ev} {v : Value} (h : WQ w T p c z v) (h0 : NoPe c z) (person item : ByteArray) (now : Int) (hn : 0 ≤ now ∧ now ≤ 1099511627776) :
    Cal Tryz.prog 18 [.pointer (some ⟨p, 0, none⟩), .int .i64 0, .string person, .string item, .int .i64 now] w fun r w' => r = .int .i64 0 ∧ Ext w w' := by
  refine fn_intro Tt_ok Tryz.func18 (by rfl) rfl _ rfl rfl (by rfl) ?_; (conv => whnf)
  refine (sparts_spec w).mono ?_
  rintro _ w1 ⟨rfl, hx1⟩; (conv => whnf)
  intro b2 w2 hn2; (conv => whnf)
  refine store_ptr Tt_ok (e := ty95) rfl hn2.At rfl rfl rfl (by simp [cellsL, fnsL, Value.oneCell']) fun w3 h3 ho3 => ?_
  have h3 : At w3 b2 95 fnsL := h3
  have e2 := hn2.block
  have hx3 : Ext w w3 := ho3.ext (hx1.trans hn2.ext) (by have := hx1.size; omega)
  clear ho3
  (conv => whnf)
  constructor
  · intro hc
    exfalso
    simp at hc
    omega
  intro _
  (conv => whnf)
  refine ⟨⟨by decide, by decide⟩, ?_⟩; (conv => whnf)
  refine ⟨_, h3.one rfl, ?_⟩; (conv => whnf)
  refine (popular0_spec (h.ext hx3) h0 person item now hn).mono ?_
  rintro _ w4 ⟨rfl, hx4⟩; (conv => whnf)
  exact ⟨rfl, hx3.trans hx4⟩
theorem raw1_spec {w : World} {T : Nat → Prop} {p : Nat} {c : Cfg} {z : List Ev} {v : Value} (h : WQ w T p c z v) (h0 : NoPe c z) (hg : Gl w) (person item : ByteArray) (now : Int) (hn : 0 ≤ now ∧ now ≤ 1099511627776) :
    Cal Tryz.prog 18 [.pointer (some ⟨p, 0, none⟩), .int .i64 1, .string person, .string item, .int .i64 now] w fun r w' => r = .int .i64 0 ∧ Ext w w' := by
  refine fn_intro Tt_ok Tryz.func18 (by rfl) rfl _ rfl rfl (by rfl) ?_; (conv => whnf)
  refine (sparts_spec w).mono ?_
  rintro _ w1 ⟨rfl, hx1⟩; (conv => whnf)
  intro b2 w2 hn2; (conv => whnf)
  refine store_ptr Tt_ok (e := ty95) rfl hn2.At rfl rfl rfl (by simp [cellsL, fnsL, Value.oneCell']) fun w3 h3 ho3 => ?_
  have h3 : At w3 b2 95 fnsL := h3
  have e2 := hn2.block
  have hx3 : Ext w w3 := ho3.ext (hx1.trans hn2.ext) (by have := hx1.size; omega)
  clear ho3
  (conv => whnf)
  constructor
  · intro hc
    exfalso
    simp at hc
    omega
  intro _
  (conv => whnf)
  refine ⟨⟨by decide, by decide⟩, ?_⟩; (conv => whnf)
  refine ⟨_, h3.one rfl, ?_⟩; (conv => whnf)
  refine (staste0_spec (h.ext hx3) h0 (hg.ext hx3) person item now).mono ?_
  rintro _ w4 ⟨rfl, hx4⟩; (conv => whnf)
  exact ⟨rfl, hx3.trans hx4⟩
theorem raw2_spec {w : World} {T : Nat → Prop} {p : Nat} {c : Cfg} {z : List Ev} (h : WQ w T p c z (.pointer none)) (h0 : NoPe c z) (person item : ByteArray) (now : Int) (hn : 0 ≤ now ∧ now ≤ 1099511627776) :
    Cal Tryz.prog 18 [.pointer (some ⟨p, 0, none⟩), .int .i64 2, .string person, .string item, .int .i64 now] w fun r w' => r = .int .i64 0 ∧ (∃ v, WQ w' T p c z v) ∧ Mod (fun k => k = p) w w' := by
  refine fn_intro Tt_ok Tryz.func18 (by rfl) rfl _ rfl rfl (by rfl) ?_; (conv => whnf)
  refine (sparts_spec w).mono ?_
  rintro _ w1 ⟨rfl, hx1⟩; (conv => whnf)
  intro b2 w2 hn2; (conv => whnf)
  refine store_ptr Tt_ok (e := ty95) rfl hn2.At rfl rfl rfl (by simp [cellsL, fnsL, Value.oneCell']) fun w3 h3 ho3 => ?_
  have h3 : At w3 b2 95 fnsL := h3
  have e2 := hn2.block
  have hx3 : Ext w w3 := ho3.ext (hx1.trans hn2.ext) (by have := hx1.size; omega)
  clear ho3
  (conv => whnf)
  constructor
  · intro hc
    exfalso
    simp at hc
    omega
  intro _
  (conv => whnf)
  refine ⟨⟨by decide, by decide⟩, ?_⟩; (conv => whnf)
  refine ⟨_, h3.one rfl, ?_⟩; (conv => whnf)
  refine (snear0_spec (h.ext hx3) h0 person item now).mono ?_
  rintro _ w4 ⟨rfl, hW4, hM4⟩; (conv => whnf)
  exact ⟨rfl, hW4, (Mod.of_ext hx3).trans hM4⟩
theorem raw3_spec {w : World} {T : Nat → Prop} {p : Nat} {c : Cfg} {z : List Ev} {v : Value} (h : WQ w T p c z v) (h0 : NoPe c z) (hw : 1 ≤ halfN c.width ∧ halfN c.width ≤ 1099511627776) (hs : 1 ≤ c.span ∧ c.span ≤ 1099511627776) (hd : c.span.tmod (halfN c.width) = 0) (hf : 0 ≤ c.floor ∧ c.floor ≤ 1099511627776) (person item : ByteArray) (now : Int) (hn : 0 ≤ now ∧ now ≤ 1099511627776) :
    Cal Tryz.prog 18 [.pointer (some ⟨p, 0, none⟩), .int .i64 3, .string person, .string item, .int .i64 now] w fun r w' => r = .int .i64 0 ∧ Ext w w' := by
  refine fn_intro Tt_ok Tryz.func18 (by rfl) rfl _ rfl rfl (by rfl) ?_; (conv => whnf)
  refine (sparts_spec w).mono ?_
  rintro _ w1 ⟨rfl, hx1⟩; (conv => whnf)
  intro b2 w2 hn2; (conv => whnf)
  refine store_ptr Tt_ok (e := ty95) rfl hn2.At rfl rfl rfl (by simp [cellsL, fnsL, Value.oneCell']) fun w3 h3 ho3 => ?_
  have h3 : At w3 b2 95 fnsL := h3
  have e2 := hn2.block
  have hx3 : Ext w w3 := ho3.ext (hx1.trans hn2.ext) (by have := hx1.size; omega)
  clear ho3
  (conv => whnf)
  constructor
  · intro hc
    exfalso
    simp at hc
    omega
  intro _
  (conv => whnf)
  refine ⟨⟨by decide, by decide⟩, ?_⟩; (conv => whnf)
  refine ⟨_, h3.one rfl, ?_⟩; (conv => whnf)
  refine (srises0_spec (h.ext hx3) h0 person item now hn hw hs hd hf).mono ?_
  rintro _ w4 ⟨rfl, hx4⟩; (conv => whnf)
  exact ⟨rfl, hx3.trans hx4⟩
theorem raw4_spec {w : World} {T : Nat → Prop} {p : Nat} {c : Cfg} {z : List Ev} {v : Value} (h : WQ w T p c z v) (h0 : NoPe c z) (person item : ByteArray) (now : Int) (hn : 0 ≤ now ∧ now ≤ 1099511627776) :
    Cal Tryz.prog 18 [.pointer (some ⟨p, 0, none⟩), .int .i64 4, .string person, .string item, .int .i64 now] w fun r w' => r = .int .i64 0 ∧ Ext w w' := by
  refine fn_intro Tt_ok Tryz.func18 (by rfl) rfl _ rfl rfl (by rfl) ?_; (conv => whnf)
  refine (sparts_spec w).mono ?_
  rintro _ w1 ⟨rfl, hx1⟩; (conv => whnf)
  intro b2 w2 hn2; (conv => whnf)
  refine store_ptr Tt_ok (e := ty95) rfl hn2.At rfl rfl rfl (by simp [cellsL, fnsL, Value.oneCell']) fun w3 h3 ho3 => ?_
  have h3 : At w3 b2 95 fnsL := h3
  have e2 := hn2.block
  have hx3 : Ext w w3 := ho3.ext (hx1.trans hn2.ext) (by have := hx1.size; omega)
  clear ho3
  (conv => whnf)
  constructor
  · intro hc
    exfalso
    simp at hc
    omega
  intro _
  (conv => whnf)
  refine ⟨⟨by decide, by decide⟩, ?_⟩; (conv => whnf)
  refine ⟨_, h3.one rfl, ?_⟩; (conv => whnf)
  refine (sfollow0_spec (h.ext hx3) h0 person item now).mono ?_
  rintro _ w4 ⟨rfl, hx4⟩; (conv => whnf)
  exact ⟨rfl, hx3.trans hx4⟩
theorem raw5_spec {w : World} {T : Nat → Prop} {p : Nat} {c : Cfg} {z : List Ev} {v : Value} (h : WQ w T p c z v) (person item : ByteArray) (now : Int) (hn : 0 ≤ now ∧ now ≤ 1099511627776) (hb : 0 ≤ (catAt (thingsE z) item now).1.born ∧ (catAt (thingsE z) item now).1.born ≤ 1099511627776) :
    Cal Tryz.prog 18 [.pointer (some ⟨p, 0, none⟩), .int .i64 5, .string person, .string item, .int .i64 now] w fun r w' => r = .int .i64 (if (catAt (thingsE z) item now).1.listed = true then weightF (now - (catAt (thingsE z) item now).1.born) c.half else 0) ∧ Ext w w' := by
  refine fn_intro Tt_ok Tryz.func18 (by rfl) rfl _ rfl rfl (by rfl) ?_; (conv => whnf)
  refine (sparts_spec w).mono ?_
  rintro _ w1 ⟨rfl, hx1⟩; (conv => whnf)
  intro b2 w2 hn2; (conv => whnf)
  refine store_ptr Tt_ok (e := ty95) rfl hn2.At rfl rfl rfl (by simp [cellsL, fnsL, Value.oneCell']) fun w3 h3 ho3 => ?_
  have h3 : At w3 b2 95 fnsL := h3
  have e2 := hn2.block
  have hx3 : Ext w w3 := ho3.ext (hx1.trans hn2.ext) (by have := hx1.size; omega)
  clear ho3
  (conv => whnf)
  constructor
  · intro hc
    exfalso
    simp at hc
    omega
  intro _
  (conv => whnf)
  refine ⟨⟨by decide, by decide⟩, ?_⟩; (conv => whnf)
  refine ⟨_, h3.one rfl, ?_⟩; (conv => whnf)
  refine (fresh_spec (h.ext hx3) person item now hn hb).mono ?_
  rintro _ w4 ⟨rfl, hx4⟩; (conv => whnf)
  exact ⟨rfl, hx3.trans hx4⟩
end Go.Proofs.YtoancknoinilaaaGreatDoor
