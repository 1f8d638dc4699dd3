
/- The document's text of an event; which of two counts. -/
import Derived.Test.YtbfjlpoeglcmfaaDoorEv4
set_option linter.unusedVariables false
set_option linter.unusedSimpArgs false
namespace Go.Proofs.YtbfjlpoeglcmfaaDoor
open Go.Se Go.RowKit

def spB : ByteArray := ⟨#[32]⟩
theorem sp_size : (⟨#[32]⟩ : ByteArray).size = 1 := rfl
theorem sz2 {a b : ByteArray} (ha : a.size ≤ 1000000000) (hb : b.size ≤ 1000000000) : a.size + b.size ≤ 9223372036854775807 := by omega
def knB (e : Ev) : ByteArray := kindNames.getD e.kind.toNat .empty
/-- The text of an event. -/
def fmtB (e : Ev) : ByteArray :=
  e.src ++ spB ++ digB e.num.toNat ++ spB ++ digB e.at_.toNat ++ spB ++ knB e ++ spB ++ someB e.person ++ spB ++ someB e.item ++ spB ++ digB e.val.toNat ++ spB ++ someB e.text
/-- An event whose text is told. -/
structure FOk (e : Ev) : Prop where
  num : 0 ≤ e.num ∧ e.num < 9223372036854775808
  at_ : 0 ≤ e.at_ ∧ e.at_ < 9223372036854775808
  val : 0 ≤ e.val ∧ e.val < 9223372036854775808
  kind : 0 ≤ e.kind ∧ e.kind < 15
  src : e.src.size < 1000000
  person : e.person.size < 1000000
  item : e.item.size < 1000000
  text : e.text.size < 1000000
theorem digB_size (n : Nat) (h : n < 9223372036854775808) : (digB n).size ≤ 21 := by
  unfold digB
  rw [bytes_size]; exact dec_len n h
theorem someB_size (s : ByteArray) : (someB s).size ≤ s.size + 1 := by
  unfold someB
  cases decide (s = ⟨#[]⟩)
  · exact Nat.le_succ _
  · exact Nat.succ_le_succ (Nat.zero_le _)
theorem kn_size (k : Nat) (h : k < 15) : (kindNames.getD k .empty).size ≤ 10 := by
  have : ∀ k < 15, (kindNames.getD k .empty).size ≤ 10 := by decide
  exact this k h

theorem rformat_spec (e : Ev) (w : World) (he : FOk e) :
    Cal Tryd.prog 34 [evV e] w fun r w' => r = .string (fmtB e) ∧ Ext w w' := by
  obtain ⟨⟨n0, n1⟩, ⟨t0, t1⟩, ⟨v0, v1⟩, ⟨k0, k1⟩, hsrc, hper, hite, htex⟩ := he
  unfold fmtB knB
  obtain ⟨src, num, at_, kind, person, item, val, text⟩ := e
  simp only at n0 n1 t0 t1 v0 v1 k0 k1 hsrc hper hite htex
  obtain ⟨n, rfl⟩ := Int.eq_ofNat_of_zero_le n0
  obtain ⟨t, rfl⟩ := Int.eq_ofNat_of_zero_le t0
  obtain ⟨v, rfl⟩ := Int.eq_ofNat_of_zero_le v0
  obtain ⟨kd, rfl⟩ := Int.eq_ofNat_of_zero_le k0
  have hdn := digB_size n (by omega)
  have hdt := digB_size t (by omega)
  have hdv := digB_size v (by omega)
  have hkd : kd < kindNames.length := by show kd < 15; omega
  have hks := kn_size kd (by omega)
  have hsp := someB_size person
  have hsi := someB_size item
  have hst := someB_size text
  refine fn_intro Tt_ok Tryd.func34 (by rfl) rfl _ rfl rfl (by rfl) ?_; (conv => whnf)
  intro b w0 hnew
  have hb : At w0 b 34 [.string src, .int .i64 n, .int .i64 t, .int .i64 kd, .string person, .string item, .int .i64 v, .string text] := hnew.At
  (conv => whnf)
  refine draw_rule .ext [0, 1, 2, 3, 4, 8, 9, 14, 15, 20, 21, 25, 26, 30, 31, 35, 36, 5, 6, 7, 10, 11, 12, 13, 16, 17, 18, 19, 22, 23, 24, 27, 28, 29, 32, 33, 34, 37, 38, 39] [] Tt_ok mixed (by kernel_rfl) (by first | (intro h; cases h; done) | (intro _; rfl)) ?_; (conv => whnf)
  have hX1 : Ext w w0.drew := hnew.ext.drew
  have hb : At w0.drew b 34 [.string src, .int .i64 n, .int .i64 t, .int .i64 kd, .string person, .string item, .int .i64 v, .string text] := hb
  generalize w0.drew = w1 at hb hX1 ⊢
  refine ⟨_, hb.one rfl, ?_⟩; (conv => whnf)
  refine ⟨sz2 (by first | omega | simp only [ByteArray.size_append, sp_size]; omega) (by first | omega | simp only [ByteArray.size_append, sp_size]; omega), ?_⟩; (conv => whnf)
  refine ⟨_, hb.one rfl, ?_⟩; (conv => whnf)
  refine ⟨_, hb.one rfl, ?_⟩; (conv => whnf)
  refine ⟨_, hb.one rfl, ?_⟩; (conv => whnf)
  refine ⟨_, hb.one rfl, ?_⟩; (conv => whnf)
  refine ⟨_, hb.one rfl, ?_⟩; (conv => whnf)
  refine ⟨_, hb.one rfl, ?_⟩; (conv => whnf)
  refine ⟨_, hb.one rfl, ?_⟩; (conv => whnf)
  refine (digits_spec n _ (by omega)).mono ?_
  rintro r w2 ⟨rfl, hx2⟩
  have hX2 := hX1.trans hx2
  refine ⟨hx2, ?_⟩; (conv => whnf)
  refine ⟨sz2 (by first | omega | simp only [ByteArray.size_append, sp_size]; omega) (by first | omega | simp only [ByteArray.size_append, sp_size]; omega), ?_⟩; (conv => whnf)
  refine ⟨sz2 (by first | omega | simp only [ByteArray.size_append, sp_size]; omega) (by first | omega | simp only [ByteArray.size_append, sp_size]; omega), ?_⟩; (conv => whnf)
  refine (digits_spec t _ (by omega)).mono ?_
  rintro r w3 ⟨rfl, hx3⟩
  have hX3 := hX2.trans hx3
  refine ⟨hx3, ?_⟩; (conv => whnf)
  refine ⟨sz2 (by first | omega | simp only [ByteArray.size_append, sp_size]; omega) (by first | omega | simp only [ByteArray.size_append, sp_size]; omega), ?_⟩; (conv => whnf)
  refine ⟨sz2 (by first | omega | simp only [ByteArray.size_append, sp_size]; omega) (by first | omega | simp only [ByteArray.size_append, sp_size]; omega), ?_⟩; (conv => whnf)
  refine (kinds_spec _).mono ?_
  rintro r w4 ⟨kb, rfl, hkn, hx4⟩
  have hX4 := hX3.trans hx4
  refine ⟨hx4, ?_⟩; (conv => whnf)
  refine ⟨_, ⟨rfl, by omega, by omega⟩, ?_⟩; (conv => whnf)
  refine ⟨.string (kindNames.getD kd .empty), ?_, ?_⟩
  · obtain ⟨a, ha, hc⟩ := hkn.getS hkd; simp only [Option.some.injEq] at ha; subst ha; exact hc
  (conv => whnf)
  refine ⟨sz2 (by first | omega | simp only [ByteArray.size_append, sp_size]; omega) (by first | omega | simp only [ByteArray.size_append, sp_size]; omega), ?_⟩; (conv => whnf)
  refine ⟨sz2 (by first | omega | simp only [ByteArray.size_append, sp_size]; omega) (by first | omega | simp only [ByteArray.size_append, sp_size]; omega), ?_⟩; (conv => whnf)
  refine (dot_spec person _).mono ?_
  rintro r w5 ⟨rfl, hx5⟩
  have hX5 : Ext w w5 := by rw [hx5]; exact hX4
  refine ⟨by rw [hx5]; exact Ext.refl _, ?_⟩; (conv => whnf)
  refine ⟨sz2 (by first | omega | simp only [ByteArray.size_append, sp_size]; omega) (by first | omega | simp only [ByteArray.size_append, sp_size]; omega), ?_⟩; (conv => whnf)
  refine ⟨sz2 (by first | omega | simp only [ByteArray.size_append, sp_size]; omega) (by first | omega | simp only [ByteArray.size_append, sp_size]; omega), ?_⟩; (conv => whnf)
  refine (dot_spec item _).mono ?_
  rintro r w6 ⟨rfl, hx6⟩
  have hX6 : Ext w w6 := by rw [hx6]; exact hX5
  refine ⟨by rw [hx6]; exact Ext.refl _, ?_⟩; (conv => whnf)
  refine ⟨sz2 (by first | omega | simp only [ByteArray.size_append, sp_size]; omega) (by first | omega | simp only [ByteArray.size_append, sp_size]; omega), ?_⟩; (conv => whnf)
  refine ⟨sz2 (by first | omega | simp only [ByteArray.size_append, sp_size]; omega) (by first | omega | simp only [ByteArray.size_append, sp_size]; omega), ?_⟩; (conv => whnf)
  refine (digits_spec v _ (by omega)).mono ?_
  rintro r w7 ⟨rfl, hx7⟩
  have hX7 := hX6.trans hx7
  refine ⟨hx7, ?_⟩; (conv => whnf)
  refine ⟨sz2 (by first | omega | simp only [ByteArray.size_append, sp_size]; omega) (by first | omega | simp only [ByteArray.size_append, sp_size]; omega), ?_⟩; (conv => whnf)
  refine ⟨sz2 (by first | omega | simp only [ByteArray.size_append, sp_size]; omega) (by first | omega | simp only [ByteArray.size_append, sp_size]; omega), ?_⟩; (conv => whnf)
  refine (dot_spec text _).mono ?_
  rintro r w8 ⟨rfl, hx8⟩
  have hX8 : Ext w w8 := by rw [hx8]; exact hX7
  refine ⟨by rw [hx8]; exact Ext.refl _, ?_⟩; (conv => whnf)
  refine ⟨sz2 (by first | omega | simp only [ByteArray.size_append, sp_size]; omega) (by first | omega | simp only [ByteArray.size_append, sp_size]; omega), ?_⟩; (conv => whnf)
  exact ⟨rfl, hX8⟩

/-- Of one identity, the one that counts. -/
def betterB (a b : Ev) : Bool := bif lessB a b || lessB b a then lessB a b else bLt (fmtB a) (fmtB b)
theorem better_spec (a b : Ev) (w : World) (ha : FOk a) (hb : FOk b) :
    Cal Tryd.prog 24 [evV a, evV b] w fun r w' => r = .bool (betterB a b) ∧ Ext w w' := by
  refine fn_intro Tt_ok Tryd.func24 (by rfl) rfl _ rfl rfl (by rfl) ?_; (conv => whnf)
  intro b1 w1 hn1
  (conv => whnf)
  intro b2 w2 hn2
  have h1 : At w2 b1 34 (evC a) := hn1.At.ext hn2.ext
  have h2 : At w2 b2 34 (evC b) := hn2.At
  have hx := hn1.ext.trans hn2.ext
  clear hn1 hn2
  (conv => whnf)
  refine ⟨evC a, ⟨rfl, h1.all⟩, ?_⟩; (conv => whnf)
  refine ⟨evC b, ⟨rfl, h2.all⟩, ?_⟩; (conv => whnf)
  refine (less_spec a b w2).mono ?_
  rintro r w3 ⟨rfl, hx3⟩
  replace h1 := h1.ext hx3
  replace h2 := h2.ext hx3
  replace hx := hx.trans hx3
  clear hx3
  (conv => whnf)
  refine ⟨evC b, fun _ => ⟨rfl, h2.all⟩, ?_⟩; (conv => whnf)
  refine ⟨evC a, fun _ => ⟨rfl, h1.all⟩, ?_⟩; (conv => whnf)
  refine ⟨Unit, fun _ => .bool (lessB b a), fun _ w' => Ext w3 w', (), fun _ => (less_spec b a w3).mono fun r w' h => ⟨(), h.1, h.2⟩, ?_⟩
  intro _ w4 h4
  have hx4 : Ext w3 w4 := by
    rcases h4 with ⟨_, h⟩ | ⟨_, rfl⟩
    · exact h
    · exact Ext.refl _
  clear h4
  replace h1 := h1.ext hx4
  replace h2 := h2.ext hx4
  replace hx := hx.trans hx4
  clear hx4
  (conv => whnf)
  constructor
  · intro hc
    have hc : (lessB a b || lessB b a) = true := hc
    (conv => whnf)
    refine ⟨evC a, ⟨rfl, h1.all⟩, ?_⟩; (conv => whnf)
    refine ⟨evC b, ⟨rfl, h2.all⟩, ?_⟩; (conv => whnf)
    refine (less_spec a b w4).mono ?_
    rintro r w5 ⟨rfl, hx5⟩
    (conv => whnf)
    exact ⟨by unfold betterB; rw [hc]; rfl, hx.trans hx5⟩
  · intro hc
    have hc : (lessB a b || lessB b a) = false := hc
    (conv => whnf)
    refine draw_rule .ext [0, 2, 1] [3, 4, 5] Tt_ok mixed (by kernel_rfl) (by first | (intro h; cases h; done) | (intro _; rfl)) ?_; (conv => whnf)
    replace h1 : At w4.drew b1 34 (evC a) := h1
    replace h2 : At w4.drew b2 34 (evC b) := h2
    replace hx : Ext w w4.drew := hx.drew
    refine ⟨evC a, ⟨rfl, h1.all⟩, ?_⟩; (conv => whnf)
    refine ⟨evC b, ⟨rfl, h2.all⟩, ?_⟩; (conv => whnf)
    refine (rformat_spec a _ ha).mono ?_
    rintro r w5 ⟨rfl, hx5⟩
    refine ⟨hx5, ?_⟩; (conv => whnf)
    refine (rformat_spec b _ hb).mono ?_
    rintro r w6 ⟨rfl, hx6⟩
    (conv => whnf)
    exact ⟨by unfold betterB; rw [hc]; rfl, hx.trans (hx5.trans hx6)⟩
end Go.Proofs.YtbfjlpoeglcmfaaDoor
