
/- The document's order, digits and text of an event. -/
import Derived.Test.YtbfjlpoeglcmfaaDoorEv3
import Derived.Lib.ItoaNum
import Derived.Lib.ItoaLen
import Derived.Lib.ItoaMem
import Derived.Laws.IdiomStrings
set_option linter.unusedVariables false
set_option linter.unusedSimpArgs false
namespace Go.Proofs.YtbfjlpoeglcmfaaDoor
open Go.Se Go.RowKit

theorem all_spec (l : List Ev) (A : Option Addr) (c : Nat) (w : World) (hs : SlE w A l) (hl : l.length < 1000000000000) (ht : ∀ e ∈ l, e.text.size < 1000000000000) :
    Cal Tryd.prog 6 [.slice A l.length c] w fun r w' => r = .bool (l.all mayB) ∧ Ext w w' := by
  refine fn_intro Tt_ok Tryd.func6 (by rfl) rfl _ rfl rfl (by rfl) ?_; (conv => whnf)
  refine loop_rule Tt_ok (fun (k : Nat) w' => k ≤ l.length ∧ Ext w w' ∧ ∀ i (hi : i < l.length), i < k → mayB l[i] = true)
    (fun k => [(0, .slice A l.length c), (3, .int .i64 k)]) (fun k => l.length - k) 0 ⟨by omega, Ext.refl _, fun i _ h => by omega⟩ ⟨rfl, rfl, trivial⟩ ?_
  rintro k w1 ⟨hk, hx, hall⟩
  (conv => whnf)
  constructor
  · intro hlt
    have hlt : k < l.length := by simpa using hlt
    (conv => whnf)
    obtain ⟨a, rfl, hc⟩ := hs.get hlt
    refine ⟨a, ⟨rfl, by omega, by omega⟩, ?_⟩; (conv => whnf)
    refine ⟨evC l[k], ⟨rfl, hx.cells hc⟩, ?_⟩; (conv => whnf)
    refine (rmay_spec l[k] w1 (ht _ (List.getElem_mem hlt))).mono ?_
    rintro r w2 ⟨rfl, hx2⟩
    (conv => whnf)
    constructor
    · intro hb
      have hb : mayB l[k] = false := by simpa using hb
      (conv => whnf)
      exact ⟨by rw [all_not hlt hb], hx.trans hx2⟩
    · intro hb
      have hb : mayB l[k] = true := by simpa using hb
      (conv => whnf)
      refine ⟨((k + 1 : Nat) : Int), wrap_succ (by omega), ?_⟩; (conv => whnf)
      refine ⟨k + 1, by omega, ⟨by omega, hx.trans hx2, fun i hi hik => ?_⟩, ⟨rfl, rfl, trivial⟩⟩
      by_cases e : i = k
      · subst e; exact hb
      · exact hall i hi (by omega)
  · intro hge
    have hge : l.length ≤ k := by simpa using hge
    (conv => whnf)
    exact ⟨by rw [all_take hall hge], hx⟩

/-- One stands ahead of the other. -/
def lessB (a b : Ev) : Bool := bif decide (a.at_ = b.at_) then (bif decide (a.src = b.src) then decide (a.num < b.num) else bLt a.src b.src) else decide (a.at_ < b.at_)
theorem less_spec (a b : Ev) (w : World) :
    Cal Tryd.prog 23 [evV a, evV b] w fun r w' => r = .bool (lessB a b) ∧ Ext w w' := by
  refine fn_intro Tt_ok Tryd.func23 (by rfl) rfl _ rfl rfl (by rfl) ?_; (conv => whnf)
  intro b1 w1 hn1
  (conv => whnf)
  intro b2 w2 hn2
  have h1 := hn1.At.ext hn2.ext
  have h2 := hn2.At
  have hx := hn1.ext.trans hn2.ext
  (conv => whnf)
  refine ⟨_, h1.one rfl, ?_⟩; (conv => whnf)
  refine ⟨_, h2.one rfl, ?_⟩; (conv => whnf)
  constructor
  · intro h
    have h : decide (a.at_ = b.at_) = false := by simpa using h
    (conv => whnf)
    refine ⟨_, h1.one rfl, ?_⟩; (conv => whnf)
    refine ⟨_, h2.one rfl, ?_⟩; (conv => whnf)
    exact ⟨by unfold lessB; rw [h]; rfl, hx⟩
  · intro h
    have h : decide (a.at_ = b.at_) = true := by simpa using h
    (conv => whnf)
    refine ⟨_, h1.one rfl, ?_⟩; (conv => whnf)
    refine ⟨_, h2.one rfl, ?_⟩; (conv => whnf)
    constructor
    · intro h'
      have h' : decide (a.src = b.src) = false := by simpa using h'
      (conv => whnf)
      refine ⟨_, h1.one rfl, ?_⟩; (conv => whnf)
      refine ⟨_, h2.one rfl, ?_⟩; (conv => whnf)
      exact ⟨by unfold lessB; rw [h, h']; rfl, hx⟩
    · intro h'
      have h' : decide (a.src = b.src) = true := by simpa using h'
      (conv => whnf)
      refine ⟨_, h1.one rfl, ?_⟩; (conv => whnf)
      refine ⟨_, h2.one rfl, ?_⟩; (conv => whnf)
      exact ⟨by unfold lessB; rw [h, h']; rfl, hx⟩

def someB (s : ByteArray) : ByteArray := bif decide (s = ⟨#[]⟩) then ⟨#[46]⟩ else s
theorem dot_spec (s : ByteArray) (w : World) :
    Cal Tryd.prog 45 [.string s] w fun r w' => r = .string (someB s) ∧ w' = w := by
  refine fn_intro Tt_ok Tryd.func45 (by rfl) rfl _ rfl rfl (by rfl) ?_; (conv => whnf)
  constructor
  · intro h
    have h : decide (s = ⟨#[]⟩) = true := h
    (conv => whnf)
    exact ⟨by unfold someB; rw [h]; rfl, rfl⟩
  · intro h
    have h : decide (s = ⟨#[]⟩) = false := h
    (conv => whnf)
    exact ⟨by unfold someB; rw [h]; rfl, rfl⟩

def kindNames : List ByteArray := [⟨#[115, 101, 101, 110]⟩, ⟨#[111, 112, 101, 110, 101, 100]⟩, ⟨#[102, 105, 110, 105, 115, 104, 101, 100]⟩, ⟨#[98, 111, 117, 103, 104, 116]⟩, ⟨#[114, 97, 116, 101, 100]⟩, ⟨#[104, 105, 100, 100, 101, 110]⟩, ⟨#[117, 110, 104, 105, 100, 100, 101, 110]⟩, ⟨#[102, 111, 108, 108, 111, 119, 101, 100]⟩, ⟨#[117, 110, 102, 111, 108, 108, 111, 119, 101, 100]⟩, ⟨#[109, 117, 116, 101, 100]⟩, ⟨#[117, 110, 109, 117, 116, 101, 100]⟩, ⟨#[108, 105, 115, 116, 101, 100]⟩, ⟨#[115, 116, 111, 99, 107, 101, 100]⟩, ⟨#[100, 101, 108, 105, 115, 116, 101, 100]⟩, ⟨#[102, 111, 114, 103, 111, 116, 116, 101, 110]⟩]
theorem kinds_spec (w : World) :
    Cal Tryd.prog 44 [] w fun r w' => ∃ b, r = .slice (some ⟨b, 0, none⟩) 15 15 ∧ SlT w' (some ⟨b, 0, none⟩) kindNames ∧ Ext w w' := by
  refine fn_intro Tt_ok Tryd.func44 (by rfl) rfl _ rfl rfl (by rfl) ?_; (conv => whnf)
  intro b w1 hn
  (conv => whnf)
  exact ⟨b, rfl, sl_new strE_len (l := kindNames) hn, hn.ext⟩

theorem und71 : Tryd.prog.underlying 71 = some (.slice 5) := by kernel_rfl
theorem und5 : Tryd.prog.underlying 5 = some (.int .u8) := by kernel_rfl
theorem und9 : Tryd.prog.underlying 9 = some .string := by kernel_rfl
theorem wrap_u8 {z : Int} (h : 0 ≤ z ∧ z ≤ 255) : z = IntKind.u8.wrap z := by
  simp only [IntKind.wrap, IntKind.bits, IntKind.signed]
  simp
  omega
/-- 'string([]byte{c})'. -/
theorem conv_one {w w1 : World} {b d : Nat} (hd : d < 256) (hn : New w w1 b (.cells [Value.int .u8 (d : Int)].toArray 5)) {R : Value → World → Prop} (h : R (.string (bytesOf [UInt8.ofNat d])) w1) :
    RunE Tryd.prog (convert 71 9 (.slice (some ⟨b, 0, none⟩) 1 1)) w1 R := by
  refine ⟨_, _, run_convert_bytes_back w1 _ _ 5 ⟨b, 0, none⟩ 1 [UInt8.ofNat d] und71 und5 und9 ?_, h⟩
  intro j hj
  have hj : j = 0 := by simp at hj; exact hj
  subst hj
  have := hn.At.one (k := 0) rfl
  rw [this]
  simp
  omega
theorem dec_step {m : Nat} (h : 9 < m) : Lib.decDigits m = Lib.decDigits (m / 10) ++ [UInt8.ofNat (48 + m % 10)] := by
  rw [Lib.decDigits, dif_neg (by omega)]
theorem dec_len (n : Nat) (h : n < 9223372036854775808) : (Lib.decDigits n).length ≤ 21 := by
  have := Lib.itoa_length_le (n : Int) (by omega) (by omega)
  rw [Lib.itoa_nonneg] at this
  exact this
theorem bytes_app (a b : List UInt8) : bytesOf a ++ bytesOf b = bytesOf (a ++ b) := by
  unfold bytesOf
  apply ByteArray.ext
  simp
theorem bytes_size (a : List UInt8) : (bytesOf a).size = a.length := by simp [bytesOf, ByteArray.size]
def digB (n : Nat) : ByteArray := bytesOf (Lib.decDigits n)
theorem digits_spec (n : Nat) (w : World) (hn : n < 9223372036854775808) :
    Cal Tryd.prog 43 [.int .i64 n] w fun r w' => r = .string (digB n) ∧ Ext w w' := by
  refine fn_intro Tt_ok Tryd.func43 (by rfl) rfl _ rfl rfl (by rfl) ?_; (conv => whnf)
  refine loop_rule Tt_ok (fun (i : Nat × List UInt8) w' => Ext w w' ∧ i.1 ≤ n ∧ Lib.decDigits n = Lib.decDigits i.1 ++ i.2)
    (fun i => [(0, .int .i64 i.1), (3, .string (bytesOf i.2))]) (fun i => i.1) (n, []) ⟨Ext.refl _, Nat.le_refl _, by simp⟩ ⟨rfl, rfl, trivial⟩ ?_
  rintro ⟨m, s⟩ w1 ⟨hx, hm, hd⟩
  simp only at hm hd
  (conv => whnf)
  constructor
  · intro hlt
    have hlt : 9 < m := by simp at hlt; omega
    (conv => whnf)
    have hsl : s.length ≤ 21 := by
      have := dec_len n hn
      rw [hd] at this
      simp at this; omega
    refine ⟨((m % 10 : Nat) : Int), ⟨by decide, by rw [Int.tmod_eq_emod_of_nonneg (by omega)]; rfl⟩, ?_⟩; (conv => whnf)
    refine ⟨((48 + m % 10 : Nat) : Int), by rw [← wrap_i64 ⟨by omega, by omega⟩]; rfl, ?_⟩; (conv => whnf)
    refine ⟨((48 + m % 10 : Nat) : Int), wrap_u8 ⟨by omega, by omega⟩, ?_⟩; (conv => whnf)
    intro b2 w2 hn2
    (conv => whnf)
    refine conv_one (by omega) hn2 ?_
    (conv => whnf)
    refine ⟨?_, ?_⟩
    · show (bytesOf [_]).size + (bytesOf s).size ≤ 9223372036854775807
      rw [bytes_size, bytes_size]
      exact Nat.le_trans (Nat.add_le_add_left hsl 1) (by decide)
    (conv => whnf)
    refine ⟨((m / 10 : Nat) : Int), ⟨by decide, by rw [Int.tdiv_eq_ediv_of_nonneg (by omega), ← wrap_i64 ⟨by omega, by omega⟩]; rfl⟩, ?_⟩; (conv => whnf)
    refine ⟨(m / 10, UInt8.ofNat (48 + m % 10) :: s), by simp; omega, ⟨hx.trans hn2.ext, by simp; omega, ?_⟩, ⟨rfl, ?_, trivial⟩⟩
    · rw [hd, dec_step hlt]; simp
    · rw [bytes_app]; rfl
  · intro hge
    have hge : m < 10 := by simp at hge; omega
    have hsl : s.length ≤ 21 := by
      have := dec_len n hn
      rw [hd] at this
      simp at this; omega
    (conv => whnf)
    refine ⟨((48 + m : Nat) : Int), by rw [← wrap_i64 ⟨by omega, by omega⟩]; rfl, ?_⟩; (conv => whnf)
    refine ⟨((48 + m : Nat) : Int), wrap_u8 ⟨by omega, by omega⟩, ?_⟩; (conv => whnf)
    intro b2 w2 hn2
    (conv => whnf)
    refine conv_one (by omega) hn2 ?_
    (conv => whnf)
    refine ⟨?_, ?_⟩
    · show (bytesOf [_]).size + (bytesOf s).size ≤ 9223372036854775807
      rw [bytes_size, bytes_size]
      exact Nat.le_trans (Nat.add_le_add_left hsl 1) (by decide)
    (conv => whnf)
    refine ⟨?_, hx.trans hn2.ext⟩
    rw [bytes_app, digB, hd, Lib.decDigits_one hge]
end Go.Proofs.YtbfjlpoeglcmfaaDoor
