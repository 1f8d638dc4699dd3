
/- Whose shard; lists of events that are alike; one of n lists. -/
import Derived.Test.YtbfjlpoeglcmfaaDoorHash2
import Derived.Test.YtbfjlpoeglcmfaaDoorLib3
set_option linter.unusedVariables false
set_option linter.unusedSimpArgs false
namespace Go.Proofs.YtbfjlpoeglcmfaaDoor
open Go.Se Go.RowKit

def hashN (p : ByteArray) : Nat := (hash 0 [p]).toNat
theorem u64wrap_range (z : Int) : 0 ≤ IntKind.u64.wrap z ∧ IntKind.u64.wrap z < 18446744073709551616 := by
  simp only [IntKind.wrap, IntKind.bits, IntKind.signed]
  simp
  omega
theorem hash_range (s : Int) (l : List ByteArray) : 0 ≤ hash s l ∧ hash s l < 18446744073709551616 := u64wrap_range _
theorem hashN_eq (p : ByteArray) : hash 0 [p] = (hashN p : Int) := by have := hash_range 0 [p]; unfold hashN; omega
theorem hashN_lt (p : ByteArray) : hashN p < 18446744073709551616 := by have := hash_range 0 [p]; unfold hashN; omega
def shardOf (p : ByteArray) (n : Int) : Int := below (hashN p) n

theorem sls_new {w w1 : World} {b t : Nat} {l : List ByteArray} (h : New w w1 b (.cells (l.flatMap fun s => [Value.string s]).toArray t)) : SlS w1 (some ⟨b, 0, none⟩) l := sl_new (enc := fun s : ByteArray => [Value.string s]) (sz := 1) (fun _ => rfl) h

theorem of_spec (p : ByteArray) (n : Int) (w : World) (hp : p.size < 1000000000000000) (hn : n < 9223372036854775808) :
    Cal Tryd.prog 11 [.string p, .int .i64 n] w fun r w' => r = .int .i64 (shardOf p n) ∧ Ext w w' := by
  refine fn_intro Tt_ok Tryd.func11 (by rfl) rfl _ rfl rfl (by rfl) ?_; (conv => whnf)
  constructor
  · intro h1
    have h1 : n < 1 := by simpa using h1
    (conv => whnf)
    exact ⟨by unfold shardOf below; rw [if_pos h1], Ext.refl _⟩
  · intro h1
    (conv => whnf)
    intro b w1 hnew
    (conv => whnf)
    refine (hash_spec 0 [p] _ _ w1 (sls_new (l := [p]) hnew) (by simp) (by simpa using hp)).mono ?_
    rintro r w2 ⟨rfl, rfl⟩
    rw [hashN_eq]
    (conv => whnf)
    refine (below_spec (hashN p) n w2 (hashN_lt p) hn).mono ?_
    rintro r w3 ⟨rfl, rfl⟩
    (conv => whnf)
    exact ⟨rfl, hnew.ext⟩

/-! ### Events that are alike -/
theorem ev_eq (a b : Ev) (ox oy : Operand) : EqRun Tryd.prog 34 ox oy (evV a) (evV b) (decide (a = b)) := by
  have h := eqRun_struct (ox := ox) (oy := oy) Tt_ok st34 (xs := evC a) (ys := evC b) (b := decide (a.src = b.src) && (decide (a.num = b.num) && (decide (a.at_ = b.at_) && (decide (a.kind = b.kind) && (decide (a.person = b.person) && (decide (a.item = b.item) && (decide (a.val = b.val) && (decide (a.text = b.text) && true)))))))) rfl
  have e : (decide (a.src = b.src) && (decide (a.num = b.num) && (decide (a.at_ = b.at_) && (decide (a.kind = b.kind) && (decide (a.person = b.person) && (decide (a.item = b.item) && (decide (a.val = b.val) && (decide (a.text = b.text) && true)))))))) = decide (a = b) := by
    rw [Bool.eq_iff_iff]
    simp only [Bool.and_eq_true, decide_eq_true_eq, Ev.ext_iff, and_true]
  rw [e] at h
  exact h

theorem same_spec (l m : List Ev) (A B : Option Addr) (c d : Nat) (w : World) (hs : SlE w A l) (hm : SlE w B m) (hl : l.length < 1000000000000) :
    Cal Tryd.prog 9 [.slice A l.length c, .slice B m.length d] w fun r w' => r = .bool (decide (l = m)) ∧ Ext w w' := by
  refine fn_intro Tt_ok Tryd.func9 (by rfl) rfl _ rfl rfl (by rfl) ?_; (conv => whnf)
  constructor
  · intro h1
    have h1 : l.length ≠ m.length := by simp at h1; omega
    (conv => whnf)
    exact ⟨by rw [decide_eq_false (fun e => h1 (by rw [e]))], Ext.refl _⟩
  · intro h1
    have h1 : l.length = m.length := by simp at h1; omega
    (conv => whnf)
    refine loop_rule Tt_ok (fun (k : Nat) w' => k ≤ l.length ∧ Ext w w' ∧ l.take k = m.take k)
      (fun k => [(0, .slice A l.length c), (1, .slice B m.length d), (5, .int .i64 k)]) (fun k => l.length - k) 0 ⟨by omega, Ext.refl _, by simp⟩ ⟨rfl, rfl, rfl, trivial⟩ ?_
    rintro k w1 ⟨hk, hx, hall⟩
    (conv => whnf)
    constructor
    · intro hlt
      have hlt : k < l.length := by simpa using hlt
      have hlt' : k < m.length := by omega
      obtain ⟨a, rfl, hc⟩ := hs.get hlt
      obtain ⟨b, rfl, hd⟩ := hm.get hlt'
      (conv => whnf)
      refine draw_rule .same [0, 1, 2, 3, 4, 5, 6, 7, 8] [] Tt_ok mixed (by kernel_rfl) (by first | (intro h; cases h; done) | (intro _; rfl)) ?_; (conv => whnf)
      refine ⟨a, ⟨rfl, by omega, by omega⟩, ?_⟩; (conv => whnf)
      refine ⟨evC l[k], ⟨rfl, hx.cells hc⟩, ?_⟩; (conv => whnf)
      refine ⟨b, ⟨rfl, by omega, by omega⟩, ?_⟩; (conv => whnf)
      refine ⟨evC m[k], ⟨rfl, hx.cells hd⟩, ?_⟩; (conv => whnf)
      refine ⟨_, ev_eq l[k] m[k] _ _, ?_⟩; (conv => whnf)
      constructor
      · intro he
        have he : l[k] ≠ m[k] := by simpa using he
        (conv => whnf)
        refine ⟨by rw [decide_eq_false (fun e => he (by simp [e]))], hx.drew⟩
      · intro he
        have he : l[k] = m[k] := by simpa using he
        (conv => whnf)
        refine ⟨((k + 1 : Nat) : Int), wrap_succ (by omega), ?_⟩; (conv => whnf)
        refine ⟨k + 1, by omega, ⟨by omega, hx.drew, ?_⟩, ⟨rfl, rfl, rfl, trivial⟩⟩
        rw [List.take_succ_eq_append_getElem hlt, List.take_succ_eq_append_getElem hlt', hall, he]
    · intro hge
      have hge : l.length ≤ k := by simpa using hge
      (conv => whnf)
      rw [List.take_of_length_le hge, List.take_of_length_le (by omega)] at hall
      exact ⟨by rw [decide_eq_true hall], hx⟩

end Go.Proofs.YtbfjlpoeglcmfaaDoor
