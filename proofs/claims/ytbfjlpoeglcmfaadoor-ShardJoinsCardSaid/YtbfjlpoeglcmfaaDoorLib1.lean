
/- Slices that read as lists; events; small facts on integers. -/
import Derived.Test.YtbfjlpoeglcmfaaDoorTab
set_option linter.unusedVariables false
set_option linter.unusedSimpArgs false
namespace Go.Proofs.YtbfjlpoeglcmfaaDoor
open Go.Se

theorem bool_eq {b c : Bool} (h : b = c) : some (Value.bool b) = some (Value.bool c) := by rw [h]
theorem int_eq {k : IntKind} {b c : Int} (h : b = c) : some (Value.int k b) = some (Value.int k c) := by rw [h]

theorem wrap_i64 {z : Int} (h : -9223372036854775808 ≤ z ∧ z ≤ 9223372036854775807) : z = IntKind.i64.wrap z := by
  simp only [IntKind.wrap, IntKind.bits, IntKind.signed]
  simp
  split <;> omega
theorem wrap_nat {k n : Nat} (h : k + n ≤ 9223372036854775807) : ((k + n : Nat) : Int) = IntKind.i64.wrap ((k : Int) + (n : Int)) := by
  rw [← wrap_i64 ⟨by omega, by omega⟩]; omega
theorem wrap_succ {k : Nat} (h : k < 9223372036854775807) : ((k + 1 : Nat) : Int) = IntKind.i64.wrap ((k : Int) + 1) := by
  rw [← wrap_i64 ⟨by omega, by omega⟩]; omega
theorem wrap_u64 {z : Int} (h : 0 ≤ z ∧ z ≤ 18446744073709551615) : z = IntKind.u64.wrap z := by
  simp only [IntKind.wrap, IntKind.bits, IntKind.signed]
  simp
  omega

theorem cells_head {w : World} {a : Addr} {v : Value} {l : List Value} (h : CellsAt w a (v :: l)) : w.cell? a = some v := by
  have := h 0 v rfl
  simpa [Addr.add] using this
theorem cells_at {w : World} {a : Addr} {l : List Value} (h : CellsAt w a l) {k : Nat} {v : Value} (hk : nth l k = some v) : w.cell? (a.add k) = some v := h k v (by rw [← nth_eq, hk])

/-- The slice at A with the elements l. -/
def Sl {α : Type} (enc : α → List Value) (sz : Nat) (w : World) (A : Option Addr) (l : List α) : Prop :=
  ∀ i x, l[i]? = some x → ∃ a, A = some a ∧ CellsAt w (a.add (i * sz)) (enc x)
section
variable {α : Type} {enc : α → List Value} {sz : Nat} {w w' : World} {A : Option Addr} {l : List α}
theorem Sl.nil : Sl enc sz w A [] := fun i x h => by simp at h
theorem Sl.ext (h : Sl enc sz w A l) (hx : Ext w w') : Sl enc sz w' A l := fun i x hi => by
  obtain ⟨a, ha, hc⟩ := h i x hi
  exact ⟨a, ha, hx.cells hc⟩
theorem Sl.get (h : Sl enc sz w A l) {k : Nat} (hk : k < l.length) : ∃ a, A = some a ∧ CellsAt w (a.add (k * sz)) (enc l[k]) :=
  h k l[k] (List.getElem?_eq_getElem hk)
end

/-- An event. -/
@[ext] structure Ev where
  src : ByteArray
  num : Int
  at_ : Int
  kind : Int
  person : ByteArray
  item : ByteArray
  val : Int
  text : ByteArray
deriving DecidableEq
def evC (e : Ev) : List Value := [.string e.src, .int .i64 e.num, .int .i64 e.at_, .int .i64 e.kind, .string e.person, .string e.item, .int .i64 e.val, .string e.text]
def evV (e : Ev) : Value := .agg (evC e).toArray
abbrev SlE := Sl evC 8

/-- 'm' is less than the length of one of the texts. -/
def bigB (m : Int) (e : Ev) : Bool := decide (m < e.src.size) || decide (m < e.person.size) || decide (m < e.item.size) || decide (m < e.text.size)
theorem big_spec (e : Ev) (m : Int) (w : World) :
    Cal Tryd.prog 12 [evV e, .int .i64 m] w fun r w' => r = .bool (bigB m e) ∧ Ext w w' := by
  refine fn_intro Tt_ok Tryd.func12 (by rfl) rfl _ rfl rfl (by rfl) ?_; (conv => whnf)
  intro b w1 hn
  have hb := hn.At
  (conv => whnf)
  refine ⟨_, hb.one rfl, ?_⟩; (conv => whnf)
  refine ⟨_, fun _ => hb.one rfl, ?_⟩; (conv => whnf)
  refine ⟨_, fun _ => hb.one rfl, ?_⟩; (conv => whnf)
  refine ⟨_, fun _ => hb.one rfl, ?_⟩; (conv => whnf)
  exact ⟨rfl, hn.ext⟩

theorem any_take {α : Type} {l : List α} {p : α → Bool} {k : Nat} (h : ∀ i (hi : i < l.length), i < k → p l[i] = false) (hk : l.length ≤ k) : l.any p = false := by
  rw [List.any_eq_false]
  intro x hx
  obtain ⟨i, hi, rfl⟩ := List.getElem_of_mem hx
  rw [h i hi (by omega)]; simp

theorem some_spec (l : List Ev) (A : Option Addr) (c : Nat) (m : Int) (w : World) (hs : SlE w A l) (hl : l.length < 1000000000000) :
    Cal Tryd.prog 5 [.slice A l.length c, .int .i64 m] w fun r w' => r = .bool (l.any (bigB m)) ∧ Ext w w' := by
  refine fn_intro Tt_ok Tryd.func5 (by rfl) rfl _ rfl rfl (by rfl) ?_; (conv => whnf)
  refine loop_rule Tt_ok (fun (k : Nat) w' => k ≤ l.length ∧ Ext w w' ∧ ∀ i (hi : i < l.length), i < k → bigB m l[i] = false)
    (fun k => [(0, .slice A l.length c), (1, .int .i64 m), (5, .int .i64 k)]) (fun k => l.length - k) 0 ⟨by omega, Ext.refl _, fun i _ h => by omega⟩ ⟨rfl, rfl, rfl, trivial⟩ ?_
  rintro k w1 ⟨hk, hx, hall⟩
  (conv => whnf)
  constructor
  · intro hlt
    have hlt : k < l.length := by simpa using hlt
    (conv => whnf)
    obtain ⟨a, rfl, hc⟩ := hs.get hlt
    refine ⟨a, ⟨rfl, by omega, by omega⟩, ?_⟩; (conv => whnf)
    refine ⟨evC l[k], ⟨rfl, hx.cells hc⟩, ?_⟩; (conv => whnf)
    refine (big_spec l[k] m w1).mono ?_
    rintro r w2 ⟨rfl, hx2⟩
    (conv => whnf)
    constructor
    · intro hb
      (conv => whnf)
      exact ⟨by rw [(List.any_eq_true (l := l)).2 ⟨l[k], List.getElem_mem hlt, hb⟩], hx.trans hx2⟩
    · intro hb
      (conv => whnf)
      refine ⟨((k + 1 : Nat) : Int), wrap_succ (by omega), ?_⟩; (conv => whnf)
      refine ⟨k + 1, by omega, ⟨by omega, hx.trans hx2, fun i hi hik => ?_⟩, ⟨rfl, rfl, rfl, trivial⟩⟩
      by_cases e : i = k
      · subst e; exact hb
      · exact hall i hi (by omega)
  · intro hge
    have hge : l.length ≤ k := by simpa using hge
    (conv => whnf)
    exact ⟨by rw [any_take hall hge], hx⟩
end Go.Proofs.YtbfjlpoeglcmfaaDoor
