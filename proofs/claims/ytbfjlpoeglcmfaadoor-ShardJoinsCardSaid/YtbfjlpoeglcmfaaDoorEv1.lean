
/- Names; numbers from one to another; the place of a sign. -/
import Derived.Test.YtbfjlpoeglcmfaaDoorLib3
set_option linter.unusedVariables false
set_option linter.unusedSimpArgs false
namespace Go.Proofs.YtbfjlpoeglcmfaaDoor
open Go.Se Go.RowKit

def nameCh (c : UInt8) : Bool := ((decide ((97 : Int) ≤ c.toNat) && decide ((c.toNat : Int) ≤ 122)) || (decide ((48 : Int) ≤ c.toNat) && decide ((c.toNat : Int) ≤ 57))) || decide ((c.toNat : Int) = 45)
def isName (s : ByteArray) : Bool := decide (1 ≤ s.size) && decide (s.size ≤ 24) && s.data.toList.all nameCh

theorem bytes_at (s : ByteArray) (k : Nat) (h : k < s.size) : s[k]? = some (s.data.toList[k]'(by simpa using h)) := by
  rw [getElem?_pos s k h]
  rfl
theorem all_take {α : Type} {l : List α} {p : α → Bool} {k : Nat} (h : ∀ i (hi : i < l.length), i < k → p l[i] = true) (hk : l.length ≤ k) : l.all p = true := by
  rw [List.all_eq_true]
  intro x hx
  obtain ⟨i, hi, rfl⟩ := List.getElem_of_mem hx
  exact h i hi (by omega)
theorem all_not {α : Type} {l : List α} {p : α → Bool} {k : Nat} (hk : k < l.length) (h : p l[k] = false) : l.all p = false := by
  rw [List.all_eq_false]
  exact ⟨l[k], List.getElem_mem hk, by simp [h]⟩

theorem rname_spec (s : ByteArray) (w : World) :
    Cal Tryd.prog 20 [.string s] w fun r w' => r = .bool (isName s) ∧ w' = w := by
  refine fn_intro Tt_ok Tryd.func20 (by rfl) rfl _ rfl rfl (by rfl) ?_; (conv => whnf)
  constructor
  · intro h
    simp only [Bool.or_eq_true, decide_eq_true_eq] at h
    (conv => whnf)
    refine ⟨?_, rfl⟩
    have : isName s = false := by
      unfold isName
      rcases h with h | h
      · simp; omega
      · simp; omega
    rw [this]
  · intro h
    simp only [Bool.or_eq_false_iff, decide_eq_false_iff_not] at h
    (conv => whnf)
    refine loop_rule Tt_ok (fun (k : Nat) w' => k ≤ s.size ∧ w' = w ∧ ∀ i (hi : i < s.data.toList.length), i < k → nameCh s.data.toList[i] = true)
      (fun k => [(0, .string s), (3, .int .i64 k)]) (fun k => s.size - k) 0 ⟨by omega, rfl, fun i _ h => by omega⟩ ⟨rfl, rfl, trivial⟩ ?_
    rintro k w1 ⟨hk, rfl, hall⟩
    (conv => whnf)
    constructor
    · intro hlt
      have hlt : k < s.size := by simpa using hlt
      have hlt' : k < s.data.toList.length := by simpa using hlt
      (conv => whnf)
      refine ⟨s.data.toList[k], ⟨by omega, bytes_at s k hlt⟩, ?_⟩; (conv => whnf)
      refine ⟨fun hc => ?_, fun hc => ?_⟩
      · have hc : (!nameCh s.data.toList[k]) = true := hc
        (conv => whnf)
        refine ⟨?_, rfl⟩
        have : isName s = false := by
          unfold isName
          rw [all_not hlt' (by simpa using hc)]
          simp
        rw [this]
      · have hc : (!nameCh s.data.toList[k]) = false := hc
        (conv => whnf)
        refine ⟨((k + 1 : Nat) : Int), wrap_succ (by omega), ?_⟩; (conv => whnf)
        refine ⟨k + 1, by omega, ⟨by omega, rfl, fun i hi hik => ?_⟩, ⟨rfl, rfl, trivial⟩⟩
        by_cases e : i = k
        · subst e; simpa using hc
        · exact hall i hi (by omega)
    · intro hge
      have hge : s.size ≤ k := by simpa using hge
      (conv => whnf)
      refine ⟨?_, rfl⟩
      have : isName s = true := by
        unfold isName
        rw [all_take hall (by simpa using hge)]
        simp; omega
      rw [this]

theorem name_spec (s : ByteArray) (w : World) :
    Cal Tryd.prog 48 [.string s] w fun r w' => r = .bool (isName s) ∧ w' = w := by
  refine fn_intro Tt_ok Tryd.func48 (by rfl) rfl _ rfl rfl (by rfl) ?_; (conv => whnf)
  constructor
  · intro h
    simp only [Bool.or_eq_true, decide_eq_true_eq] at h
    (conv => whnf)
    refine ⟨?_, rfl⟩
    have : isName s = false := by
      unfold isName
      rcases h with h | h
      · simp; omega
      · simp; omega
    rw [this]
  · intro h
    simp only [Bool.or_eq_false_iff, decide_eq_false_iff_not] at h
    (conv => whnf)
    refine loop_rule Tt_ok (fun (k : Nat) w' => k ≤ s.size ∧ w' = w ∧ ∀ i (hi : i < s.data.toList.length), i < k → nameCh s.data.toList[i] = true)
      (fun k => [(0, .string s), (14, .int .i64 s.size), (15, .int .i64 k)]) (fun k => s.size - k) 0 ⟨by omega, rfl, fun i _ h => by omega⟩ ⟨rfl, rfl, rfl, trivial⟩ ?_
    rintro k w1 ⟨hk, rfl, hall⟩
    (conv => whnf)
    constructor
    · intro hlt
      have hlt : k < s.size := by simpa using hlt
      have hlt' : k < s.data.toList.length := by simpa using hlt
      (conv => whnf)
      refine ⟨s.data.toList[k], ⟨by omega, bytes_at s k hlt⟩, ?_⟩; (conv => whnf)
      refine ⟨fun hc => ?_, fun hc => ?_⟩
      · have hc : (!nameCh s.data.toList[k]) = true := hc
        (conv => whnf)
        refine ⟨?_, rfl⟩
        have : isName s = false := by
          unfold isName
          rw [all_not hlt' (by simpa using hc)]
          simp
        rw [this]
      · have hc : (!nameCh s.data.toList[k]) = false := hc
        (conv => whnf)
        refine ⟨((k + 1 : Nat) : Int), wrap_succ (by omega), ?_⟩; (conv => whnf)
        refine ⟨k + 1, by omega, ⟨by omega, rfl, fun i hi hik => ?_⟩, ⟨rfl, rfl, rfl, trivial⟩⟩
        by_cases e : i = k
        · subst e; simpa using hc
        · exact hall i hi (by omega)
    · intro hge
      have hge : s.size ≤ k := by simpa using hge
      (conv => whnf)
      refine ⟨?_, rfl⟩
      have : isName s = true := by
        unfold isName
        rw [all_take hall (by simpa using hge)]
        simp; omega
      rw [this]

def inB (n lo hi : Int) : Bool := decide (lo ≤ n) && decide (n ≤ hi)
theorem in_spec (n lo hi : Int) (w : World) : Cal Tryd.prog 21 [.int .i64 n, .int .i64 lo, .int .i64 hi] w fun r w' => r = .bool (inB n lo hi) ∧ w' = w := by
  refine fn_intro Tt_ok Tryd.func21 (by rfl) rfl _ rfl rfl (by rfl) ?_; (conv => whnf)
  exact ⟨rfl, rfl⟩

/-- The place of the first ';'. -/
def placeN (s : ByteArray) : Option Nat := s.data.toList.findIdx? (· == 59)
def placeI (s : ByteArray) : Int := match placeN s with | some i => i | none => -1
theorem placeN_lt {s : ByteArray} {i : Nat} (h : placeN s = some i) : i < s.size := by
  unfold placeN at h
  rw [List.findIdx?_eq_some_iff_getElem] at h
  obtain ⟨h1, _⟩ := h
  simpa using h1
theorem byte59 (c : UInt8) : decide ((c.toNat : Int) = 59) = (c == 59) := by
  rw [Bool.eq_iff_iff]
  simp only [decide_eq_true_eq, beq_iff_eq]
  constructor
  · intro h; apply UInt8.toNat_inj.1; simpa using (by omega : c.toNat = 59)
  · intro h; rw [h]; rfl
theorem place_spec (s : ByteArray) (w : World) (hs : s.size < 1000000000000000000) : Cal Tryd.prog 31 [.string s] w fun r w' => r = .int .i64 (placeI s) ∧ w' = w := by
  refine fn_intro Tt_ok Tryd.func31 (by rfl) rfl _ rfl rfl (by rfl) ?_; (conv => whnf)
  refine loop_rule Tt_ok (fun (k : Nat) w' => k ≤ s.size ∧ w' = w ∧ ∀ i (hi : i < s.data.toList.length), i < k → (s.data.toList[i] == 59) = false)
    (fun k => [(0, .string s), (3, .int .i64 k)]) (fun k => s.size - k) 0 ⟨by omega, rfl, fun i _ h => by omega⟩ ⟨rfl, rfl, trivial⟩ ?_
  rintro k w1 ⟨hk, rfl, hall⟩
  (conv => whnf)
  constructor
  · intro hlt
    have hlt : k < s.size := by simpa using hlt
    have hlt' : k < s.data.toList.length := by simpa using hlt
    (conv => whnf)
    refine ⟨s.data.toList[k], ⟨by omega, bytes_at s k hlt⟩, ?_⟩; (conv => whnf)
    rw [byte59]
    refine ⟨fun hc => ?_, fun hc => ?_⟩
    · (conv => whnf)
      refine ⟨?_, rfl⟩
      have : placeN s = some k := by
        unfold placeN
        rw [List.findIdx?_eq_some_iff_getElem]
        exact ⟨hlt', hc, fun j hj => by rw [hall j (by omega) hj]; simp⟩
      unfold placeI
      rw [this]
    · (conv => whnf)
      refine ⟨((k + 1 : Nat) : Int), wrap_succ (by omega), ?_⟩; (conv => whnf)
      refine ⟨k + 1, by omega, ⟨by omega, rfl, fun i hi hik => ?_⟩, ⟨rfl, rfl, trivial⟩⟩
      by_cases e : i = k
      · subst e; exact hc
      · exact hall i hi (by omega)
  · intro hge
    have hge : s.size ≤ k := by simpa using hge
    (conv => whnf)
    refine ⟨?_, rfl⟩
    have : placeN s = none := by
      unfold placeN
      rw [List.findIdx?_eq_none_iff]
      intro x hx
      obtain ⟨i, hi, rfl⟩ := List.getElem_of_mem hx
      exact hall i hi (by have : i < s.size := by simpa using hi
                          omega)
    unfold placeI
    rw [this]

def makerOf (s : ByteArray) : ByteArray := match placeN s with | some i => s.extract 0 i | none => s
theorem rmaker_spec (s : ByteArray) (w : World) (hs : s.size < 1000000000000000000) : Cal Tryd.prog 32 [.string s] w fun r w' => r = .string (makerOf s) ∧ w' = w := by
  refine fn_intro Tt_ok Tryd.func32 (by rfl) rfl _ rfl rfl (by rfl) ?_; (conv => whnf)
  refine (place_spec s w hs).mono ?_
  rintro r w1 ⟨rfl, rfl⟩
  (conv => whnf)
  unfold placeI makerOf
  cases hp : placeN s with
  | none =>
    refine ⟨fun h => by simp at h, fun _ => ?_⟩
    (conv => whnf)
    exact ⟨rfl, rfl⟩
  | some i =>
    have := placeN_lt hp
    refine ⟨fun _ => ?_, fun h => by simp at h⟩
    (conv => whnf)
    refine ⟨⟨by simp, by simp; omega⟩, ?_⟩; (conv => whnf)
    exact ⟨rfl, rfl⟩
end Go.Proofs.YtbfjlpoeglcmfaaDoor
