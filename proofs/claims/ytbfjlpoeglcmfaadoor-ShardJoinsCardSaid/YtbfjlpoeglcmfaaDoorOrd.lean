
/- The order of texts and of events, with no program in sight. -/
import Derived.Test.YtbfjlpoeglcmfaaDoorSortP
import Derived.Test.YtbfjlpoeglcmfaaDoorEv6
import Derived.Lib.Bytealg
set_option linter.unusedVariables false
set_option linter.unusedSimpArgs false
namespace Go.Proofs.YtbfjlpoeglcmfaaDoor
open Go.Se Go.RowKit

theorem bl_irrefl : ∀ x : List UInt8, Op.bytesLess x x = false
  | [] => rfl
  | a :: x => by simp [Op.bytesLess, bl_irrefl x]
theorem bl_nil (x : List UInt8) : Op.bytesLess x [] = false := by cases x <;> rfl
theorem u8_lt {a b : UInt8} : a < b ↔ a.toNat < b.toNat := Iff.rfl
theorem u8_eq {a b : UInt8} : a = b ↔ a.toNat = b.toNat := UInt8.toNat_inj.symm
theorem bl_cons {a b : UInt8} {x y : List UInt8} : Op.bytesLess (a :: x) (b :: y) = true ↔ a.toNat < b.toNat ∨ (a = b ∧ Op.bytesLess x y = true) := by
  simp only [Op.bytesLess, Bool.or_eq_true, decide_eq_true_eq, Bool.and_eq_true, beq_iff_eq, u8_lt]
theorem bl_trans : ∀ {x y z : List UInt8}, Op.bytesLess x y = true → Op.bytesLess y z = true → Op.bytesLess x z = true
  | x, [], z, h, _ => by rw [bl_nil] at h; cases h
  | _, b :: y, [], _, h => by rw [bl_nil] at h; cases h
  | [], b :: y, c :: z, _, _ => rfl
  | a :: x, b :: y, c :: z, h, k => by
    rw [bl_cons] at h k ⊢
    rcases h with h | ⟨rfl, h⟩ <;> rcases k with k | ⟨rfl, k⟩
    · exact .inl (by omega)
    · exact .inl h
    · exact .inl k
    · exact .inr ⟨rfl, bl_trans h k⟩
theorem bl_tri : ∀ {x y : List UInt8}, Op.bytesLess x y = false → Op.bytesLess y x = false → x = y
  | [], [], _, _ => rfl
  | [], b :: y, h, _ => by simp [Op.bytesLess] at h
  | a :: x, [], _, h => by simp [Op.bytesLess] at h
  | a :: x, b :: y, h, k => by
    rw [← Bool.not_eq_true, bl_cons] at h k
    have h1 : a = b := by rw [u8_eq]; omega
    subst h1
    rw [bl_tri (x := x) (y := y) (by rw [← Bool.not_eq_true]; exact fun e => h (.inr ⟨rfl, e⟩)) (by rw [← Bool.not_eq_true]; exact fun e => k (.inr ⟨rfl, e⟩))]
theorem bl_asymm {x y : List UInt8} (h : Op.bytesLess x y = true) : Op.bytesLess y x = false := by
  cases k : Op.bytesLess y x with
  | false => rfl
  | true => have := bl_trans h k; rw [bl_irrefl] at this; cases this
theorem cmp_bytes : ∀ x y : List UInt8, Lib.compareBytes x y = if Op.bytesLess x y = true then -1 else if Op.bytesLess y x = true then 1 else 0
  | [], [] => rfl
  | [], b :: y => by simp [Lib.compareBytes, Op.bytesLess]
  | a :: x, [] => by simp [Lib.compareBytes, Op.bytesLess]
  | a :: x, b :: y => by
    simp only [Lib.compareBytes, bl_cons, cmp_bytes x y, u8_lt]
    by_cases h1 : a.toNat < b.toNat
    · simp [h1]
    · by_cases h2 : b.toNat < a.toNat
      · have hn : ¬ (a = b) := fun e => by rw [e] at h2; omega
        simp [h1, h2, hn]
      · have : a = b := by rw [u8_eq]; omega
        subst this
        simp [h1]

theorem ba_list {a b : ByteArray} (h : a.toList = b.toList) : a = b := by
  rw [ByteArray.toList_eq, ByteArray.toList_eq] at h
  exact WideShapes.bytes_inj h
theorem bLt_irrefl (a : ByteArray) : bLt a a = false := bl_irrefl _
theorem bLt_trans {a b c : ByteArray} (h : bLt a b = true) (k : bLt b c = true) : bLt a c = true := bl_trans h k
theorem bLt_tri {a b : ByteArray} (h : bLt a b = false) (k : bLt b a = false) : a = b := ba_list (bl_tri h k)
theorem bLt_asymm {a b : ByteArray} (h : bLt a b = true) : bLt b a = false := bl_asymm h
/-- What Compare of two texts gives. -/
def cmpT (a b : ByteArray) : Int := if bLt a b = true then -1 else if bLt b a = true then 1 else 0
theorem cmpT_eq (a b : ByteArray) : Lib.compareBytes a.data.toList b.data.toList = cmpT a b := by
  rw [cmp_bytes]
  unfold cmpT bLt
  rw [ByteArray.toList_eq, ByteArray.toList_eq]
def cmpI (a b : Int) : Int := if a < b then -1 else if b < a then 1 else 0
theorem cmpI_zero {a b : Int} : cmpI a b = 0 ↔ a = b := by unfold cmpI; split <;> (try split) <;> omega
theorem cmpT_zero {a b : ByteArray} : cmpT a b = 0 ↔ a = b := by
  unfold cmpT
  constructor
  · intro h
    split at h
    · omega
    · split at h
      · omega
      · rename_i h1 h2; exact bLt_tri (by simpa using h1) (by simpa using h2)
  · rintro rfl; simp [bLt_irrefl]

theorem less_iff (a b : Ev) : lessB a b = true ↔ a.at_ < b.at_ ∨ (a.at_ = b.at_ ∧ (bLt a.src b.src = true ∨ (a.src = b.src ∧ a.num < b.num))) := by
  unfold lessB
  by_cases h : a.at_ = b.at_
  · by_cases k : a.src = b.src
    · simp [h, k, bLt_irrefl]
    · simp [h, k]
  · simp [h]
/-- What Compare of two events gives. -/
def cmpE (a b : Ev) : Int := if cmpI a.at_ b.at_ ≠ 0 then cmpI a.at_ b.at_ else if cmpT a.src b.src ≠ 0 then cmpT a.src b.src else cmpI a.num b.num
theorem less_swo : Swo lessB where
  asymm x y h := by
    rw [← Bool.not_eq_true]
    intro k
    rw [less_iff] at h k
    rcases h with h | ⟨h1, h | ⟨h2, h3⟩⟩ <;> rcases k with k | ⟨k1, k | ⟨k2, k3⟩⟩ <;> try omega
    · rw [bLt_asymm h] at k; cases k
    · rw [k2, bLt_irrefl] at h; cases h
    · rw [h2, bLt_irrefl] at k; cases k
  trans x y z h k := by
    rw [← Bool.not_eq_true] at h k ⊢
    intro hh
    rw [less_iff] at hh
    rw [less_iff] at h k
    have h1 : x.at_ ≤ y.at_ := by omega
    have k1 : y.at_ ≤ z.at_ := by omega
    rcases hh with hh | ⟨e, hh⟩
    · omega
    · have e1 : y.at_ = x.at_ := by omega
      have e2 : z.at_ = y.at_ := by omega
      have h2 : ¬ (bLt y.src x.src = true ∨ (y.src = x.src ∧ y.num < x.num)) := fun q => h (.inr ⟨e1, q⟩)
      have k2 : ¬ (bLt z.src y.src = true ∨ (z.src = y.src ∧ z.num < y.num)) := fun q => k (.inr ⟨e2, q⟩)
      by_cases p1 : bLt x.src y.src = true
      · by_cases p2 : bLt y.src z.src = true
        · have p3 := bLt_trans p1 p2
          rcases hh with q | ⟨q, _⟩
          · rw [bLt_asymm p3] at q; cases q
          · rw [q, bLt_irrefl] at p3; cases p3
        · have p3 : y.src = z.src := bLt_tri (by simpa using p2) (by simpa using fun q => k2 (.inl q))
          rw [p3] at p1
          rcases hh with q | ⟨q, _⟩
          · rw [bLt_asymm p1] at q; cases q
          · rw [q, bLt_irrefl] at p1; cases p1
      · have p3 : x.src = y.src := bLt_tri (by simpa using p1) (by simpa using fun q => h2 (.inl q))
        rw [p3] at hh h2
        rcases hh with q | ⟨q, q2⟩
        · exact k2 (.inl q)
        · have : ¬ y.num < x.num := fun r => h2 (.inr ⟨rfl, r⟩)
          have : ¬ z.num < y.num := fun r => k2 (.inr ⟨q, r⟩)
          omega
theorem less_total {x y : Ev} (h : lessB x y = false) (k : lessB y x = false) : x.at_ = y.at_ ∧ x.src = y.src ∧ x.num = y.num := by
  rw [← Bool.not_eq_true, less_iff] at h k
  have e : x.at_ = y.at_ := by omega
  have h1 : ¬ bLt x.src y.src = true := fun q => h (.inr ⟨e, .inl q⟩)
  have k1 : ¬ bLt y.src x.src = true := fun q => k (.inr ⟨e.symm, .inl q⟩)
  have e2 : x.src = y.src := bLt_tri (by simpa using h1) (by simpa using k1)
  have h2 : ¬ x.num < y.num := fun q => h (.inr ⟨e, .inr ⟨e2, q⟩⟩)
  have k2 : ¬ y.num < x.num := fun q => k (.inr ⟨e.symm, .inr ⟨e2.symm, q⟩⟩)
  exact ⟨e, e2, by omega⟩
theorem cmpT_neg {a b : ByteArray} : cmpT a b < 0 ↔ bLt a b = true := by
  unfold cmpT
  split
  · rename_i h; simp [h]
  · rename_i h; split <;> simp [h]
theorem cmpI_neg {a b : Int} : cmpI a b < 0 ↔ a < b := by unfold cmpI; split <;> (try split) <;> omega
theorem cmpE_neg (a b : Ev) : decide (cmpE a b < 0) = lessB a b := by
  rw [Bool.eq_iff_iff, decide_eq_true_eq, less_iff]
  unfold cmpE
  by_cases h : cmpI a.at_ b.at_ = 0
  · have e := cmpI_zero.1 h
    rw [if_neg (by simpa using h)]
    by_cases k : cmpT a.src b.src = 0
    · have e2 := cmpT_zero.1 k
      rw [if_neg (by simpa using k), cmpI_neg]
      simp [e, e2, bLt_irrefl]
    · have e2 : a.src ≠ b.src := fun q => k (cmpT_zero.2 q)
      rw [if_pos k, cmpT_neg]
      simp [e, e2]
  · have e : a.at_ ≠ b.at_ := fun q => h (cmpI_zero.2 q)
    rw [if_pos h, cmpI_neg]
    simp [e]
theorem cmpE_zero (a b : Ev) : cmpE a b = 0 ↔ a.at_ = b.at_ ∧ a.src = b.src ∧ a.num = b.num := by
  unfold cmpE
  by_cases h : cmpI a.at_ b.at_ = 0
  · have e := cmpI_zero.1 h
    rw [if_neg (by simpa using h)]
    by_cases k : cmpT a.src b.src = 0
    · have e2 := cmpT_zero.1 k
      rw [if_neg (by simpa using k), cmpI_zero]
      simp [e, e2]
    · have e2 : a.src ≠ b.src := fun q => k (cmpT_zero.2 q)
      rw [if_pos k]
      simp [e2, k]
  · have e : a.at_ ≠ b.at_ := fun q => h (cmpI_zero.2 q)
    rw [if_pos h]
    simp [e, h]
theorem cmpE_range (a b : Ev) : cmpE a b = -1 ∨ cmpE a b = 0 ∨ cmpE a b = 1 := by
  have hI : ∀ x y : Int, cmpI x y = -1 ∨ cmpI x y = 0 ∨ cmpI x y = 1 := by intro x y; unfold cmpI; split <;> (try split) <;> omega
  have hT : ∀ x y : ByteArray, cmpT x y = -1 ∨ cmpT x y = 0 ∨ cmpT x y = 1 := by intro x y; unfold cmpT; split <;> (try split) <;> omega
  unfold cmpE
  split
  · exact hI _ _
  · split
    · exact hT _ _
    · exact hI _ _
end Go.Proofs.YtbfjlpoeglcmfaaDoor
