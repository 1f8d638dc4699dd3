
/- The document's Hash; the high half of a product; whose shard a person is. -/
import Derived.Test.YtbfjlpoeglcmfaaDoorHash
set_option linter.unusedVariables false
set_option linter.unusedSimpArgs false
namespace Go.Proofs.YtbfjlpoeglcmfaaDoor
open Go.Se Go.RowKit

def hk (h0 : Int) (s : ByteArray) (j : Nat) : Int := if j ≤ s.size then hbytes h0 (s.data.toList.take j) else hword h0 s
/-! ### The high half of a product -/
theorem mask32 (x : Nat) (h : x < 18446744073709551616) : ((x % 4294967296 : Nat) : Int) = IntKind.u64.wrap (BitVec.ofInt 64 (x : Int) &&& BitVec.ofInt 64 4294967295).toNat := by
  have e : (BitVec.ofInt 64 (x : Int) &&& BitVec.ofInt 64 4294967295).toNat = x % 4294967296 := by
    rw [BitVec.toNat_and]
    have h1 : (BitVec.ofInt 64 (x : Int)).toNat = x := by rw [BitVec.ofInt_natCast, BitVec.toNat_ofNat]; exact Nat.mod_eq_of_lt h
    have h2 : (BitVec.ofInt 64 4294967295).toNat = 2 ^ 32 - 1 := by decide
    rw [h1, h2, Nat.and_two_pow_sub_one_eq_mod]
  rw [e]; exact wrap_u64 ⟨by omega, by omega⟩
theorem shr32 (x : Nat) : ((x / 4294967296 : Nat) : Int) = (x : Int).fdiv (2 ^ (min (32 : Int).toNat IntKind.u64.bits)) := by
  have : (2 : Int) ^ (min (32 : Int).toNat IntKind.u64.bits) = 4294967296 := by decide
  rw [this, Int.fdiv_eq_ediv_of_nonneg _ (by omega)]; omega
theorem mulhi (x0 x1 y0 y1 : Nat) (h0 : x0 < 4294967296) (h1 : x1 < 4294967296) (k0 : y0 < 4294967296) (k1 : y1 < 4294967296) :
    x0 * y0 < 18446744073709551616 ∧ x1 * y0 + x0 * y0 / 4294967296 < 18446744073709551616 ∧
    (x1 * y0 + x0 * y0 / 4294967296) % 4294967296 + x0 * y1 < 18446744073709551616 ∧
    x1 * y1 + (x1 * y0 + x0 * y0 / 4294967296) / 4294967296 + ((x1 * y0 + x0 * y0 / 4294967296) % 4294967296 + x0 * y1) / 4294967296 < 18446744073709551616 ∧
    x1 * y1 < 18446744073709551616 ∧ x0 * y1 < 18446744073709551616 ∧ x1 * y0 < 18446744073709551616 ∧
    (x1 * 4294967296 + x0) * (y1 * 4294967296 + y0) / 18446744073709551616 = x1 * y1 + (x1 * y0 + x0 * y0 / 4294967296) / 4294967296 + ((x1 * y0 + x0 * y0 / 4294967296) % 4294967296 + x0 * y1) / 4294967296 ∧
    (x1 * 4294967296 + x0) * (y1 * 4294967296 + y0) / 18446744073709551616 = x1 * y1 + x1 * y0 / 4294967296 + x0 * y1 / 4294967296 + (x0 * y0 / 4294967296 + x1 * y0 % 4294967296 + x0 * y1 % 4294967296) / 4294967296 := by
  have a1 : x0 * y0 ≤ 4294967295 * 4294967295 := Nat.mul_le_mul (by omega) (by omega)
  have a2 : x0 * y1 ≤ 4294967295 * 4294967295 := Nat.mul_le_mul (by omega) (by omega)
  have a3 : x1 * y0 ≤ 4294967295 * 4294967295 := Nat.mul_le_mul (by omega) (by omega)
  have a4 : x1 * y1 ≤ 4294967295 * 4294967295 := Nat.mul_le_mul (by omega) (by omega)
  have e : (x1 * 4294967296 + x0) * (y1 * 4294967296 + y0) = x1 * y1 * 18446744073709551616 + (x1 * y0 + x0 * y1) * 4294967296 + x0 * y0 := by grind
  rw [e]
  generalize x0 * y0 = p at *
  generalize x0 * y1 = q at *
  generalize x1 * y0 = r at *
  generalize x1 * y1 = s at *
  refine ⟨?_, ?_, ?_, ?_, ?_, ?_, ?_, ?_, ?_⟩ <;> omega

theorem split32 (x : Nat) : x = x / 4294967296 * 4294967296 + x % 4294967296 := by omega
theorem u64n {z : Nat} (h : z < 18446744073709551616) : (z : Int) = IntKind.u64.wrap (z : Nat) := wrap_u64 ⟨by omega, by omega⟩
theorem u64mul {a b : Nat} (h : a * b < 18446744073709551616) : ((a * b : Nat) : Int) = IntKind.u64.wrap ((a : Int) * (b : Int)) := by
  rw [← Int.natCast_mul]; exact u64n h
theorem u64add {a b : Nat} (h : a + b < 18446744073709551616) : ((a + b : Nat) : Int) = IntKind.u64.wrap ((a : Int) + (b : Int)) := by
  rw [← Int.natCast_add]; exact u64n h
theorem u64rem (a : Nat) : (4294967296 : Int) ≠ 0 ∧ ((a % 4294967296 : Nat) : Int) = (a : Int).tmod 4294967296 :=
  ⟨by omega, by rw [Int.tmod_eq_emod_of_nonneg (by omega)]; omega⟩

theorem mul64_spec (x y : Nat) (w : World) (hx : x < 18446744073709551616) (hy : y < 18446744073709551616) :
    Cal Tryd.prog 30 [.int .u64 (x : Int), .int .u64 (y : Int)] w fun r w' => ∃ lo, r = .tuple #[.int .u64 ((x * y / 18446744073709551616 : Nat) : Int), .int .u64 lo] ∧ w' = w := by
  obtain ⟨b1, b2, b3, b4, b5, b6, b7, b8, _⟩ := mulhi (x % 4294967296) (x / 4294967296) (y % 4294967296) (y / 4294967296) (by omega) (by omega) (by omega) (by omega)
  rw [← split32 x, ← split32 y] at b8
  refine fn_intro Tt_ok Tryd.func30 (by rfl) rfl _ rfl rfl (by rfl) ?_; (conv => whnf)
  refine ⟨_, mask32 x hx, ?_⟩; (conv => whnf)
  refine ⟨_, ⟨by decide, shr32 x⟩, ?_⟩; (conv => whnf)
  refine ⟨_, mask32 y hy, ?_⟩; (conv => whnf)
  refine ⟨_, ⟨by decide, shr32 y⟩, ?_⟩; (conv => whnf)
  refine ⟨_, u64mul b1, ?_⟩; (conv => whnf)
  refine ⟨_, u64mul b7, ?_⟩; (conv => whnf)
  refine ⟨_, ⟨by decide, shr32 _⟩, ?_⟩; (conv => whnf)
  refine ⟨_, u64add b2, ?_⟩; (conv => whnf)
  refine ⟨_, mask32 _ b2, ?_⟩; (conv => whnf)
  refine ⟨_, ⟨by decide, shr32 _⟩, ?_⟩; (conv => whnf)
  refine ⟨_, u64mul b6, ?_⟩; (conv => whnf)
  refine ⟨_, u64add b3, ?_⟩; (conv => whnf)
  refine ⟨_, u64mul b5, ?_⟩; (conv => whnf)
  refine ⟨_, u64add (by omega), ?_⟩; (conv => whnf)
  refine ⟨_, ⟨by decide, shr32 _⟩, ?_⟩; (conv => whnf)
  refine ⟨_, u64add b4, ?_⟩; (conv => whnf)
  refine ⟨_, rfl, ?_⟩; (conv => whnf)
  rw [b8]
  exact ⟨_, rfl, rfl⟩

theorem mul_div_lt (h n : Nat) (hh : h < 18446744073709551616) (hn : 0 < n) : h * n / 18446744073709551616 < n := by
  rw [Nat.div_lt_iff_lt_mul (by omega), Nat.mul_comm n]; exact Nat.mul_lt_mul_of_pos_right hh hn

def below (h : Nat) (n : Int) : Int := if n < 1 then 0 else ((h * n.toNat / 18446744073709551616 : Nat) : Int)
theorem below_bounds (h : Nat) (n : Int) (hh : h < 18446744073709551616) : 0 ≤ below h n ∧ (1 ≤ n → below h n < n) := by
  unfold below
  split
  · omega
  · have := mul_div_lt h n.toNat hh (by omega)
    omega
theorem below_spec (h : Nat) (n : Int) (w : World) (hh : h < 18446744073709551616) (hn : n < 9223372036854775808) :
    Cal Tryd.prog 18 [.int .u64 (h : Int), .int .i64 n] w fun r w' => r = .int .i64 (below h n) ∧ w' = w := by
  refine fn_intro Tt_ok Tryd.func18 (by rfl) rfl _ rfl rfl (by rfl) ?_; (conv => whnf)
  constructor
  · intro h1
    have h1 : n < 1 := by simpa using h1
    (conv => whnf)
    exact ⟨by unfold below; rw [if_pos h1], rfl⟩
  · intro h1
    have h1 : 1 ≤ n := by simpa using h1
    obtain ⟨m, rfl⟩ : ∃ m : Nat, n = m := ⟨n.toNat, by omega⟩
    (conv => whnf)
    refine ⟨_, u64n (by omega), ?_⟩; (conv => whnf)
    refine (mul64_spec h m w hh (by omega)).mono ?_
    rintro r w1 ⟨lo, rfl, rfl⟩
    (conv => whnf)
    have := mul_div_lt h m hh (by omega)
    refine ⟨_, wrap_i64 ⟨by omega, by omega⟩, ?_⟩; (conv => whnf)
    exact ⟨by unfold below; rw [if_neg (by omega)]; simp, rfl⟩

end Go.Proofs.YtbfjlpoeglcmfaaDoor
