
/- Stores into a row of the call's own. -/
import Derived.Test.YtbfjlpoeglcmfaaDoorLib3
set_option linter.unusedVariables false
set_option linter.unusedSimpArgs false
namespace Go.Proofs.YtbfjlpoeglcmfaaDoor
open Go.Se Go.RowKit

section
variable {α : Type} {enc : α → List Value} {sz : Nat} {te : TypeId} {base : Nat} {w w' : World} {A : Option Addr} {c : Nat} {l : List α}
theorem flat_take (hsz : ∀ x, (enc x).length = sz) : ∀ (l : List α) (k : Nat), (l.take k).flatMap enc = (l.flatMap enc).take (k * sz)
  | [], k => by simp
  | y :: l, 0 => by simp
  | y :: l, k + 1 => by
    rw [List.take_succ_cons, List.flatMap_cons, List.flatMap_cons, flat_take hsz l k, List.take_append, hsz, Nat.succ_mul]
    rw [List.take_of_length_le (l := enc y) (by rw [hsz]; omega), Nat.add_sub_cancel]
theorem flat_drop (hsz : ∀ x, (enc x).length = sz) : ∀ (l : List α) (k : Nat), (l.drop k).flatMap enc = (l.flatMap enc).drop (k * sz)
  | [], k => by simp
  | y :: l, 0 => by simp
  | y :: l, k + 1 => by
    rw [List.drop_succ_cons, List.flatMap_cons, flat_drop hsz l k, List.drop_append, hsz, Nat.succ_mul]
    rw [List.drop_eq_nil_of_le («as» := enc y) (by rw [hsz]; omega), List.nil_append, Nat.add_sub_cancel]
theorem flat_set (hsz : ∀ x, (enc x).length = sz) {k : Nat} (hk : k < l.length) (x : α) : (l.set k x).flatMap enc = spl (l.flatMap enc) (k * sz) (enc x) := by
  rw [List.set_eq_take_append_cons_drop, if_pos hk, List.flatMap_append, List.flatMap_cons, flat_take hsz, flat_drop hsz]
  unfold spl
  rw [hsz, Nat.succ_mul, List.append_assoc]

theorem store_own {P : Program} {T : Tab} (hT : TabOk P T) {t : TypeId} {e : TyE} (ht : tget T t = some e) (he : e.size = sz) (hsz : ∀ x, (enc x).length = sz) (hone : ∀ x, ∀ u ∈ enc x, u.oneCell' = true)
    {k : Nat} (hk : k < l.length) (x : α) {v : Value} (hv : cellsL v = enc x) {a : Addr} (hown : Own enc sz te base w (some a) c l) {R : Value → World → Prop}
    (h : ∀ w', Own enc sz te base w' (some a) c (l.set k x) → Only w w' a.block → R undef w') : RunU P (Instr.storeAt t (.pointer (some (a.add (k * sz)))) v) w R := by
  have hl := hown.1
  rcases hown.2 with ⟨hv', h0⟩ | ⟨g, cap, cur, hv', hb, hg, h1, h2, h3, h4⟩
  · omega
  · have hA : a = ⟨g, 0, none⟩ := by injection hv' with h _ _; injection h
    have hc : c = cap := by injection hv'
    subst hA hc
    rw [add_zero_addr]
    have hle : k * sz + sz ≤ l.length * sz := by
      have := Nat.mul_le_mul_right sz (show k + 1 ≤ l.length from hk)
      rw [Nat.succ_mul] at this; exact this
    have hle2 : l.length * sz ≤ c * sz := Nat.mul_le_mul_right sz h1
    have hat : At w g te cur.toList := by unfold At; rw [hg]
    refine store_at hT ht hat (by rw [hv, hsz, he]) (by rw [he]; simp; omega) (by rw [hv]; exact hone x) fun w1 hw1 hon => h w1 ?_ hon
    rw [hv] at hw1
    refine ⟨by rw [flat_len hsz], .inr ⟨g, c, _, by rw [List.length_set], hb, hw1, by rw [List.length_set]; exact h1, h2, ?_, ?_⟩⟩
    · unfold spl
      simp [hsz]
      omega
    · rw [flat_set hsz hk, ← h4, List.length_set]
      unfold spl
      simp only [hsz, List.toList_toArray]
      rw [List.take_append, List.take_append, List.drop_take, List.take_take, List.take_take]
      rw [List.length_append, List.length_take, hsz]
      have e1 : min (k * sz) cur.toList.length = k * sz := by simp; omega
      rw [e1, Nat.min_eq_right (by omega), Nat.min_eq_left (by omega), List.take_of_length_le (l := enc x) (by rw [hsz]; omega)]
end
end Go.Proofs.YtbfjlpoeglcmfaaDoor
