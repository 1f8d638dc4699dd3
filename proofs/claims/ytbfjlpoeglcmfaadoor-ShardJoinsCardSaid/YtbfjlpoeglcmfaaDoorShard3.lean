
/- shard.Split. -/
import Derived.Test.YtbfjlpoeglcmfaaDoorShard2
import Derived.Laws.MakeOwn
set_option linter.unusedVariables false
set_option linter.unusedSimpArgs false
namespace Go.Proofs.YtbfjlpoeglcmfaaDoor
open Go.Se Go.RowKit

/-- 'make([]T, n)', T of one cell. -/
theorem make_one {P : Program} {t e : TypeId} {ety : TyE} (ht : P.underlying t = some (.slice e)) (he : tyOf P e = some ety) {bytes : Nat} (hby : (P.info? e).map (·.bytes) = some bytes) (hsz : ety.size = 1) {z : Value} (hz : cellsL ety.zero = [z]) {w : World} {R : Value → World → Prop} (n : Nat)
    (hn : n * bytes ≤ 140737488355328) (hn' : n < 9223372036854775808)
    (hk : ∀ b w1, New w w1 b (.cells (List.replicate n z).toArray e) → R (.slice (some ⟨b, 0, none⟩) n n) w1) : RunE P (Instr.makeSlice t (.int .i64 (n : Int)) (.int .i64 (n : Int))) w R := by
  obtain ⟨i, _, hi, _, hz1, _, hs1, _⟩ := ty_parts he
  have hby' : i.bytes = bytes := by rw [hi] at hby; simpa using hby
  have hzc : ety.zero.cells = #[z] := by apply Array.ext'; rw [cellsL_eq, hz]
  have hw : IntKind.i64.wrap (n : Int) = n := (wrap_i64 ⟨by omega, by omega⟩).symm
  have hcells : (Array.map (fun x => ety.zero.cells[x % ety.zero.cells.size]!) (Array.range n)) = (List.replicate n z).toArray := by
    apply Array.ext'
    rw [hzc]
    simp only [Array.toList_map, Array.toList_range]
    apply List.ext_getElem
    · simp
    · intro j h1 h2
      simp [Nat.mod_one]
  have hb : (i.bytes : Int) * (n : Int) ≤ 281474976710656 := by
    have : ((n * bytes : Nat) : Int) ≤ 140737488355328 := by omega
    rw [Int.natCast_mul, Int.mul_comm] at this
    rw [hby']; omega
  have hr := run_make (P := P) w t e i ety.zero ht hi hz1 .i64 .i64 n n (by omega) (by omega) hb (by omega)
  simp only [Int.toNat_natCast] at hr
  refine ⟨_, _, hr, hk w.heap.size _ ⟨?_, rfl⟩⟩
  rw [hs1, hsz, Nat.mul_one]
  unfold madeCells
  rw [hcells]

/-- n lists of events, in rows of their own, under one row. -/
structure PL (base : Nat) (w : World) (pb n : Nat) (A : Nat → Option Addr) (c : Nat → Nat) (f : Nat → List Ev) : Prop where
  at_ : At w pb 22 ((List.range n).map fun k => .slice (A k) (f k).length (c k))
  le : base ≤ pb
  own : ∀ k, k < n → Own evC 8 34 base w (A k) (c k) (f k)
  dis : ∀ i j, i < n → j < n → i ≠ j → ∀ a b, A i = some a → A j = some b → a.block ≠ b.block

def upd {α : Type} (f : Nat → α) (j : Nat) (v : α) : Nat → α := fun k => if k = j then v else f k

section
variable {base : Nat} {w w' : World} {pb n : Nat} {A : Nat → Option Addr} {c : Nat → Nat} {f : Nat → List Ev}
theorem PL.ne (h : PL base w pb n A c f) {k : Nat} (hk : k < n) {a : Addr} (ha : A k = some a) : a.block ≠ pb := by
  intro e
  rcases (h.own k hk).2 with ⟨hv, _⟩ | ⟨g, cap, cur, hv, _, hg, _⟩
  · rw [ha] at hv; cases hv
  · have hA : A k = some ⟨g, 0, none⟩ := by injection hv
    rw [ha] at hA
    injection hA with hA
    subst hA
    have h1 := h.at_
    unfold At at h1
    simp only at e
    rw [← e, hg] at h1
    injection h1 with h1
    injection h1 with _ h1 _
    exact absurd h1 (by decide)
theorem PL.ext (h : PL base w pb n A c f) (hx : Ext w w') : PL base w' pb n A c f := ⟨h.at_.ext hx, h.le, fun k hk => (h.own k hk).ext hx, h.dis⟩
theorem PL.cell (h : PL base w pb n A c f) {k : Nat} (hk : k < n) : w.cell? ((⟨pb, 0, none⟩ : Addr).add (k * 1)) = some (.slice (A k) (f k).length (c k)) := by
  rw [add_zero_addr, h.at_.cell]
  simp [hk]

theorem PL.app (h : PL base w pb n A c f) {j : Nat} (hj : j < n) {e : Ev} {A6 : Option Addr} {c6 : Nat} {w5 w6 w7 : World} (hx5 : Ext w w5)
    (hown : Own evC 8 34 base w6 A6 c6 (f j ++ [e])) (hg : w5.grownBy w6 ((A j).map (·.block))) (hA6 : A6 = A j ∨ A6.map (·.block) = (A j).map (·.block) ∨ A6.map (·.block) = some w5.heap.size)
    (hat : At w7 pb 22 (spl ((List.range n).map fun k => .slice (A k) (f k).length (c k)) j [.slice A6 (f j ++ [e]).length c6])) (hon : Only w6 w7 pb) :
    PL base w7 pb n (upd A j A6) (upd c j c6) (upd f j (f j ++ [e])) := by
  have h5 := h.ext hx5
  have hne6 : ∀ a, A6 = some a → a.block ≠ pb := by
    intro a ha
    rcases hA6 with e1 | e1 | e1
    · exact h.ne hj (by rw [← e1, ha])
    · rw [ha] at e1
      cases hAj : A j with
      | none => rw [hAj] at e1; simp at e1
      | some b =>
        rw [hAj] at e1
        simp at e1
        rw [e1]; exact h.ne hj hAj
    · rw [ha] at e1
      simp at e1
      have := h5.at_.lt
      omega
  refine ⟨?_, h.le, ?_, ?_⟩
  · refine Eq.mp (congrArg (At w7 pb _) ?_) hat
    unfold spl
    apply List.ext_getElem
    · simp; omega
    · intro k h1 h2
      have hk : k < n := by simpa using h2
      simp only [List.getElem_map, List.getElem_range, upd]
      by_cases e1 : k = j
      · subst e1
        simp only [if_true]
        rw [List.getElem_append_left (by simp; omega), List.getElem_append_right (by simp; omega)]
        simp
      · simp only [if_neg e1]
        by_cases e2 : k < j
        · rw [List.getElem_append_left (by simp; omega), List.getElem_append_left (by simp; omega)]
          simp
        · rw [List.getElem_append_right (by simp; omega)]
          simp only [List.getElem_drop, List.getElem_map, List.getElem_range]
          have : j + 1 + (k - (min j n + 1)) = k := by omega
          simp [this]
  · intro k hk
    unfold upd
    by_cases e1 : k = j
    · subst e1
      simp only [if_true]
      exact hown.keep fun a ha => hon.block _ (hne6 a ha)
    · simp only [if_neg e1]
      refine (h5.own k hk).keep fun a ha => ?_
      rw [hon.block _ (h.ne hk ha)]
      refine hg.block _ ((h5.own k hk).block ha).2 fun he => ?_
      cases hAj : A j with
      | none => rw [hAj] at he; simp at he
      | some b =>
        rw [hAj] at he
        simp at he
        exact h.dis k j hk hj e1 a b ha hAj he
  · intro x y hx hy hxy a b ha hb
    unfold upd at ha hb
    have key : ∀ k, k < n → k ≠ j → ∀ a b, A k = some a → A6 = some b → a.block ≠ b.block := by
      intro k hk hkj a b ha hb he
      rcases hA6 with e1 | e1 | e1
      · exact h.dis k j hk hj hkj a b ha (by rw [← e1, hb]) he
      · rw [hb] at e1
        cases hAj : A j with
        | none => rw [hAj] at e1; simp at e1
        | some d =>
          rw [hAj] at e1
          simp at e1
          exact h.dis k j hk hj hkj a d ha hAj (he.trans e1)
      · rw [hb] at e1
        simp at e1
        have := ((h5.own k hk).block ha).2
        omega
    by_cases e1 : x = j
    · subst e1
      simp only [if_true] at ha
      rw [if_neg (fun e => hxy e.symm)] at hb
      exact fun he => key y hy (fun e => hxy e.symm) b a hb ha he.symm
    · rw [if_neg e1] at ha
      by_cases e2 : y = j
      · rw [if_pos e2] at hb
        exact key x hx e1 a b ha hb
      · rw [if_neg e2] at hb
        exact h.dis x y hx hy hxy a b ha hb
end
end Go.Proofs.YtbfjlpoeglcmfaaDoor
