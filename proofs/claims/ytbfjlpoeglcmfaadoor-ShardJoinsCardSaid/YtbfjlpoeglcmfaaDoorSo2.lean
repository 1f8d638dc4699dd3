
/- Sorting events: exchanges, rotations, insertion. -/
import Derived.Test.YtbfjlpoeglcmfaaDoorSo1
set_option linter.unusedVariables false
set_option linter.unusedSimpArgs false
namespace Go.Proofs.YtbfjlpoeglcmfaaDoor
open Go.Se Go.RowKit

/-- The block of a slice. -/
def Blk (A : Option Addr) (k : Nat) : Prop := ∃ a, A = some a ∧ k = a.block
theorem Only.blk {w w' : World} {a : Addr} (h : Only w w' a.block) : Mod (Blk (some a)) w w' := h.mod.mono fun k _ e => ⟨a, rfl, e⟩
theorem ext_trans_mod {w w1 w2 : World} {S : Nat → Prop} (hx : Ext w w1) (hm : Mod S w1 w2) (h : ∀ k, S k → w.heap.size ≤ k) : Ext w w2 :=
  ⟨hm.os.trans hx.os, hm.tape.trans hx.tape, hm.output.trans hx.output, Nat.le_trans hx.size hm.size, fun i hi => (hm.block i (Nat.lt_of_lt_of_le hi hx.size) (fun hs => by have := h i hs; omega)).trans (hx.block i hi)⟩
section
variable {α : Type}
theorem swap_fst (P r s : List α) (u v : α) : (P ++ u :: (r ++ v :: s))[P.length]? = some u := by simp
theorem swap_snd (P r s : List α) (u v : α) : (P ++ u :: (r ++ v :: s))[P.length + 1 + r.length]? = some v := by
  rw [List.getElem?_append_right (by omega), show P.length + 1 + r.length - P.length = r.length + 1 by omega]
  simp
theorem swap_set (P r s : List α) (u v : α) : ((P ++ u :: (r ++ v :: s)).set P.length v).set (P.length + 1 + r.length) u = P ++ v :: (r ++ u :: s) := by
  rw [List.set_append_right _ _ (by omega), Nat.sub_self, List.set_cons_zero, List.set_append_right _ _ (by omega), show P.length + 1 + r.length - P.length = r.length + 1 by omega, List.set_cons_succ, List.set_append_right _ _ (by omega), Nat.sub_self, List.set_cons_zero]
theorem swap_set' (P r s : List α) (u v : α) : ((P ++ u :: (r ++ v :: s)).set (P.length + 1 + r.length) u).set P.length v = P ++ v :: (r ++ u :: s) := by
  rw [List.set_comm _ _ (by omega), swap_set]
theorem take_drop_at {x : List α} {k : Nat} (h : k < x.length) : x = x.take k ++ x[k] :: x.drop (k + 1) := by
  rw [← List.drop_eq_getElem_cons h, List.take_append_drop]
end
theorem own_at {w : World} {A : Option Addr} {c base : Nat} {d : List Ev} {k : Nat} {x : Ev} (h : Own evC 8 34 base w A c d) (hk : d[k]? = some x) : ∃ a, A = some a ∧ CellsAt w (a.add (k * 8)) (evC x) :=
  h.sl evC_len k x hk
theorem wrap_sub {m n : Nat} (h : n ≤ m) (hm : m < 9223372036854775807) : ((m - n : Nat) : Int) = IntKind.i64.wrap ((m : Int) - (n : Int)) := by
  rw [← wrap_i64 ⟨by omega, by omega⟩]; omega
theorem wrap_eq {z x : Int} (h : z = x) (hb : -9223372036854775808 ≤ x ∧ x ≤ 9223372036854775807) : z = IntKind.i64.wrap x := by rw [h]; exact wrap_i64 hb
theorem own_set {w : World} {a : Addr} {c base : Nat} {d : List Ev} {k : Nat} (x : Ev) (hk : k < d.length) (hown : Own evC 8 34 base w (some a) c d) {R : Value → World → Prop}
    (h : ∀ w', Own evC 8 34 base w' (some a) c (d.set k x) → Only w w' a.block → R undef w') : RunU Tryd.prog (Instr.storeAt 34 (.pointer (some (a.add (k * 8)))) (.agg (evC x).toArray)) w R :=
  store_own (enc := evC) (sz := 8) (T := Tt) Tt_ok (e := ty34) rfl rfl evC_len evC_one hk x rfl hown h

theorem swapRange_spec (p x q y s : List Ev) (n a b : Nat) (fv : Value) (A : Option Addr) (c base : Nat) (w : World) (hx : x.length = n) (hy : y.length = n) (ha : p.length = a) (hb : p.length + n + q.length = b) (L : Nat) (hL : (p ++ x ++ q ++ y ++ s).length = L) (hLs : L < 1000000000000)
    (hown : Own evC 8 34 base w A c (p ++ x ++ q ++ y ++ s)) :
    Cal Tryd.prog 71 [.slice A L c, .int .i64 a, .int .i64 b, .int .i64 n, fv] w fun r w' => r = .tuple #[] ∧ Own evC 8 34 base w' A c (p ++ y ++ q ++ x ++ s) ∧ Mod (Blk A) w w' := by
  refine fn_intro Tt_ok Tryd.func71 (by rfl) rfl _ rfl rfl (by rfl) ?_; (conv => whnf)
  refine loop_rule Tt_ok (fun (k : Nat) w' => k ≤ n ∧ Own evC 8 34 base w' A c (p ++ (y.take k ++ x.drop k) ++ q ++ (x.take k ++ y.drop k) ++ s) ∧ Mod (Blk A) w w')
    (fun k => [(0, .slice A L c), (1, .int .i64 a), (2, .int .i64 b), (3, .int .i64 n), (4, fv), (10, .int .i64 k)]) (fun k => n - k) 0 ⟨by omega, by simpa using hown, Mod.refl _ _⟩ ⟨rfl, rfl, rfl, rfl, rfl, rfl, trivial⟩ ?_
  rintro k w1 ⟨hk, hown1, hm⟩
  (conv => whnf)
  constructor
  · intro hlt
    have hlt : k < n := by simpa using hlt
    have e1 : p ++ (y.take k ++ x.drop k) ++ q ++ (x.take k ++ y.drop k) ++ s = (p ++ y.take k) ++ x[k] :: ((x.drop (k + 1) ++ q ++ x.take k) ++ y[k] :: (y.drop (k + 1) ++ s)) := by
      rw [List.drop_eq_getElem_cons (l := x) (by omega), List.drop_eq_getElem_cons (l := y) (by omega)]
      simp only [List.append_assoc, List.cons_append, List.nil_append]
    have e2 : p ++ (y.take (k + 1) ++ x.drop (k + 1)) ++ q ++ (x.take (k + 1) ++ y.drop (k + 1)) ++ s = (p ++ y.take k) ++ y[k] :: ((x.drop (k + 1) ++ q ++ x.take k) ++ x[k] :: (y.drop (k + 1) ++ s)) := by
      rw [List.take_succ_eq_append_getElem (l := x) (by omega), List.take_succ_eq_append_getElem (l := y) (by omega)]
      simp only [List.append_assoc, List.cons_append, List.nil_append]
    rw [e1] at hown1
    have hi : (p ++ y.take k).length = a + k := by simp; omega
    have hj : (p ++ y.take k).length + 1 + (x.drop (k + 1) ++ q ++ x.take k).length = b + k := by simp; omega
    have g1 := swap_fst (p ++ y.take k) (x.drop (k + 1) ++ q ++ x.take k) (y.drop (k + 1) ++ s) x[k] y[k]
    have g2 := swap_snd (p ++ y.take k) (x.drop (k + 1) ++ q ++ x.take k) (y.drop (k + 1) ++ s) x[k] y[k]
    have g3 := swap_set (p ++ y.take k) (x.drop (k + 1) ++ q ++ x.take k) (y.drop (k + 1) ++ s) x[k] y[k]
    rw [hi] at g1; rw [hj] at g2; rw [hj, hi, ← e2] at g3
    have hdl : ((p ++ y.take k) ++ x[k] :: ((x.drop (k + 1) ++ q ++ x.take k) ++ y[k] :: (y.drop (k + 1) ++ s))).length = L := by
      rw [← e1, ← hL]; simp; omega
    generalize (p ++ y.take k) ++ x[k] :: ((x.drop (k + 1) ++ q ++ x.take k) ++ y[k] :: (y.drop (k + 1) ++ s)) = d at hown1 g1 g2 g3 hdl
    have hal : a + k < L := by rw [← hdl]; exact (List.getElem?_eq_some_iff.1 g1).1
    have hbl : b + k < L := by rw [← hdl]; exact (List.getElem?_eq_some_iff.1 g2).1
    obtain ⟨a0, hA, hc2⟩ := own_at hown1 g2
    obtain ⟨_, _, hc1⟩ := own_at hown1 g1
    subst hA
    obtain rfl : a0 = _ := by injection ‹some a0 = some _›
    (conv => whnf)
    refine draw_held (.mods (Blk (some a0))) [(0, true), (1, true), (2, true), (3, true), (4, false), (5, false), (6, false), (7, false), (8, true), (9, true), (10, true), (11, true), (12, true), (13, true), (14, true), (15, true), (16, true), (17, true), (18, true), (19, true), (20, true)] [21, 22] [23] [21, 23] Tt_ok mixed (by kernel_rfl) (by first | (intro h; cases h; done) | (intro _; rfl)) ?_; (conv => whnf)
    refine ⟨((a + k : Nat) : Int), wrap_nat (by omega), ?_⟩; (conv => whnf)
    refine ⟨((b + k : Nat) : Int), wrap_nat (by omega), ?_⟩; (conv => whnf)
    refine ⟨((b + k : Nat) : Int), wrap_nat (by omega), ?_⟩; (conv => whnf)
    refine ⟨a0, ⟨rfl, by omega, by omega⟩, ?_⟩; (conv => whnf)
    refine ⟨evC y[k], ⟨rfl, hc2⟩, ?_⟩; (conv => whnf)
    refine ⟨((a + k : Nat) : Int), wrap_nat (by omega), ?_⟩; (conv => whnf)
    refine ⟨a0, ⟨rfl, by omega, by omega⟩, ?_⟩; (conv => whnf)
    refine ⟨evC x[k], ⟨rfl, hc1⟩, ?_⟩; (conv => whnf)
    refine ⟨a0, ⟨rfl, by omega, by omega⟩, ?_⟩; (conv => whnf)
    refine own_set (w := w1.drew) (k := a + k) y[k] (by omega) hown1 fun w2 hown2 ho2 => ?_
    refine ⟨ho2.blk, ?_⟩; (conv => whnf)
    refine ⟨a0, ⟨rfl, by omega, by omega⟩, ?_⟩; (conv => whnf)
    refine own_set (k := b + k) x[k] (by simp; omega) hown2 fun w3 hown3 ho3 => ?_
    rw [g3] at hown3
    (conv => whnf)
    refine ⟨((k + 1 : Nat) : Int), wrap_succ (by omega), ?_⟩; (conv => whnf)
    exact ⟨k + 1, by omega, ⟨by omega, hown3, (hm.trans (Mod.trans (b := w1.drew) ⟨rfl, rfl, rfl, Nat.le_refl _, fun _ _ _ => rfl⟩ (ho2.blk.trans ho3.blk)))⟩, ⟨rfl, rfl, rfl, rfl, rfl, rfl, trivial⟩⟩
  · intro hge
    have hge : n ≤ k := by simpa using hge
    have hkn : k = n := by omega
    subst hkn
    (conv => whnf)
    rw [List.take_of_length_le (l := y) (by omega), List.take_of_length_le (l := x) (by omega), List.drop_of_length_le (l := x) (by omega), List.drop_of_length_le (l := y) (by omega)] at hown1
    exact ⟨rfl, by simpa using hown1, hm⟩

theorem Mod.drew {S : Nat → Prop} (w : World) : Mod S w w.drew := ⟨rfl, rfl, rfl, Nat.le_refl _, fun _ _ _ => rfl⟩
theorem rotate_spec (p x y s : List Ev) (a m b : Nat) (fv : Value) (A : Option Addr) (c base : Nat) (w : World) (hx0 : x ≠ []) (hy0 : y ≠ []) (ha : p.length = a) (hm : p.length + x.length = m) (hb : p.length + x.length + y.length = b) (L : Nat) (hL : (p ++ x ++ y ++ s).length = L) (hLs : L < 1000000000000)
    (hown : Own evC 8 34 base w A c (p ++ x ++ y ++ s)) :
    Cal Tryd.prog 62 [.slice A L c, .int .i64 a, .int .i64 m, .int .i64 b, fv] w fun r w' => r = .tuple #[] ∧ Own evC 8 34 base w' A c (p ++ y ++ x ++ s) ∧ Mod (Blk A) w w' := by
  have hL' : p.length + x.length + y.length + s.length = L := by rw [← hL]; simp; omega
  refine fn_intro Tt_ok Tryd.func62 (by rfl) rfl _ rfl rfl (by rfl) ?_; (conv => whnf)
  refine ⟨((m - a : Nat) : Int), wrap_sub (by omega) (by omega), ?_⟩; (conv => whnf)
  refine ⟨((b - m : Nat) : Int), wrap_sub (by omega) (by omega), ?_⟩; (conv => whnf)
  refine loop_rule Tt_ok (fun (i : List Ev × List Ev × List Ev × List Ev) w' => i.1.length + i.2.1.length = m ∧ i.2.1 ≠ [] ∧ i.2.2.1 ≠ [] ∧ i.1.length + i.2.1.length + i.2.2.1.length + i.2.2.2.length = L ∧ i.1 ++ i.2.2.1 ++ i.2.1 ++ i.2.2.2 = p ++ y ++ x ++ s ∧ Own evC 8 34 base w' A c (i.1 ++ i.2.1 ++ i.2.2.1 ++ i.2.2.2) ∧ Mod (Blk A) w w')
    (fun i => [(0, .slice A L c), (2, .int .i64 m), (4, fv), (10, .int .i64 i.2.1.length), (11, .int .i64 i.2.2.1.length)]) (fun i => i.2.1.length + i.2.2.1.length) (p, x, y, s)
    ⟨hm, hx0, hy0, hL', rfl, hown, Mod.refl _ _⟩ ⟨rfl, rfl, rfl, int_eq (by simp only; omega), int_eq (by simp only; omega), trivial⟩ ?_
  rintro ⟨P, X, Y, S⟩ w1 ⟨h1, hX0, hY0, hl, hT, hown1, hm1⟩
  simp only at h1 hX0 hY0 hl hT hown1
  have hXp := List.length_pos_iff.2 hX0
  have hYp := List.length_pos_iff.2 hY0
  (conv => whnf)
  constructor
  · intro hne
    have hne : X.length ≠ Y.length := by simp at hne; omega
    (conv => whnf)
    constructor
    · intro hgt
      have hgt : Y.length < X.length := by simpa using hgt
      obtain ⟨X1, X2, rfl, hX1⟩ : ∃ X1 X2, X = X1 ++ X2 ∧ X1.length = Y.length := ⟨X.take Y.length, X.drop Y.length, by simp, by simp; omega⟩
      simp only [List.length_append] at *
      (conv => whnf)
      refine ⟨((m - (X1.length + X2.length) : Nat) : Int), wrap_eq (by omega) ⟨by omega, by omega⟩, ?_⟩; (conv => whnf)
      refine (swapRange_spec P X1 X2 Y S Y.length (m - (X1.length + X2.length)) m fv A c base w1 hX1 rfl (by omega) (by omega) L (by simp; omega) hLs (by simpa using hown1)).mono ?_
      rintro _ w2 ⟨rfl, hown2, hm2⟩; (conv => whnf)
      refine ⟨((X2.length : Nat) : Int), wrap_eq (by omega) ⟨by omega, by omega⟩, ?_⟩; (conv => whnf)
      refine ⟨(P ++ Y, X2, X1, S), by simp; omega, ⟨by simp; omega, ?_, ?_, by simp; omega, by simpa using hT, by simpa using hown2, hm1.trans hm2⟩, ⟨rfl, rfl, rfl, rfl, int_eq (by simp only; omega), trivial⟩⟩
      · rw [← List.length_pos_iff]; simp only; omega
      · rw [← List.length_pos_iff]; simp only; omega
    · intro hle
      have hle : X.length < Y.length := by simp at hle; omega
      obtain ⟨Y1, Y2, rfl, hY2⟩ : ∃ Y1 Y2, Y = Y1 ++ Y2 ∧ Y2.length = X.length := ⟨Y.take (Y.length - X.length), Y.drop (Y.length - X.length), by simp, by simp; omega⟩
      simp only [List.length_append] at *
      (conv => whnf)
      refine ⟨((m - X.length : Nat) : Int), wrap_sub (by omega) (by omega), ?_⟩; (conv => whnf)
      refine ⟨((m + (Y1.length + Y2.length) : Nat) : Int), wrap_eq (by omega) ⟨by omega, by omega⟩, ?_⟩; (conv => whnf)
      refine ⟨((m + (Y1.length + Y2.length) - X.length : Nat) : Int), wrap_sub (by omega) (by omega), ?_⟩; (conv => whnf)
      refine (swapRange_spec P X Y1 Y2 S X.length (m - X.length) (m + (Y1.length + Y2.length) - X.length) fv A c base w1 rfl hY2 (by omega) (by omega) L (by simp; omega) hLs (by simpa using hown1)).mono ?_
      rintro _ w2 ⟨rfl, hown2, hm2⟩; (conv => whnf)
      refine ⟨((Y1.length : Nat) : Int), wrap_eq (by omega) ⟨by omega, by omega⟩, ?_⟩; (conv => whnf)
      refine ⟨(P, Y2, Y1, X ++ S), by simp; omega, ⟨by simp; omega, ?_, ?_, by simp; omega, by simpa using hT, by simpa using hown2, hm1.trans hm2⟩, ⟨rfl, rfl, rfl, int_eq (by simp only; omega), rfl, trivial⟩⟩
      · rw [← List.length_pos_iff]; simp only; omega
      · rw [← List.length_pos_iff]; simp only; omega
  · intro heq
    have heq : X.length = Y.length := by simp at heq; omega
    (conv => whnf)
    refine ⟨((m - X.length : Nat) : Int), wrap_sub (by omega) (by omega), ?_⟩; (conv => whnf)
    refine (swapRange_spec P X [] Y S X.length (m - X.length) m fv A c base w1 rfl heq.symm (by omega) (by simp; omega) L (by simp; omega) hLs (by simpa using hown1)).mono ?_
    rintro _ w2 ⟨rfl, hown2, hm2⟩; (conv => whnf)
    refine ⟨rfl, ?_, hm1.trans hm2⟩
    rw [← hT]
    simpa using hown2
end Go.Proofs.YtbfjlpoeglcmfaaDoor
