
/- Sorting events: two sorted stretches made one. -/
import Derived.Test.YtbfjlpoeglcmfaaDoorSo3
set_option linter.unusedVariables false
set_option linter.unusedSimpArgs false
namespace Go.Proofs.YtbfjlpoeglcmfaaDoor
open Go.Se Go.RowKit

theorem half_eq (n : Nat) : (0 : Int) ≤ 1 ∧ ((n / 2 : Nat) : Int) = Int.fdiv (n : Int) (2 ^ (min (1 : Int).toNat IntKind.u64.bits)) := by
  refine ⟨by decide, ?_⟩
  have : (2 : Int) ^ (min (1 : Int).toNat IntKind.u64.bits) = 2 := by decide
  rw [this, Int.fdiv_eq_ediv_of_nonneg _ (by decide)]
  omega
theorem wrap_u {n : Nat} (h : n ≤ 9223372036854775807) : (n : Int) = IntKind.u64.wrap (n : Int) := wrap_u64 ⟨by omega, by omega⟩
theorem wrap_s {n : Nat} (h : n ≤ 9223372036854775807) : (n : Int) = IntKind.i64.wrap (n : Int) := wrap_i64 ⟨by omega, by omega⟩
section
variable {α : Type} {lt : α → α → Bool}
theorem last_take {l : List α} {i : Nat} {u : α} (h0 : 0 < i) (h : l[i - 1]? = some u) : (l.take i).getLast? = some u := by
  have hlt : i - 1 < l.length := (List.getElem?_eq_some_iff.1 h).1
  obtain ⟨i, rfl⟩ : ∃ j, i = j + 1 := ⟨i - 1, by omega⟩
  have : l[i] = u := by simp at h hlt; rw [List.getElem?_eq_getElem hlt] at h; simpa using h
  rw [List.take_succ_eq_append_getElem (by omega)]
  simp [this]
theorem head_drop {l : List α} {i : Nat} {u : α} (h : l[i]? = some u) : (l.drop i).head? = some u := by
  rw [List.head?_drop]; exact h
/-- One is put in behind those that are less, ahead of the others. -/
theorem srt_into (O : Swo lt) {y : List α} {v : α} {i : Nat} (hi : i ≤ y.length) (hs : Srt lt y) (h1 : i = 0 ∨ ∃ u, y[i - 1]? = some u ∧ lt v u = false) (h2 : i = y.length ∨ ∃ u, y[i]? = some u ∧ lt u v = false) : Srt lt (y.take i ++ v :: y.drop i) := by
  have hs' : Srt lt (y.take i ++ y.drop i) := by rw [List.take_append_drop]; exact hs
  have k1 := le_ends (x := y.take i) (y := [v]) O hs'.left (Srt.one v) (fun a b ha hb => by
    obtain rfl : v = b := by simpa using hb
    rcases h1 with rfl | ⟨u, hu, hl⟩
    · simp at ha
    · by_cases hi0 : i = 0
      · subst hi0; simp at ha
      · rw [last_take (by omega) hu] at ha
        obtain rfl : u = a := by simpa using ha
        exact hl)
  have k2 := le_ends (x := [v]) (y := y.drop i) O (Srt.one v) hs'.right (fun a b ha hb => by
    obtain rfl : v = a := by simpa using ha
    rcases h2 with rfl | ⟨u, hu, hl⟩
    · simp at hb
    · rw [head_drop hu] at hb
      obtain rfl : u = b := by simpa using hb
      exact hl)
  refine hs'.left.append (List.pairwise_cons.2 ⟨fun t ht => k2 v (by simp) t ht, hs'.right⟩) fun t ht u hu => ?_
  rcases List.mem_cons.1 hu with rfl | hu
  · exact k1 t ht u (by simp)
  · exact hs'.across t ht u hu
end
theorem srt_last_le {y : List Ev} {i : Nat} {u v : Ev} (h : y[i]? = some u) (hl : lessB u v = true) : y[i]? = some u ∧ lessB v u = false := ⟨h, less_swo.asymm _ _ hl⟩

set_option maxHeartbeats 4000000 in
theorem symMerge_spec : ∀ (N : Nat) (p x y s : List Ev) (a m b : Nat) (A : Option Addr) (c base : Nat) (w : World) (hN : x.length + y.length ≤ N) (hx0 : 0 < x.length) (hy0 : 0 < y.length) (hsx : Srt lessB x) (hsy : Srt lessB y) (ha : p.length = a) (hm : p.length + x.length = m) (hb : p.length + x.length + y.length = b) (L : Nat) (hL : p.length + x.length + y.length + s.length = L) (hLs : L < 1000000000000)
    (hown : Own evC 8 34 base w A c (p ++ x ++ y ++ s)),
    Cal Tryd.prog 55 [.slice A L c, .int .i64 a, .int .i64 m, .int .i64 b, cmpV] w fun r w' => r = .tuple #[] ∧ ∃ z, z.Perm (x ++ y) ∧ Srt lessB z ∧ Own evC 8 34 base w' A c (p ++ z ++ s) ∧ Mod (Blk A) w w' := by
  intro N
  induction N with
  | zero => intro p x y s a m b A c base w hN hx0; omega
  | succ N ih =>
    intro p x y s a m b A c base w hN hx0 hy0 hsx hsy ha hm hb L hL hLs hown
    have hd : ∀ {m n : Nat}, decide ((m : Int) < (n : Int)) = true → m < n := fun h => by simpa using h
    have hd' : ∀ {m n : Nat}, decide ((m : Int) < (n : Int)) = false → n ≤ m := fun h => by simpa using h
    refine fn_intro Tt_ok Tryd.func55 (by rfl) rfl _ rfl rfl (by rfl) ?_; (conv => whnf)
    refine ⟨((m - a : Nat) : Int), wrap_sub (by omega) (by omega), ?_⟩; (conv => whnf)
    constructor
    · intro h1
      have h1 : x.length = 1 := by simp at h1; omega
      obtain ⟨v, rfl⟩ := List.length_eq_one_iff.1 h1
      have hv1 : [v].length = 1 := rfl
      have hvat : (p ++ [v] ++ y ++ s)[a]? = some v := by rw [← ha]; simp
      obtain ⟨a0, hA, hcv⟩ := own_at hown hvat
      subst hA
      (conv => whnf)
      refine loop_rule Tt_ok (fun (q : Nat × Nat) w' => q.1 ≤ q.2 ∧ q.2 ≤ y.length ∧ (q.1 = 0 ∨ ∃ u, y[q.1 - 1]? = some u ∧ lessB v u = false) ∧ (q.2 = y.length ∨ ∃ u, y[q.2]? = some u ∧ lessB u v = false) ∧ Ext w w')
        (fun | (i, j) => [(0, .slice (some a0) L c), (1, .int .i64 a), (2, .int .i64 m), (3, .int .i64 b), (4, cmpV), (10, .int .i64 ((m + i : Nat) : Int)), (11, .int .i64 ((m + j : Nat) : Int))]) (fun q => q.2 - q.1) (0, y.length)
        ⟨by simp, by simp, .inl rfl, .inl rfl, Ext.refl _⟩ ⟨rfl, rfl, rfl, rfl, rfl, rfl, int_eq (by omega), trivial⟩ ?_
      rintro ⟨i, j⟩ w1 ⟨hij, hjy, hi, hj, hx1⟩
      simp only at hij hjy hi hj
      (conv => whnf)
      constructor
      · intro hlt
        have hlt : i < j := by have := hd hlt; omega
        obtain ⟨h, hh⟩ : ∃ h, h = (i + j) / 2 := ⟨_, rfl⟩
        have hhm : (m + i + (m + j)) / 2 = m + h := by omega
        have hhy : h < y.length := by omega
        have hhat : (p ++ [v] ++ y ++ s)[m + h]? = some y[h] := by
          rw [List.getElem?_append_left (by simp; omega), List.getElem?_append_right (by simp; omega)]
          rw [show m + h - (p ++ [v]).length = h by simp; omega]
          exact List.getElem?_eq_getElem hhy
        obtain ⟨_, hA1, hch⟩ := own_at hown hhat
        obtain rfl : a0 = _ := by injection hA1
        have hyh : y[h]? = some y[h] := List.getElem?_eq_getElem hhy
        generalize y[h] = u at hch hyh
        (conv => whnf)
        refine ⟨((m + i + (m + j) : Nat) : Int), wrap_nat (by omega), ?_⟩; (conv => whnf)
        refine ⟨((m + i + (m + j) : Nat) : Int), wrap_u (by omega), ?_⟩; (conv => whnf)
        refine ⟨((m + h : Nat) : Int), by rw [← hhm]; exact half_eq _, ?_⟩; (conv => whnf)
        refine ⟨((m + h : Nat) : Int), wrap_s (by omega), ?_⟩; (conv => whnf)
        refine draw_rule .same [0, 1, 2, 3, 4, 5, 6, 7, 8] [9, 10] Tt_ok mixed (by kernel_rfl) (by first | (intro h; cases h; done) | (intro _; rfl)) ?_; (conv => whnf)
        replace hx1 : Ext w w1.drew := hx1.drew
        generalize w1.drew = w2 at hx1 ⊢
        refine ⟨a0, ⟨rfl, by omega, by omega⟩, ?_⟩; (conv => whnf)
        refine ⟨evC u, ⟨rfl, hx1.cells hch⟩, ?_⟩; (conv => whnf)
        refine ⟨a0, ⟨rfl, by omega, by omega⟩, ?_⟩; (conv => whnf)
        refine ⟨evC v, ⟨rfl, hx1.cells hcv⟩, ?_⟩; (conv => whnf)
        refine (compare_spec u v w2).mono ?_
        rintro _ w3 ⟨rfl, hx3⟩
        (conv => whnf)
        constructor
        · intro hc
          have hc : lessB u v = true := by rw [← cmpE_neg]; exact hc
          (conv => whnf)
          refine ⟨((m + (h + 1) : Nat) : Int), wrap_eq (by omega) ⟨by omega, by omega⟩, ?_⟩; (conv => whnf)
          exact ⟨(h + 1, j), by simp only; omega, ⟨by simp only; omega, hjy, .inr ⟨u, srt_last_le (by simpa using hyh) hc⟩, hj, hx1.trans hx3⟩, ⟨rfl, rfl, rfl, rfl, rfl, rfl, rfl, trivial⟩⟩
        · intro hc
          have hc : lessB u v = false := by rw [← cmpE_neg]; exact hc
          (conv => whnf)
          exact ⟨(i, h), by simp only; omega, ⟨by simp only; omega, by simp only; omega, hi, .inr ⟨u, hyh, hc⟩, hx1.trans hx3⟩, ⟨rfl, rfl, rfl, rfl, rfl, rfl, rfl, trivial⟩⟩
      · intro hge
        have hge : j ≤ i := by have := hd' hge; omega
        obtain rfl : i = j := by omega
        have hsr := srt_into less_swo hjy hsy hi hj
        have hpr : (y.take i ++ v :: y.drop i).Perm ([v] ++ y) := by
          refine List.perm_middle.trans ?_
          rw [List.take_append_drop]; exact List.Perm.refl _
        have hown1 := hown.ext hx1
        have hlt1 : (y.take i).length = i := by simp; omega
        have hyd : y = y.take i ++ y.drop i := (List.take_append_drop i y).symm
        have hdl : (y.drop i).length = y.length - i := by simp
        generalize y.take i = y1 at hsr hpr hlt1 hyd
        generalize y.drop i = y2 at hsr hpr hyd hdl
        subst hyd
        have hly : (y1 ++ y2).length = y1.length + y2.length := List.length_append
        (conv => whnf)
        refine loop_rule Tt_ok (fun (k : Nat) w' => k ≤ i ∧ Own evC 8 34 base w' (some a0) c (p ++ y1.take k ++ v :: (y1.drop k ++ (y2 ++ s))) ∧ Mod (Blk (some a0)) w w')
          (fun k => [(0, .slice (some a0) L c), (1, .int .i64 a), (2, .int .i64 m), (3, .int .i64 b), (4, cmpV), (10, .int .i64 ((m + i : Nat) : Int)), (13, .int .i64 ((a + k : Nat) : Int))]) (fun k => i - k) 0
          ⟨by omega, by simpa using hown1, Mod.of_ext hx1⟩ ⟨rfl, rfl, rfl, rfl, rfl, rfl, rfl, trivial⟩ ?_
        rintro k w2 ⟨hk, hown2, hm2⟩
        (conv => whnf)
        refine ⟨((a + i : Nat) : Int), wrap_eq (by omega) ⟨by omega, by omega⟩, ?_⟩; (conv => whnf)
        constructor
        · intro hlt
          have hlt : k < i := by have := hd hlt; omega
          have hdk : y1.drop k = y1[k] :: y1.drop (k + 1) := List.drop_eq_getElem_cons (by omega)
          have htk : y1.take (k + 1) = y1.take k ++ [y1[k]] := List.take_succ_eq_append_getElem (by omega)
          generalize y1[k] = u at hdk htk
          have e0 : p ++ y1.take k ++ v :: (y1.drop k ++ (y2 ++ s)) = (p ++ y1.take k) ++ v :: ([] ++ u :: (y1.drop (k + 1) ++ (y2 ++ s))) := by rw [hdk]; simp
          rw [e0] at hown2
          have hi1 : (p ++ y1.take k).length = a + k := by simp; omega
          have g1 := swap_set (p ++ y1.take k) [] (y1.drop (k + 1) ++ (y2 ++ s)) v u
          have f1 := swap_fst (p ++ y1.take k) [] (y1.drop (k + 1) ++ (y2 ++ s)) v u
          have f2 := swap_snd (p ++ y1.take k) [] (y1.drop (k + 1) ++ (y2 ++ s)) v u
          rw [hi1] at g1 f1 f2
          simp only [List.length_nil, Nat.add_zero] at g1 f2
          have hdl : ((p ++ y1.take k) ++ v :: ([] ++ u :: (y1.drop (k + 1) ++ (y2 ++ s)))).length = L := by simp at hL ⊢; omega
          generalize (p ++ y1.take k) ++ v :: ([] ++ u :: (y1.drop (k + 1) ++ (y2 ++ s))) = d at hown2 g1 f1 f2 hdl
          obtain ⟨_, hA1, hcu⟩ := own_at hown2 f1
          obtain rfl : a0 = _ := by injection hA1
          obtain ⟨_, hA2, hcw⟩ := own_at hown2 f2
          obtain rfl : a0 = _ := by injection hA2
          have hkL : a + k + 1 < L := by rw [← hdl]; exact (List.getElem?_eq_some_iff.1 f2).1
          (conv => whnf)
          refine draw_held (.mods (Blk (some a0))) [(0, true), (1, true), (2, false), (3, false), (4, false), (5, true), (6, true), (7, true), (8, true), (9, true), (10, true), (11, true), (12, true), (13, true), (14, true)] [15, 16] [17] [15, 17] Tt_ok mixed (by kernel_rfl) (by first | (intro h; cases h; done) | (intro _; rfl)) ?_; (conv => whnf)
          refine ⟨((a + k + 1 : Nat) : Int), wrap_succ (by omega), ?_⟩; (conv => whnf)
          refine ⟨((a + k + 1 : Nat) : Int), wrap_succ (by omega), ?_⟩; (conv => whnf)
          refine ⟨a0, ⟨rfl, by omega, by omega⟩, ?_⟩; (conv => whnf)
          refine ⟨evC u, ⟨rfl, hcw⟩, ?_⟩; (conv => whnf)
          refine ⟨a0, ⟨rfl, by omega, by omega⟩, ?_⟩; (conv => whnf)
          refine ⟨evC v, ⟨rfl, hcu⟩, ?_⟩; (conv => whnf)
          refine ⟨a0, ⟨rfl, by omega, by omega⟩, ?_⟩; (conv => whnf)
          refine own_set (w := w2.drew) (k := a + k) u (by omega) hown2 fun w5 hown5 ho5 => ?_
          refine ⟨ho5.blk, ?_⟩; (conv => whnf)
          refine ⟨a0, ⟨rfl, by omega, by omega⟩, ?_⟩; (conv => whnf)
          refine own_set (k := a + k + 1) v (by rw [List.length_set, hdl]; omega) hown5 fun w6 hown6 ho6 => ?_
          rw [g1] at hown6
          (conv => whnf)
          refine ⟨((a + (k + 1) : Nat) : Int), wrap_eq (by omega) ⟨by omega, by omega⟩, ?_⟩; (conv => whnf)
          refine ⟨k + 1, by omega, ⟨by omega, by rw [htk]; simpa using hown6, hm2.trans ((Mod.drew _).trans (ho5.blk.trans ho6.blk))⟩, ⟨rfl, rfl, rfl, rfl, rfl, rfl, rfl, trivial⟩⟩
        · intro hge
          have hge : i ≤ k := by have := hd' hge; omega
          rw [List.take_of_length_le (l := y1) (by omega), List.drop_of_length_le (l := y1) (by omega)] at hown2
          (conv => whnf)
          exact ⟨rfl, _, hpr, hsr, by simpa using hown2, hm2⟩
    intro h1
    have hxl : 2 ≤ x.length := by simp at h1; omega
    clear h1
    (conv => whnf)
    refine ⟨((b - m : Nat) : Int), wrap_sub (by omega) (by omega), ?_⟩; (conv => whnf)
    constructor
    · intro h1
      have h1 : y.length = 1 := by simp at h1; omega
      obtain ⟨v, rfl⟩ := List.length_eq_one_iff.1 h1
      have hv1 : [v].length = 1 := rfl
      have hvat : (p ++ x ++ [v] ++ s)[m]? = some v := by
        rw [show p ++ x ++ [v] ++ s = (p ++ x) ++ v :: s by simp, show m = (p ++ x).length by simp; omega]; simp
      obtain ⟨a0, hA, hcv⟩ := own_at hown hvat
      subst hA
      (conv => whnf)
      refine loop_rule Tt_ok (fun (q : Nat × Nat) w' => q.1 ≤ q.2 ∧ q.2 ≤ x.length ∧ (q.1 = 0 ∨ ∃ u, x[q.1 - 1]? = some u ∧ lessB v u = false) ∧ (q.2 = x.length ∨ ∃ u, x[q.2]? = some u ∧ lessB u v = false) ∧ Ext w w')
        (fun | (i, j) => [(0, .slice (some a0) L c), (1, .int .i64 a), (2, .int .i64 m), (3, .int .i64 b), (4, cmpV), (14, .int .i64 ((a + i : Nat) : Int)), (15, .int .i64 ((a + j : Nat) : Int))]) (fun q => q.2 - q.1) (0, x.length)
        ⟨by simp, by simp, .inl rfl, .inl rfl, Ext.refl _⟩ ⟨rfl, rfl, rfl, rfl, rfl, rfl, int_eq (by omega), trivial⟩ ?_
      rintro ⟨i, j⟩ w1 ⟨hij, hjy, hi, hj, hx1⟩
      simp only at hij hjy hi hj
      (conv => whnf)
      constructor
      · intro hlt
        have hlt : i < j := by have := hd hlt; omega
        obtain ⟨h, hh⟩ : ∃ h, h = (i + j) / 2 := ⟨_, rfl⟩
        have hhm : (a + i + (a + j)) / 2 = a + h := by omega
        have hhy : h < x.length := by omega
        have hhat : (p ++ x ++ [v] ++ s)[a + h]? = some x[h] := by
          rw [List.append_assoc, List.append_assoc, List.getElem?_append_right (by omega), List.getElem?_append_left (by omega)]
          rw [show a + h - p.length = h by omega]
          exact List.getElem?_eq_getElem hhy
        obtain ⟨_, hA1, hch⟩ := own_at hown hhat
        obtain rfl : a0 = _ := by injection hA1
        have hyh : x[h]? = some x[h] := List.getElem?_eq_getElem hhy
        generalize x[h] = u at hch hyh
        (conv => whnf)
        refine ⟨((a + i + (a + j) : Nat) : Int), wrap_nat (by omega), ?_⟩; (conv => whnf)
        refine ⟨((a + i + (a + j) : Nat) : Int), wrap_u (by omega), ?_⟩; (conv => whnf)
        refine ⟨((a + h : Nat) : Int), by rw [← hhm]; exact half_eq _, ?_⟩; (conv => whnf)
        refine ⟨((a + h : Nat) : Int), wrap_s (by omega), ?_⟩; (conv => whnf)
        refine draw_rule .same [0, 1, 2, 3, 4, 5, 6, 7, 8] [9, 10, 11] Tt_ok mixed (by kernel_rfl) (by first | (intro h; cases h; done) | (intro _; rfl)) ?_; (conv => whnf)
        replace hx1 : Ext w w1.drew := hx1.drew
        generalize w1.drew = w2 at hx1 ⊢
        refine ⟨a0, ⟨rfl, by omega, by omega⟩, ?_⟩; (conv => whnf)
        refine ⟨evC v, ⟨rfl, hx1.cells hcv⟩, ?_⟩; (conv => whnf)
        refine ⟨a0, ⟨rfl, by omega, by omega⟩, ?_⟩; (conv => whnf)
        refine ⟨evC u, ⟨rfl, hx1.cells hch⟩, ?_⟩; (conv => whnf)
        refine (compare_spec v u w2).mono ?_
        rintro _ w3 ⟨rfl, hx3⟩
        (conv => whnf)
        constructor
        · intro hc
          have hc : lessB v u = false := by rw [← cmpE_neg]; simpa using hc
          (conv => whnf)
          refine ⟨((a + (h + 1) : Nat) : Int), wrap_eq (by omega) ⟨by omega, by omega⟩, ?_⟩; (conv => whnf)
          exact ⟨(h + 1, j), by simp only; omega, ⟨by simp only; omega, hjy, .inr ⟨u, by simpa using hyh, hc⟩, hj, hx1.trans hx3⟩, ⟨rfl, rfl, rfl, rfl, rfl, rfl, rfl, trivial⟩⟩
        · intro hc
          have hc : lessB v u = true := by rw [← cmpE_neg]; simpa using hc
          (conv => whnf)
          exact ⟨(i, h), by simp only; omega, ⟨by simp only; omega, by simp only; omega, hi, .inr ⟨u, hyh, less_swo.asymm _ _ hc⟩, hx1.trans hx3⟩, ⟨rfl, rfl, rfl, rfl, rfl, rfl, rfl, trivial⟩⟩
      · intro hge
        have hge : j ≤ i := by have := hd' hge; omega
        obtain rfl : i = j := by omega
        have hsr := srt_into less_swo hjy hsx hi hj
        have hpr : (x.take i ++ v :: x.drop i).Perm (x ++ [v]) := by
          refine List.perm_middle.trans ?_
          rw [List.take_append_drop]; exact (List.perm_append_comm (l₁ := [v])).trans (List.Perm.refl _)
        have hown1 := hown.ext hx1
        have hlt1 : (x.take i).length = i := by simp; omega
        have hyd : x = x.take i ++ x.drop i := (List.take_append_drop i x).symm
        have hdl : (x.drop i).length = x.length - i := by simp
        generalize x.take i = x1 at hsr hpr hlt1 hyd
        generalize x.drop i = x2 at hsr hpr hyd hdl
        subst hyd
        have hlx : (x1 ++ x2).length = x1.length + x2.length := List.length_append
        (conv => whnf)
        refine loop_rule Tt_ok (fun (k : Nat) w' => k ≤ x2.length ∧ Own evC 8 34 base w' (some a0) c (p ++ x1 ++ x2.take k ++ v :: (x2.drop k ++ s)) ∧ Mod (Blk (some a0)) w w')
          (fun k => [(0, .slice (some a0) L c), (1, .int .i64 a), (2, .int .i64 m), (3, .int .i64 b), (4, cmpV), (14, .int .i64 ((a + i : Nat) : Int)), (17, .int .i64 ((a + i + k : Nat) : Int))]) (fun k => k) x2.length
          ⟨by omega, by simpa using hown1, Mod.of_ext hx1⟩ ⟨rfl, rfl, rfl, rfl, rfl, rfl, int_eq (by omega), trivial⟩ ?_
        rintro k w2 ⟨hk, hown2, hm2⟩
        (conv => whnf)
        constructor
        · intro hlt
          have hlt : 0 < k := by have := hd hlt; omega
          obtain ⟨k, rfl⟩ : ∃ j, k = j + 1 := ⟨k - 1, by omega⟩
          have hdk : x2.drop k = x2[k] :: x2.drop (k + 1) := List.drop_eq_getElem_cons (by omega)
          have htk : x2.take (k + 1) = x2.take k ++ [x2[k]] := List.take_succ_eq_append_getElem (by omega)
          generalize x2[k] = u at hdk htk
          have e0 : p ++ x1 ++ x2.take (k + 1) ++ v :: (x2.drop (k + 1) ++ s) = (p ++ x1 ++ x2.take k) ++ u :: ([] ++ v :: (x2.drop (k + 1) ++ s)) := by rw [htk]; simp
          rw [e0] at hown2
          have hi1 : (p ++ x1 ++ x2.take k).length = a + i + k := by simp; omega
          have g1 := swap_set' (p ++ x1 ++ x2.take k) [] (x2.drop (k + 1) ++ s) u v
          have f1 := swap_fst (p ++ x1 ++ x2.take k) [] (x2.drop (k + 1) ++ s) u v
          have f2 := swap_snd (p ++ x1 ++ x2.take k) [] (x2.drop (k + 1) ++ s) u v
          rw [hi1] at g1 f1 f2
          simp only [List.length_nil, Nat.add_zero] at g1 f2
          have hdl : ((p ++ x1 ++ x2.take k) ++ u :: ([] ++ v :: (x2.drop (k + 1) ++ s))).length = L := by simp at hL ⊢; omega
          generalize (p ++ x1 ++ x2.take k) ++ u :: ([] ++ v :: (x2.drop (k + 1) ++ s)) = d at hown2 g1 f1 f2 hdl
          obtain ⟨_, hA1, hcu⟩ := own_at hown2 f1
          obtain rfl : a0 = _ := by injection hA1
          obtain ⟨_, hA2, hcw⟩ := own_at hown2 f2
          obtain rfl : a0 = _ := by injection hA2
          have hkL : a + i + k + 1 < L := by rw [← hdl]; exact (List.getElem?_eq_some_iff.1 f2).1
          (conv => whnf)
          refine draw_held (.mods (Blk (some a0))) [(0, true), (1, true), (2, false), (3, false), (4, false), (5, true), (6, true), (7, true), (8, true), (9, true), (10, true), (11, true), (12, true), (13, true), (14, true)] [15, 16] [17] [15, 17] Tt_ok mixed (by kernel_rfl) (by first | (intro h; cases h; done) | (intro _; rfl)) ?_; (conv => whnf)
          refine ⟨((a + i + k : Nat) : Int), wrap_eq (by omega) ⟨by omega, by omega⟩, ?_⟩; (conv => whnf)
          refine ⟨((a + i + k : Nat) : Int), wrap_eq (by omega) ⟨by omega, by omega⟩, ?_⟩; (conv => whnf)
          refine ⟨a0, ⟨rfl, by omega, by omega⟩, ?_⟩; (conv => whnf)
          refine ⟨evC u, ⟨rfl, hcu⟩, ?_⟩; (conv => whnf)
          refine ⟨a0, ⟨rfl, by omega, by omega⟩, ?_⟩; (conv => whnf)
          refine ⟨evC v, ⟨rfl, hcw⟩, ?_⟩; (conv => whnf)
          refine ⟨a0, ⟨rfl, by omega, by omega⟩, ?_⟩; (conv => whnf)
          refine own_set (w := w2.drew) (k := a + i + k + 1) u (by omega) hown2 fun w5 hown5 ho5 => ?_
          refine ⟨ho5.blk, ?_⟩; (conv => whnf)
          refine ⟨a0, ⟨rfl, by omega, by omega⟩, ?_⟩; (conv => whnf)
          refine own_set (k := a + i + k) v (by rw [List.length_set, hdl]; omega) hown5 fun w6 hown6 ho6 => ?_
          rw [g1] at hown6
          (conv => whnf)
          refine ⟨((a + i + k : Nat) : Int), wrap_eq (by omega) ⟨by omega, by omega⟩, ?_⟩; (conv => whnf)
          refine ⟨k, by omega, ⟨by omega, by rw [hdk]; simpa using hown6, hm2.trans ((Mod.drew _).trans (ho5.blk.trans ho6.blk))⟩, ⟨rfl, rfl, rfl, rfl, rfl, rfl, rfl, trivial⟩⟩
        · intro hge
          have hge : k = 0 := by have := hd' hge; omega
          subst hge
          (conv => whnf)
          exact ⟨rfl, _, hpr, hsr, by simpa using hown2, hm2⟩
    intro h1
    have hyl : 2 ≤ y.length := by simp at h1; omega
    clear h1
    obtain ⟨mid, hmid⟩ : ∃ mid, mid = (a + b) / 2 := ⟨_, rfl⟩
    have hne : p ++ x ++ y ++ s ≠ [] := fun e => by
      have h0 : (p ++ x ++ y ++ s).length = 0 := by rw [e]; rfl
      simp only [List.length_append] at h0
      omega
    obtain ⟨a0, hA⟩ : ∃ a0, A = some a0 := by
      obtain ⟨e, he⟩ : ∃ e, (p ++ x ++ y ++ s)[0]? = some e := ⟨_, List.getElem?_eq_getElem (List.length_pos_iff.2 hne)⟩
      obtain ⟨a0, h, _⟩ := own_at hown he
      exact ⟨a0, h⟩
    subst hA
    (conv => whnf)
    refine ⟨((a + b : Nat) : Int), wrap_nat (by omega), ?_⟩; (conv => whnf)
    refine ⟨((a + b : Nat) : Int), wrap_u (by omega), ?_⟩; (conv => whnf)
    refine ⟨(mid : Int), by rw [hmid]; exact half_eq _, ?_⟩; (conv => whnf)
    refine ⟨(mid : Int), wrap_s (by omega), ?_⟩; (conv => whnf)
    refine ⟨((mid + m : Nat) : Int), wrap_nat (by omega), ?_⟩; (conv => whnf)
    refine seq_cut Tt_ok (ι := Nat × Nat) (fun | (s0, r0) => [(0, .slice (some a0) L c), (1, .int .i64 a), (2, .int .i64 m), (3, .int .i64 b), (4, cmpV), (18, .int .i64 mid), (19, .int .i64 ((mid + m : Nat) : Int)), (20, .int .i64 s0), (21, .int .i64 r0)])
      (fun q w' => w' = w ∧ ((mid < m ∧ q.1 + b = mid + m ∧ q.2 = mid) ∨ (m ≤ mid ∧ q.1 = a ∧ q.2 = m))) ?_ ?_
    · constructor
      · intro hgt
        have hgt := hd hgt
        (conv => whnf)
        refine ⟨((mid + m - b : Nat) : Int), wrap_sub (by omega) (by omega), ?_⟩; (conv => whnf)
        exact ⟨(mid + m - b, mid), ⟨rfl, .inl ⟨hgt, by simp only; omega, rfl⟩⟩, ⟨rfl, rfl, rfl, rfl, rfl, rfl, rfl, rfl, rfl, trivial⟩⟩
      · intro hle
        have hle := hd' hle
        (conv => whnf)
        exact ⟨(a, m), ⟨rfl, .inr ⟨hle, rfl, rfl⟩⟩, ⟨rfl, rfl, rfl, rfl, rfl, rfl, rfl, rfl, rfl, trivial⟩⟩
    rintro ⟨s0, r0⟩ w1 ⟨rfl, hsr⟩
    simp only at hsr
    have hb1 : a ≤ s0 ∧ s0 ≤ r0 ∧ r0 ≤ m ∧ m + r0 ≤ mid + m ∧ mid + m ≤ b + s0 ∧ a < mid ∧ mid < b := by omega
    (conv => whnf)
    refine ⟨((mid + m - 1 : Nat) : Int), wrap_eq (by omega) ⟨by omega, by omega⟩, ?_⟩; (conv => whnf)
    have hxat : ∀ i, a ≤ i → i < m → ∃ u, x[i - a]? = some u ∧ CellsAt w1 (a0.add (i * 8)) (evC u) := by
      intro i h1 h2
      have hlt : i - a < x.length := by omega
      have : (p ++ x ++ y ++ s)[i]? = some x[i - a] := by
        rw [List.append_assoc, List.append_assoc, List.getElem?_append_right (by omega), List.getElem?_append_left (by omega)]
        rw [show i - p.length = i - a by omega]
        exact List.getElem?_eq_getElem hlt
      obtain ⟨a1, h3, h4⟩ := own_at hown this
      obtain rfl : a0 = a1 := by injection h3
      exact ⟨_, List.getElem?_eq_getElem hlt, h4⟩
    have hyat : ∀ i, m ≤ i → i < b → ∃ u, y[i - m]? = some u ∧ CellsAt w1 (a0.add (i * 8)) (evC u) := by
      intro i h1 h2
      have hlt : i - m < y.length := by omega
      have : (p ++ x ++ y ++ s)[i]? = some y[i - m] := by
        rw [List.append_assoc, List.getElem?_append_right (by simp; omega), List.getElem?_append_left (by simp; omega)]
        rw [show i - (p ++ x).length = i - m by simp; omega]
        exact List.getElem?_eq_getElem hlt
      obtain ⟨a1, h3, h4⟩ := own_at hown this
      obtain rfl : a0 = a1 := by injection h3
      exact ⟨_, List.getElem?_eq_getElem hlt, h4⟩
    refine loop_rule Tt_ok (fun (q : Nat × Nat) w' => s0 ≤ q.1 ∧ q.1 ≤ q.2 ∧ q.2 ≤ r0 ∧ (q.1 = s0 ∨ ∃ u v, x[q.1 - 1 - a]? = some u ∧ y[mid + m - q.1 - m]? = some v ∧ lessB v u = false) ∧ (q.2 = r0 ∨ ∃ u v, x[q.2 - a]? = some u ∧ y[mid + m - 1 - q.2 - m]? = some v ∧ lessB v u = true) ∧ Ext w1 w')
      (fun | (st, r) => [(0, .slice (some a0) L c), (1, .int .i64 a), (2, .int .i64 m), (3, .int .i64 b), (4, cmpV), (18, .int .i64 mid), (19, .int .i64 ((mid + m : Nat) : Int)), (22, .int .i64 ((mid + m - 1 : Nat) : Int)), (20, .int .i64 st), (21, .int .i64 r)]) (fun q => q.2 - q.1) (s0, r0)
      ⟨Nat.le_refl _, by simp only; omega, Nat.le_refl _, .inl rfl, .inl rfl, Ext.refl _⟩ ⟨rfl, rfl, rfl, rfl, rfl, rfl, rfl, rfl, rfl, rfl, trivial⟩ ?_
    rintro ⟨st, r⟩ w2 ⟨hs1, hs2, hs3, hs4, hs5, hx2⟩
    simp only at hs1 hs2 hs3 hs4 hs5
    (conv => whnf)
    constructor
    · intro hlt
      have hlt : st < r := hd hlt
      obtain ⟨h, hh⟩ : ∃ h, h = (st + r) / 2 := ⟨_, rfl⟩
      obtain ⟨u, hu, hcu⟩ := hxat h (by omega) (by omega)
      obtain ⟨v, hv, hcv⟩ := hyat (mid + m - 1 - h) (by omega) (by omega)
      (conv => whnf)
      refine ⟨((st + r : Nat) : Int), wrap_nat (by omega), ?_⟩; (conv => whnf)
      refine ⟨((st + r : Nat) : Int), wrap_u (by omega), ?_⟩; (conv => whnf)
      refine ⟨(h : Int), by rw [hh]; exact half_eq _, ?_⟩; (conv => whnf)
      refine ⟨(h : Int), wrap_s (by omega), ?_⟩; (conv => whnf)
      refine draw_rule .same [0, 1, 2, 3, 4, 5, 6, 7, 8, 9, 10] [11, 12, 13] Tt_ok mixed (by kernel_rfl) (by first | (intro h; cases h; done) | (intro _; rfl)) ?_; (conv => whnf)
      replace hx2 : Ext w1 w2.drew := hx2.drew
      generalize w2.drew = w3 at hx2 ⊢
      refine ⟨((mid + m - 1 - h : Nat) : Int), wrap_sub (by omega) (by omega), ?_⟩; (conv => whnf)
      refine ⟨a0, ⟨rfl, by omega, by omega⟩, ?_⟩; (conv => whnf)
      refine ⟨evC v, ⟨rfl, hx2.cells hcv⟩, ?_⟩; (conv => whnf)
      refine ⟨a0, ⟨rfl, by omega, by omega⟩, ?_⟩; (conv => whnf)
      refine ⟨evC u, ⟨rfl, hx2.cells hcu⟩, ?_⟩; (conv => whnf)
      refine (compare_spec v u w3).mono ?_
      rintro _ w4 ⟨rfl, hx4⟩
      (conv => whnf)
      constructor
      · intro hc
        have hc : lessB v u = false := by rw [← cmpE_neg]; simpa using hc
        (conv => whnf)
        refine ⟨((h + 1 : Nat) : Int), wrap_succ (by omega), ?_⟩; (conv => whnf)
        refine ⟨(h + 1, r), by simp only; omega, ⟨by simp only; omega, by simp only; omega, hs3, .inr ⟨u, v, by simpa using hu, ?_, hc⟩, hs5, hx2.trans hx4⟩, ⟨rfl, rfl, rfl, rfl, rfl, rfl, rfl, rfl, rfl, rfl, trivial⟩⟩
        rw [← hv]; congr 1; simp only; omega
      · intro hc
        have hc : lessB v u = true := by rw [← cmpE_neg]; simpa using hc
        (conv => whnf)
        exact ⟨(st, h), by simp only; omega, ⟨hs1, by simp only; omega, by simp only; omega, hs4, .inr ⟨u, v, hu, hv, hc⟩, hx2.trans hx4⟩, ⟨rfl, rfl, rfl, rfl, rfl, rfl, rfl, rfl, rfl, rfl, trivial⟩⟩
    · intro hge
      have hge : r ≤ st := hd' hge
      obtain rfl : st = r := by omega
      obtain ⟨en, hen⟩ : ∃ en, en = mid + m - st := ⟨_, rfl⟩
      have hown2 := hown.ext hx2
      have hm2 : Mod (Blk (some a0)) w1 w2 := Mod.of_ext hx2
      -- the four parts
      have hxd : x = x.take (st - a) ++ x.drop (st - a) := (List.take_append_drop _ _).symm
      have hyd : y = y.take (en - m) ++ y.drop (en - m) := (List.take_append_drop _ _).symm
      have hq1 : ∀ u v, (x.take (st - a)).getLast? = some u → (y.drop (en - m)).head? = some v → lessB v u = false := by
        intro u v h1 h2
        rcases hs4 with h | ⟨u', v', hu, hv, hl⟩
        · rcases hsr with ⟨e1, e2, e3⟩ | ⟨e1, e2, e3⟩
          · rw [List.drop_of_length_le (by omega)] at h2; simp at h2
          · rw [show st - a = 0 by omega] at h1; simp at h1
        · by_cases h0 : st - a = 0
          · rw [h0] at h1; simp at h1
          · rw [last_take (by omega) (by rw [← hu]; congr 1; omega)] at h1
            rw [head_drop (by rw [← hv]; congr 1; omega)] at h2
            obtain rfl : u' = u := by simpa using h1
            obtain rfl : v' = v := by simpa using h2
            exact hl
      have hq2 : ∀ u v, (y.take (en - m)).getLast? = some u → (x.drop (st - a)).head? = some v → lessB v u = false := by
        intro u v h1 h2
        rcases hs5 with h | ⟨u', v', hu, hv, hl⟩
        · rcases hsr with ⟨e1, e2, e3⟩ | ⟨e1, e2, e3⟩
          · rw [show en - m = 0 by omega] at h1; simp at h1
          · rw [List.drop_of_length_le (by omega)] at h2; simp at h2
        · by_cases h0 : en - m = 0
          · rw [h0] at h1; simp at h1
          · rw [last_take (by omega) (by rw [← hv]; congr 1; omega)] at h1
            rw [head_drop hu] at h2
            obtain rfl : v' = u := by simpa using h1
            obtain rfl : u' = v := by simpa using h2
            exact less_swo.asymm _ _ hl
      have l1 : (x.take (st - a)).length = st - a := by simp; omega
      have l2 : (x.drop (st - a)).length = m - st := by simp; omega
      have l3 : (y.take (en - m)).length = mid - st := by simp; omega
      have l4 : (y.drop (en - m)).length = b - en := by simp; omega
      generalize x.take (st - a) = x1 at hxd hq1 l1
      generalize x.drop (st - a) = x2 at hxd hq2 l2
      generalize y.take (en - m) = y1 at hyd hq2 l3
      generalize y.drop (en - m) = y2 at hyd hq1 l4
      clear hs4 hs5 hxat hyat hsr
      subst hxd hyd
      have hlx : (x1 ++ x2).length = x1.length + x2.length := List.length_append
      have hly : (y1 ++ y2).length = y1.length + y2.length := List.length_append
      (conv => whnf)
      refine ⟨(en : Int), wrap_eq (by omega) ⟨by omega, by omega⟩, ?_⟩; (conv => whnf)
      refine seq_cut Tt_ok (ι := Unit) (fun _ => [(0, .slice (some a0) L c), (1, .int .i64 a), (2, .int .i64 m), (3, .int .i64 b), (4, cmpV), (18, .int .i64 mid), (20, .int .i64 st), (24, .int .i64 en)])
        (fun _ w' => Own evC 8 34 base w' (some a0) c (p ++ x1 ++ y1 ++ x2 ++ y2 ++ s) ∧ Mod (Blk (some a0)) w1 w') ?_ ?_
      · constructor
        · intro hc
          have hc : (decide ((st : Int) < (m : Int)) && decide ((m : Int) < (en : Int))) = true := hc
          rw [Bool.and_eq_true] at hc
          have c1 := hd hc.1
          have c2 := hd hc.2
          (conv => whnf)
          refine (rotate_spec (p ++ x1) x2 y1 (y2 ++ s) st m en cmpV (some a0) c base w2 (List.length_pos_iff.1 (by omega)) (List.length_pos_iff.1 (by omega)) (by simp; omega) (by simp; omega) (by simp; omega) L (by simp; omega) hLs (by simpa using hown2)).mono ?_
          rintro _ w3 ⟨rfl, hown3, hm3⟩; (conv => whnf)
          exact ⟨(), ⟨by simpa using hown3, hm2.trans hm3⟩, ⟨rfl, rfl, rfl, rfl, rfl, rfl, rfl, rfl, trivial⟩⟩
        · intro hc
          have hc : (decide ((st : Int) < (m : Int)) && decide ((m : Int) < (en : Int))) = false := hc
          (conv => whnf)
          refine ⟨(), ⟨?_, hm2⟩, ⟨rfl, rfl, rfl, rfl, rfl, rfl, rfl, rfl, trivial⟩⟩
          have : x2 = [] ∨ y1 = [] := by
            rw [← List.length_eq_zero_iff, ← List.length_eq_zero_iff]
            rw [Bool.and_eq_false_iff] at hc
            rcases hc with h | h
            · have := hd' h; omega
            · have := hd' h; omega
          rcases this with h | h <;> (subst h; simpa using hown2)
      rintro _ w3 ⟨hown3, hm3⟩
      (conv => whnf)
      have hsx1 := hsx.left
      have hsx2 := hsx.right
      have hsy1 := hsy.left
      have hsy2 := hsy.right
      refine seq_cut Tt_ok (ι := List Ev) (fun _ => [(0, .slice (some a0) L c), (1, .int .i64 a), (2, .int .i64 m), (3, .int .i64 b), (4, cmpV), (18, .int .i64 mid), (20, .int .i64 st), (24, .int .i64 en)])
        (fun z w' => z.Perm (x1 ++ y1) ∧ Srt lessB z ∧ Own evC 8 34 base w' (some a0) c (p ++ z ++ x2 ++ y2 ++ s) ∧ Mod (Blk (some a0)) w1 w') ?_ ?_
      · constructor
        · intro hc
          have hc : (decide ((a : Int) < (st : Int)) && decide ((st : Int) < (mid : Int))) = true := hc
          rw [Bool.and_eq_true] at hc
          have c1 := hd hc.1
          have c2 := hd hc.2
          (conv => whnf)
          refine (ih p x1 y1 (x2 ++ y2 ++ s) a st mid (some a0) c base w3 (by omega) (by omega) (by omega) hsx1 hsy1 ha (by omega) (by omega) L (by simp; omega) hLs (by simpa using hown3)).mono ?_
          rintro _ w4 ⟨rfl, z, hz1, hz2, hown4, hm4⟩; (conv => whnf)
          exact ⟨z, ⟨hz1, hz2, by simpa using hown4, hm3.trans hm4⟩, ⟨rfl, rfl, rfl, rfl, rfl, rfl, rfl, rfl, trivial⟩⟩
        · intro hc
          have hc : (decide ((a : Int) < (st : Int)) && decide ((st : Int) < (mid : Int))) = false := hc
          (conv => whnf)
          refine ⟨x1 ++ y1, ⟨List.Perm.refl _, ?_, by simpa using hown3, hm3⟩, ⟨rfl, rfl, rfl, rfl, rfl, rfl, rfl, rfl, trivial⟩⟩
          have : x1 = [] ∨ y1 = [] := by
            rw [← List.length_eq_zero_iff, ← List.length_eq_zero_iff]
            rw [Bool.and_eq_false_iff] at hc
            rcases hc with h | h
            · have := hd' h; omega
            · have := hd' h; omega
          rcases this with h | h
          · subst h; simpa using hsy1
          · subst h; simpa using hsx1
      rintro z1 w4 ⟨hp1, hs1', hown4, hm4⟩
      have hz1 := hp1.length_eq
      simp only [List.length_append] at hz1
      (conv => whnf)
      constructor
      · intro hc
        have hc : (decide ((mid : Int) < (en : Int)) && decide ((en : Int) < (b : Int))) = true := hc
        rw [Bool.and_eq_true] at hc
        have c1 := hd hc.1
        have c2 := hd hc.2
        (conv => whnf)
        refine (ih (p ++ z1) x2 y2 s mid en b (some a0) c base w4 (by omega) (by omega) (by omega) hsx2 hsy2 (by simp; omega) (by simp; omega) (by simp; omega) L (by simp; omega) hLs (by simpa using hown4)).mono ?_
        rintro _ w5 ⟨rfl, z2, hp2, hs2', hown5, hm5⟩; (conv => whnf)
        obtain ⟨k1, k2⟩ := srt_merge less_swo hsx hsy hq1 hq2 hp1 hp2 hs1' hs2'
        exact ⟨rfl, z1 ++ z2, k2, k1, by simpa using hown5, hm4.trans hm5⟩
      · intro hc
        have hc : (decide ((mid : Int) < (en : Int)) && decide ((en : Int) < (b : Int))) = false := hc
        (conv => whnf)
        have : Srt lessB (x2 ++ y2) := by
          have : x2 = [] ∨ y2 = [] := by
            rw [← List.length_eq_zero_iff, ← List.length_eq_zero_iff]
            rw [Bool.and_eq_false_iff] at hc
            rcases hc with h | h
            · have := hd' h; omega
            · have := hd' h; omega
          rcases this with h | h
          · subst h; simpa using hsy2
          · subst h; simpa using hsx2
        obtain ⟨k1, k2⟩ := srt_merge less_swo hsx hsy hq1 hq2 hp1 (List.Perm.refl _) hs1' this
        exact ⟨rfl, z1 ++ (x2 ++ y2), k2, k1, by simpa using hown4, hm4⟩
end Go.Proofs.YtbfjlpoeglcmfaaDoor
