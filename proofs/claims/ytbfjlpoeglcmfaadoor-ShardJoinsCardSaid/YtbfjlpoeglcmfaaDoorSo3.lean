
/- Sorting events by insertion. -/
import Derived.Test.YtbfjlpoeglcmfaaDoorSo2
set_option linter.unusedVariables false
set_option linter.unusedSimpArgs false
namespace Go.Proofs.YtbfjlpoeglcmfaaDoor
open Go.Se Go.RowKit

abbrev cmpV : Value := .func (.func 25) #[] #[]
theorem srt_insert {α : Type} {lt : α → α → Bool} (O : Swo lt) {z1 z2 : List α} {v : α} (hs : Srt lt (z1 ++ z2)) (h2 : ∀ u ∈ z2, lt v u = true) (h1 : ∀ u, z1.getLast? = some u → lt v u = false) : Srt lt (z1 ++ v :: z2) := by
  refine Srt.append hs.left (List.pairwise_cons.2 ⟨fun u hu => O.asymm _ _ (h2 u hu), hs.right⟩) fun u hu t ht => ?_
  rcases List.mem_cons.1 ht with rfl | ht
  · rcases List.eq_nil_or_concat z1 with rfl | ⟨z, l, hz⟩
    · simp at hu
    · have hz' : z1 = z ++ [l] := by simpa using hz
      subst hz'
      have hl := h1 l (by simp)
      rcases List.mem_append.1 hu with hu | hu
      · exact O.trans u l t (hs.left.across u hu l (by simp)) hl
      · simp at hu; subst hu; exact hl
  · exact hs.across u hu t ht

theorem insertion_spec (p x s : List Ev) (a b : Nat) (A : Option Addr) (c base : Nat) (w : World) (ha : p.length = a) (hb : p.length + x.length = b) (L : Nat) (hL : p.length + x.length + s.length = L) (hLs : L < 1000000000000)
    (hown : Own evC 8 34 base w A c (p ++ x ++ s)) :
    Cal Tryd.prog 54 [.slice A L c, .int .i64 a, .int .i64 b, cmpV] w fun r w' => r = .tuple #[] ∧ ∃ z, z.Perm x ∧ Srt lessB z ∧ Own evC 8 34 base w' A c (p ++ z ++ s) ∧ Mod (Blk A) w w' := by
  refine fn_intro Tt_ok Tryd.func54 (by rfl) rfl _ rfl rfl (by rfl) ?_; (conv => whnf)
  refine ⟨((a + 1 : Nat) : Int), wrap_succ (by omega), ?_⟩; (conv => whnf)
  refine loop_rule Tt_ok (fun (i : Nat × List Ev) w' => (i.1 = a + i.2.length ∨ x = [] ∧ i.2 = [] ∧ i.1 = a + 1) ∧ i.2.length ≤ x.length ∧ i.2.Perm (x.take i.2.length) ∧ Srt lessB i.2 ∧ Own evC 8 34 base w' A c (p ++ i.2 ++ (x.drop i.2.length ++ s)) ∧ Mod (Blk A) w w')
    (fun | (i, _) => [(0, .slice A L c), (1, .int .i64 a), (2, .int .i64 b), (3, cmpV), (8, .int .i64 i)]) (fun i => x.length - i.2.length) (a + 1, x.take 1) ?_ ⟨rfl, rfl, rfl, rfl, rfl, trivial⟩ ?_
  · cases x with
    | nil => exact ⟨.inr ⟨rfl, rfl, rfl⟩, by simp, by simp, Srt.nil, by simpa using hown, Mod.refl _ _⟩
    | cons y x => exact ⟨.inl (by simp), by simp, by simp, by simp [Srt], by simpa using hown, Mod.refl _ _⟩
  rintro ⟨i, z⟩ w1 ⟨hi, hzl, hzp, hzs, hown1, hm1⟩
  simp only at hi hzl hzp hown1
  (conv => whnf)
  constructor
  · intro hlt
    have hlt : i < b := by simpa using hlt
    have hi : i = a + z.length := by
      rcases hi with h | ⟨h, h2, h3⟩
      · exact h
      · subst h; simp at hb; omega
    have hzx : z.length < x.length := by omega
    have hdr : x.drop z.length = x[z.length] :: x.drop (z.length + 1) := List.drop_eq_getElem_cons hzx
    have htk : x.take (z.length + 1) = x.take z.length ++ [x[z.length]] := List.take_succ_eq_append_getElem hzx
    rw [hdr] at hown1
    generalize x[z.length] = v at hown1 hdr htk
    (conv => whnf)
    refine loop_rule Tt_ok (fun (q : List Ev × List Ev) w' => z = q.1 ++ q.2 ∧ (∀ u ∈ q.2, lessB v u = true) ∧ Own evC 8 34 base w' A c (p ++ q.1 ++ v :: (q.2 ++ (x.drop (z.length + 1) ++ s))) ∧ Mod (Blk A) w w')
      (fun | (z1, _) => [(0, .slice A L c), (1, .int .i64 a), (2, .int .i64 b), (3, cmpV), (8, .int .i64 i), (9, .int .i64 ((a + z1.length : Nat) : Int))]) (fun q => q.1.length) (z, []) ⟨by simp, by simp, by simpa using hown1, hm1⟩ ⟨rfl, rfl, rfl, rfl, rfl, int_eq (by omega), trivial⟩ ?_
    rintro ⟨z1, z2⟩ w2 ⟨hz, hz2, hown2, hm2⟩
    simp only at hz hown2
    have hzlen : z.length = z1.length + z2.length := by rw [hz]; simp
    (conv => whnf)
    refine draw_rule .same [0, 1, 2, 3, 4, 5, 6, 7, 8, 9, 10, 11, 12, 13] [14, 15, 16] Tt_ok mixed (by kernel_rfl) (by first | (intro h; cases h; done) | (intro _; rfl)) ?_; (conv => whnf)
    replace hown2 : Own evC 8 34 base w2.drew A c _ := hown2
    replace hm2 : Mod (Blk A) w w2.drew := hm2.trans (Mod.drew _)
    generalize w2.drew = w3 at hown2 hm2 ⊢
    have hg1 : (p ++ z1 ++ v :: (z2 ++ (x.drop (z.length + 1) ++ s)))[a + z1.length]? = some v := by
      rw [List.getElem?_append_right (by simp; omega)]; simp [ha]
    obtain ⟨a0, hA, hc1⟩ := own_at hown2 hg1
    subst hA
    have hd : ∀ {m n : Nat}, decide ((m : Int) < (n : Int)) = true → m < n := fun h => by simpa using h
    obtain ⟨u, hu⟩ : ∃ u, z1 ≠ [] → ∃ zz, z1 = zz ++ [u] := by
      rcases List.eq_nil_or_concat z1 with h | ⟨zz, l, h⟩
      · exact ⟨v, fun hh => absurd h hh⟩
      · exact ⟨l, fun _ => ⟨zz, by simpa using h⟩⟩
    have hc0 : z1 ≠ [] → CellsAt w3 (a0.add ((a + z1.length - 1) * 8)) (evC u) := fun hne => by
      obtain ⟨zz, hzz⟩ := hu hne
      have : (p ++ z1 ++ v :: (z2 ++ (x.drop (z.length + 1) ++ s)))[a + z1.length - 1]? = some u := by
        rw [hzz, show a + (zz ++ [u]).length - 1 = (p ++ zz).length by simp; omega, show p ++ (zz ++ [u]) ++ v :: (z2 ++ (x.drop (z.length + 1) ++ s)) = (p ++ zz) ++ u :: (v :: (z2 ++ (x.drop (z.length + 1) ++ s))) by simp]
        simp
      obtain ⟨a1, h1, h2⟩ := own_at hown2 this
      obtain rfl : a0 = a1 := by injection h1
      exact h2
    have hne : ∀ {m : Nat}, a < a + z1.length → z1 ≠ [] := fun h e => by rw [e] at h; simp at h
    refine ⟨a0, fun hg => ⟨rfl, by omega, by omega⟩, ?_⟩; (conv => whnf)
    refine ⟨evC v, fun hg => ⟨rfl, hc1⟩, ?_⟩; (conv => whnf)
    refine ⟨((a + z1.length - 1 : Nat) : Int), fun hg => wrap_eq (by have := hd hg; omega) ⟨by omega, by omega⟩, ?_⟩; (conv => whnf)
    refine ⟨a0, fun hg => ⟨rfl, by omega, by omega⟩, ?_⟩; (conv => whnf)
    refine ⟨evC u, fun hg => ⟨rfl, hc0 (hne (m := 0) (hd hg))⟩, ?_⟩; (conv => whnf)
    refine ⟨Unit, fun _ => .int .i64 (cmpE v u), fun _ w' => Ext w3 w', (), fun hg => (compare_spec v u w3).mono (fun r w' h => ⟨(), h.1, h.2⟩), fun _ w4 h4 => ?_⟩
    have hx4 : Ext w3 w4 := by
      rcases h4 with ⟨_, h⟩ | ⟨_, h⟩
      · exact h
      · rw [h]; exact Ext.refl _
    clear h4
    have hown4 := hown2.ext hx4
    have hm4 : Mod (Blk (some a0)) w w4 := hm2.trans (Mod.of_ext hx4)
    (conv => whnf)
    constructor
    · intro hcnd
      have hcnd : (decide ((a : Int) < ((a + z1.length : Nat) : Int)) && decide (cmpE v u < 0)) = true := hcnd
      rw [Bool.and_eq_true, cmpE_neg] at hcnd
      obtain ⟨zz, rfl⟩ := hu (hne (m := 0) (hd hcnd.1))
      have hvu := hcnd.2
      have e0 : p ++ (zz ++ [u]) ++ v :: (z2 ++ (x.drop (z.length + 1) ++ s)) = (p ++ zz) ++ u :: ([] ++ v :: (z2 ++ (x.drop (z.length + 1) ++ s))) := by simp
      rw [e0] at hown4
      have g1 := swap_set' (p ++ zz) [] (z2 ++ (x.drop (z.length + 1) ++ s)) u v
      have hdl : ((p ++ zz) ++ u :: ([] ++ v :: (z2 ++ (x.drop (z.length + 1) ++ s)))).length = L := by simp at hzlen ⊢; omega
      have hi1 : (p ++ zz).length = a + zz.length := by simp; omega
      have f1 := swap_fst (p ++ zz) [] (z2 ++ (x.drop (z.length + 1) ++ s)) u v
      have f2 := swap_snd (p ++ zz) [] (z2 ++ (x.drop (z.length + 1) ++ s)) u v
      rw [hi1] at g1 f1 f2
      simp only [List.length_nil, Nat.add_zero] at g1 f2
      have hlz : (zz ++ [u]).length = zz.length + 1 := by simp
      generalize hdd : (p ++ zz) ++ u :: ([] ++ v :: (z2 ++ (x.drop (z.length + 1) ++ s))) = d at hown4 g1 hdl f1 f2
      obtain ⟨_, hA1, hcu⟩ := own_at hown4 f1
      obtain rfl : a0 = _ := by injection hA1
      obtain ⟨_, hA2, hcv⟩ := own_at hown4 f2
      obtain rfl : a0 = _ := by injection hA2
      (conv => whnf)
      refine draw_held (.mods (Blk (some a0))) [(0, true), (1, true), (2, false), (3, false), (4, false), (5, true), (6, true), (7, true), (8, true), (9, true), (10, true), (11, true), (12, true), (13, true), (14, true)] [15, 16] [17] [15, 17] Tt_ok mixed (by kernel_rfl) (by first | (intro h; cases h; done) | (intro _; rfl)) ?_; (conv => whnf)
      refine ⟨((a + zz.length : Nat) : Int), wrap_eq (by rw [hlz]; omega) ⟨by omega, by omega⟩, ?_⟩; (conv => whnf)
      refine ⟨((a + zz.length : Nat) : Int), wrap_eq (by rw [hlz]; omega) ⟨by omega, by omega⟩, ?_⟩; (conv => whnf)
      refine ⟨a0, ⟨rfl, by omega, by omega⟩, ?_⟩; (conv => whnf)
      refine ⟨evC u, ⟨rfl, hcu⟩, ?_⟩; (conv => whnf)
      refine ⟨a0, ⟨rfl, by omega, by omega⟩, ?_⟩; (conv => whnf)
      refine ⟨evC v, ⟨rfl, by rw [hlz]; exact hcv⟩, ?_⟩; (conv => whnf)
      refine ⟨a0, ⟨rfl, by omega, by omega⟩, ?_⟩; (conv => whnf)
      refine own_set (w := w4.drew) (k := a + (zz ++ [u]).length) u (by rw [hdl, hlz]; simp at hzlen; omega) hown4 fun w5 hown5 ho5 => ?_
      refine ⟨ho5.blk, ?_⟩; (conv => whnf)
      refine ⟨a0, ⟨rfl, by omega, by omega⟩, ?_⟩; (conv => whnf)
      refine own_set (k := a + zz.length) v (by rw [List.length_set, hdl]; simp at hzlen; omega) hown5 fun w6 hown6 ho6 => ?_
      rw [hlz, ← Nat.add_assoc, g1] at hown6
      (conv => whnf)
      refine ⟨((a + zz.length : Nat) : Int), wrap_eq (by rw [hlz]; omega) ⟨by omega, by omega⟩, ?_⟩; (conv => whnf)
      refine ⟨(zz, u :: z2), by simp, ⟨by rw [hz]; simp, ?_, by simpa using hown6, hm4.trans ((Mod.drew _).trans (ho5.blk.trans ho6.blk))⟩, ⟨rfl, rfl, rfl, rfl, rfl, rfl, trivial⟩⟩
      intro y hy
      rcases List.mem_cons.1 hy with rfl | hy
      · exact hvu
      · exact hz2 y hy
    · intro hcnd
      have hcnd : (decide ((a : Int) < ((a + z1.length : Nat) : Int)) && decide (cmpE v u < 0)) = false := hcnd
      rw [cmpE_neg] at hcnd
      (conv => whnf)
      refine ⟨((i + 1 : Nat) : Int), wrap_succ (by omega), ?_⟩; (conv => whnf)
      have hll : (z1 ++ v :: z2).length = z.length + 1 := by simp; omega
      refine ⟨(i + 1, z1 ++ v :: z2), by simp only [hll]; omega, ⟨.inl (by simp only [hll]; omega), by simp only [hll]; omega, ?_, ?_, ?_, hm4⟩, ⟨rfl, rfl, rfl, rfl, rfl, trivial⟩⟩
      · simp only [hll]
        rw [htk]
        refine List.Perm.trans ?_ (hzp.append_right [v])
        rw [hz]
        exact List.perm_middle.trans (by rw [List.append_assoc]; exact (List.perm_append_comm (l₁ := [v])).trans (by simp))
      · refine srt_insert less_swo (by rw [← hz]; exact hzs) hz2 fun t ht => ?_
        have hne1 : z1 ≠ [] := fun e => by rw [e] at ht; simp at ht
        obtain ⟨zz, hzz⟩ := hu hne1
        rw [hzz] at ht
        obtain rfl : u = t := by simpa using ht
        have hpos := List.length_pos_iff.2 hne1
        have : decide ((a : Int) < ((a + z1.length : Nat) : Int)) = true := by simp; omega
        rw [this, Bool.true_and] at hcnd
        exact hcnd
      · simp only [hll]
        simpa using hown4
  · intro hge
    have hge : b ≤ i := by simpa using hge
    (conv => whnf)
    have hzx : z.length = x.length := by
      rcases hi with h | ⟨h, h2, h3⟩
      · omega
      · rw [h, h2]
    refine ⟨rfl, z, ?_, hzs, ?_, hm1⟩
    · rw [hzx, List.take_length] at hzp; exact hzp
    · rw [hzx, List.drop_length] at hown1; simpa using hown1
end Go.Proofs.YtbfjlpoeglcmfaaDoor
