import Derived.Test.YtbfjlpoeglcmfaaGreatDoorHPr2

/- price.Least. -/
set_option linter.unusedVariables false
set_option linter.unusedSimpArgs false
namespace Go.Proofs.YtbfjlpoeglcmfaaGreatDoor
open Go.Se Go.RowKit

def leastOk (a b : Int) : Bool := tickB a && tickB b && decide (a ≤ b)
theorem less_take {o p : Option Int} : (lesser o p) = if (p.isSome && (!o.isSome || decide (p.getD 0 < o.getD 0))) = true then p else o := by
  cases p with
  | none => simp [lesser]
  | some n =>
    cases o with
    | none => simp [lesser]
    | some m => by_cases h : n < m <;> simp [lesser, h]
theorem pleast_spec {w : World} {base p : Nat} {c : Cfg} {z : List Ev} (hW : WV w base p c z) (item : ByteArray) (a b : Int) :
    Cal Tryz.prog 38 [.pointer (some ⟨p, 0, none⟩), .string item, .int .i64 a, .int .i64 b] w fun r w' => ∃ o, r = optV o ∧ (if leastOk a b then LeastIs (priceAt z item) a b o else o = none) ∧ Ext w w' := by
  refine fn_intro Tt_ok Tryz.func38 (by rfl) rfl _ rfl rfl (by rfl) ?_; (conv => whnf)
  refine (ptick_spec a w).mono ?_
  rintro _ w1 ⟨rfl, hx1⟩; (conv => whnf)
  refine ⟨Unit, fun _ => (.bool (tickB b)), fun _ w' => Ext w1 w', (), fun hg => ((ptick_spec b w1)).mono fun r w' h => ⟨(), h.1, h.2⟩, ?_⟩
  intro _ w2 h2
  have hx2 : Ext w1 w2 := by
    rcases h2 with ⟨_, h⟩ | ⟨_, h⟩
    · exact h
    · rw [h]; exact Ext.refl _
  clear h2
  (conv => whnf)
  have hx := hx1.trans hx2
  clear hx1 hx2
  constructor
  · intro hc
    have hc : leastOk a b = false := by
      unfold leastOk
      revert hc
      cases tickB a <;> cases tickB b <;> simp <;> intro h <;> omega
    (conv => whnf)
    exact ⟨none, rfl, by rw [hc]; simp, hx⟩
  · intro hc
    have hc : leastOk a b = true := by
      unfold leastOk
      revert hc
      cases tickB a <;> cases tickB b <;> simp <;> intro h <;> omega
    have hab : a ≤ b := by unfold leastOk at hc; simp at hc; exact hc.2
    have hok := hc
    (conv => whnf)
    refine (pas_spec (hW.ext hx) item a).mono ?_
    rintro _ w3 ⟨rfl, hx3⟩; (conv => whnf)
    replace hx := hx.trans hx3
    refine (wcatalog_spec (hW.ext hx)).mono ?_
    rintro _ w4 ⟨pc, S, rfl, hcat, hx4⟩; (conv => whnf)
    have hrl : (catRows (thingsE z) item).length < 1000000 := by
      have h1 := (catRows_bounds (thingsE z) (fun e he => hW.may e ((List.mem_filter.1 he).1)) item).1
      have h2 := List.length_filter_le thB z
      have h3 := hW.len
      unfold thingsE at *
      omega
    refine (changes_spec w4 S pc _ hcat item hrl).mono ?_
    rintro _ w5 ⟨A, cap, L, rfl, hmem, hLl, hs, hx5⟩
    replace hx := (hx.trans hx4).trans hx5
    clear hcat hx4 hx5 hx3
    have hres : LeastIs (priceAt z item) a b (leastO ((a :: L.filter fun t => decide (a < t ∧ t ≤ b)).map (priceAt z item))) := least_ticks hW.rise item hab (fun t ht => by have := (List.mem_filter.1 ht).2; simpa using this) (fun t ht h1 h2 => List.mem_filter.2 ⟨(hmem t).2 ht, by simp; omega⟩)
    generalize hf : priceAt z item = f at hres
    have hfa : leastO ([a].map f) = f a := by
      simp [leastO]; cases f a <;> rfl
    rw [← hfa]
    (conv => whnf)
    refine loop_rule Tt_ok (fun (k : Nat) w' => k ≤ L.length ∧ Ext w5 w')
      (fun k => [(0, .pointer (some ⟨p, 0, none⟩)), (1, .string item), (2, .int .i64 a), (3, .int .i64 b), (39, .slice A L.length cap), (40, .int .i64 L.length), (41, .int .i64 k),
        (10, .int .i64 ((leastO ((a :: (L.take k).filter fun t => decide (a < t ∧ t ≤ b)).map f)).getD 0)), (11, .bool ((leastO ((a :: (L.take k).filter fun t => decide (a < t ∧ t ≤ b)).map f)).isSome))]) (fun k => L.length - k) 0 ⟨by omega, Ext.refl _⟩ ⟨rfl, rfl, rfl, rfl, rfl, rfl, rfl, rfl, rfl, trivial⟩ ?_
    rintro k w6 ⟨hk, hx6⟩
    (conv => whnf)
    constructor
    · intro hc
      have hc : k < L.length := by simpa using hc
      obtain ⟨a2, rfl, hce⟩ := (hs.ext hx6).get hc
      have htk := take_next L k hc
      generalize L[k] = t at hce htk
      have hsn : leastO ((a :: (L.take (k + 1)).filter fun t => decide (a < t ∧ t ≤ b)).map f) = if a < t ∧ t ≤ b then lesser (leastO ((a :: (L.take k).filter fun t => decide (a < t ∧ t ≤ b)).map f)) (f t) else leastO ((a :: (L.take k).filter fun t => decide (a < t ∧ t ≤ b)).map f) := by
        rw [htk, List.filter_append]
        by_cases h : a < t ∧ t ≤ b
        · rw [if_pos h, ← leastO_snoc]
          simp [List.filter_cons, h]
        · rw [if_neg h]
          simp [List.filter_cons, h]
      obtain ⟨o1, ho1⟩ : ∃ o1, o1 = leastO ((a :: (L.take (k + 1)).filter fun t => decide (a < t ∧ t ≤ b)).map f) := ⟨_, rfl⟩
      rw [← ho1] at hsn
      generalize leastO ((a :: (L.take k).filter fun t => decide (a < t ∧ t ≤ b)).map f) = o at hsn ⊢
      (conv => whnf)
      repeat (refine seq_go Tt_ok ?_; (conv => whnf))
      refine ⟨a2, ⟨rfl, by omega, by omega⟩, ?_⟩; (conv => whnf)
      refine ⟨.int .i64 t, cells_head hce, ?_⟩; (conv => whnf)
      constructor
      · intro hq
        have hq : ¬ (a < t ∧ t ≤ b) := by
          simp at hq; omega
        rw [if_neg hq] at hsn
        (conv => whnf)
        refine ⟨((k + 1 : Nat) : Int), wrap_succ (by omega), ?_⟩; (conv => whnf)
        exact ⟨k + 1, by omega, ⟨by omega, hx6⟩, ⟨rfl, rfl, rfl, rfl, rfl, rfl, rfl, by rw [← ho1, hsn]; rfl, by rw [← ho1, hsn]; rfl, trivial⟩⟩
      · intro hq
        have hq : a < t ∧ t ≤ b := by
          simp at hq; omega
        rw [if_pos hq] at hsn
        (conv => whnf)
        refine (pas_spec (hW.ext (hx.trans hx6)) item t).mono ?_
        rintro _ w7 ⟨rfl, hx7⟩
        rw [hf]
        rw [less_take] at hsn
        generalize f t = q at hsn ⊢
        (conv => whnf)
        constructor
        · intro hq2
          rw [if_pos hq2] at hsn
          have hqs : q.isSome = true := by revert hq2; cases q <;> simp
          (conv => whnf)
          refine ⟨((k + 1 : Nat) : Int), wrap_succ (by omega), ?_⟩; (conv => whnf)
          exact ⟨k + 1, by omega, ⟨by omega, hx6.trans hx7⟩, ⟨rfl, rfl, rfl, rfl, rfl, rfl, rfl, by rw [← ho1, hsn]; rfl, by rw [← ho1, hsn, hqs]; rfl, trivial⟩⟩
        · intro hq2
          have hq2 : ¬ (q.isSome && (!o.isSome || decide (q.getD 0 < o.getD 0))) = true := by rw [hq2]; simp
          rw [if_neg hq2] at hsn
          (conv => whnf)
          refine ⟨((k + 1 : Nat) : Int), wrap_succ (by omega), ?_⟩; (conv => whnf)
          exact ⟨k + 1, by omega, ⟨by omega, hx6.trans hx7⟩, ⟨rfl, rfl, rfl, rfl, rfl, rfl, rfl, by rw [← ho1, hsn]; rfl, by rw [← ho1, hsn]; rfl, trivial⟩⟩
    · intro hc
      have hc : L.length ≤ k := by simpa using hc
      rw [List.take_of_length_le hc]
      (conv => whnf)
      exact ⟨_, rfl, by rw [if_pos hok]; exact hres, hx.trans hx6⟩
end Go.Proofs.YtbfjlpoeglcmfaaGreatDoor
