
/- cmp.Compare, cmp.Or, strings.Compare, event.Compare. -/
import Derived.Test.YtbfjlpoeglcmfaaDoorOrd
import Derived.Test.YtbfjlpoeglcmfaaDoorShelf
import Derived.Test.YtbfjlpoeglcmfaaDoorSe6
import Derived.Test.YtbfjlpoeglcmfaaDoorMap1
set_option linter.unusedVariables false
set_option linter.unusedSimpArgs false
namespace Go.Proofs.YtbfjlpoeglcmfaaDoor
open Go.Se Go.RowKit

/-- A contract of the shelf as one of ours. -/
theorem cal_of {P : Program} {f : FuncId} {args : List Value} {w : World} {v : Value} {Q : World → Prop} (ok : FnOk P f) (h : Calls P f args.toArray w fun e w' => e = .returned v ∧ Q w') {R : Value → World → Prop} (hR : ∀ w', Q w' → R v w') : Cal P f args w R :=
  ⟨ok, h.mono fun e w' ⟨he, hq⟩ => ⟨v, he, hR w' hq⟩⟩
theorem ok_strCompare : FnOk Tryd.prog 37 := ⟨_, Tryd.func37, rfl, rfl⟩
theorem strCompare_spec (a b : ByteArray) (w : World) : Cal Tryd.prog 37 [.string a, .string b] w fun r w' => r = .int .i64 (cmpT a b) ∧ w' = w :=
  cal_of ok_strCompare (Tryd.strings_Compare a b w) fun w' hw => ⟨by rw [cmpT_eq], hw⟩

theorem isNaN_spec (a : Int) (w : World) : Cal Tryd.prog 46 [.int .i64 a] w fun r w' => r = .bool false ∧ w' = w := by
  refine fn_intro Tt_ok Tryd.func46 (by rfl) rfl _ rfl rfl (by rfl) ?_; (conv => whnf)
  exact ⟨by simp, rfl⟩
theorem cmpInt_spec (a b : Int) (w : World) : Cal Tryd.prog 36 [.int .i64 a, .int .i64 b] w fun r w' => r = .int .i64 (cmpI a b) ∧ w' = w := by
  refine fn_intro Tt_ok Tryd.func36 (by rfl) rfl _ rfl rfl (by rfl) ?_; (conv => whnf)
  refine (isNaN_spec a w).mono ?_
  rintro _ _ ⟨rfl, rfl⟩
  (conv => whnf)
  refine (isNaN_spec b _).mono ?_
  rintro _ _ ⟨rfl, rfl⟩
  (conv => whnf)
  constructor
  · intro h; cases h
  intro _
  (conv => whnf)
  constructor
  · intro h; cases h
  intro _
  (conv => whnf)
  constructor
  · intro h
    have h : a < b := by simpa using h
    (conv => whnf)
    exact ⟨by unfold cmpI; rw [if_pos h], rfl⟩
  intro h
  have h : ¬ a < b := by simpa using h
  (conv => whnf)
  constructor
  · intro k
    have k : b < a := by simpa using k
    (conv => whnf)
    exact ⟨by unfold cmpI; rw [if_neg h, if_pos k], rfl⟩
  intro k
  have k : ¬ b < a := by simpa using k
  (conv => whnf)
  exact ⟨by unfold cmpI; rw [if_neg h, if_neg k], rfl⟩

def intC (z : Int) : List Value := [.int .i64 z]
theorem intC_len (z : Int) : (intC z).length = 1 := rfl
theorem intC_one (z : Int) : ∀ u ∈ intC z, u.oneCell' = true := by simp [intC, Value.oneCell']
abbrev SlI := Sl intC 1
/-- The first that isn't 0. -/
def orL (l : List Int) : Int := (l.find? (fun z => decide (z ≠ 0))).getD 0
theorem or_spec (l : List Int) (A : Option Addr) (c : Nat) (w : World) (hs : SlI w A l) (hl : l.length < 1000000000000) :
    Cal Tryd.prog 35 [.slice A l.length c] w fun r w' => r = .int .i64 (orL l) ∧ w' = w := by
  refine fn_intro Tt_ok Tryd.func35 (by rfl) rfl _ rfl rfl (by rfl) ?_; (conv => whnf)
  refine loop_rule Tt_ok (fun (k : Nat) w' => k ≤ l.length ∧ w' = w ∧ ∀ i (hi : i < l.length), i < k → l[i] = 0)
    (fun k => [(6, .slice A l.length c), (7, .int .i64 l.length), (8, .int .i64 k), (3, .int .i64 0)]) (fun k => l.length - k) 0 ⟨by omega, rfl, fun i _ h => by omega⟩ ⟨rfl, rfl, rfl, rfl, trivial⟩ ?_
  rintro k w1 ⟨hk, rfl, hall⟩
  (conv => whnf)
  constructor
  · intro hlt
    have hlt : k < l.length := by simpa using hlt
    (conv => whnf)
    obtain ⟨a, rfl, hc⟩ := hs.get hlt
    refine ⟨a, ⟨rfl, by omega, by omega⟩, ?_⟩; (conv => whnf)
    refine ⟨.int .i64 l[k], cells_head hc, ?_⟩; (conv => whnf)
    constructor
    · intro h
      have h : l[k] ≠ 0 := by simpa using h
      (conv => whnf)
      refine ⟨?_, rfl⟩
      unfold orL
      have : l.find? (fun z => decide (z ≠ 0)) = some l[k] := by
        rw [List.find?_eq_some_iff_getElem]
        refine ⟨by simpa using h, k, hlt, rfl, fun j hj => ?_⟩
        rw [hall j (by omega) hj]; simp
      rw [this]; rfl
    · intro h
      have h : l[k] = 0 := by simpa using h
      (conv => whnf)
      refine ⟨((k + 1 : Nat) : Int), wrap_succ (by omega), ?_⟩; (conv => whnf)
      refine ⟨k + 1, by omega, ⟨by omega, rfl, fun i hi hik => ?_⟩, ⟨rfl, rfl, rfl, rfl, trivial⟩⟩
      by_cases e : i = k
      · subst e; exact h
      · exact hall i hi (by omega)
  · intro hge
    have hge : l.length ≤ k := by simpa using hge
    (conv => whnf)
    refine ⟨?_, rfl⟩
    have : l.find? (fun z => decide (z ≠ 0)) = none := by
      rw [List.find?_eq_none]
      intro x hx
      obtain ⟨i, hi, rfl⟩ := List.getElem_of_mem hx
      rw [hall i hi (by omega)]; simp
    unfold orL
    rw [this]; rfl

theorem compare_spec (a b : Ev) (w : World) : Cal Tryd.prog 25 [evV a, evV b] w fun r w' => r = .int .i64 (cmpE a b) ∧ Ext w w' := by
  refine fn_intro Tt_ok Tryd.func25 (by rfl) rfl _ rfl rfl (by rfl) ?_; (conv => whnf)
  intro b1 w1 hn1; (conv => whnf)
  intro b2 w2 hn2
  have h1 := hn1.At.ext hn2.ext
  have h2 := hn2.At
  have hx := hn1.ext.trans hn2.ext
  (conv => whnf)
  refine draw_rule .ext [0, 1, 2, 3, 5, 6, 7, 8, 10, 11, 12, 13, 4, 9] [14, 15, 16, 17] Tt_ok mixed (by kernel_rfl) (by first | (intro h; cases h; done) | (intro _; rfl)) ?_; (conv => whnf)
  replace h1 : At w2.drew b1 _ _ := h1
  replace h2 : At w2.drew b2 _ _ := h2
  replace hx : Ext w w2.drew := hx.drew
  generalize w2.drew = w3 at h1 h2 hx ⊢
  refine ⟨_, h1.one rfl, ?_⟩; (conv => whnf)
  refine ⟨_, h2.one rfl, ?_⟩; (conv => whnf)
  refine ⟨_, h1.one0, ?_⟩; (conv => whnf)
  refine ⟨_, h2.one0, ?_⟩; (conv => whnf)
  refine ⟨_, h1.one rfl, ?_⟩; (conv => whnf)
  refine ⟨_, h2.one rfl, ?_⟩; (conv => whnf)
  refine (cmpInt_spec _ _ _).mono ?_; rintro _ _ ⟨rfl, rfl⟩
  refine ⟨Ext.refl _, ?_⟩; (conv => whnf)
  refine (strCompare_spec _ _ _).mono ?_; rintro _ _ ⟨rfl, rfl⟩
  refine ⟨Ext.refl _, ?_⟩; (conv => whnf)
  refine (cmpInt_spec _ _ _).mono ?_; rintro _ _ ⟨rfl, rfl⟩; (conv => whnf)
  intro b6 w6 hn6; (conv => whnf)
  refine (or_spec [cmpI a.at_ b.at_, cmpT a.src b.src, cmpI a.num b.num] _ _ _ (sl_new (enc := intC) intC_len hn6) (by simp)).mono ?_
  rintro _ _ ⟨rfl, rfl⟩; (conv => whnf)
  refine ⟨?_, hx.trans hn6.ext⟩
  unfold cmpE orL
  congr 1
  by_cases p : cmpI a.at_ b.at_ = 0
  · by_cases q : cmpT a.src b.src = 0
    · by_cases r : cmpI a.num b.num = 0 <;> simp [p, q, r]
    · simp [p, q]
  · simp [p]
end Go.Proofs.YtbfjlpoeglcmfaaDoor
