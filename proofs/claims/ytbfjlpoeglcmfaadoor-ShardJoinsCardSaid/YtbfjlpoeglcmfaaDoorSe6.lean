
/- Regions in an open order in which two operations that change memory may come up at once. -/
import Derived.Test.YtbfjlpoeglcmfaaDoorSe5
set_option linter.unusedVariables false
set_option linter.unusedSimpArgs false
namespace Go.Se
open Go.RowKit

/-- A plan: what comes up, one by one; or one of two. -/
inductive Pl where
  | done
  | one (i : Nat) (p : Pl)
  | two (i : Nat) (p : Pl) (j : Nat) (q : Pl)
def Pl.size : Pl → Nat
  | .done => 0
  | .one _ p => p.size + 1
  | .two _ p _ _ => p.size + 1
def Pl.seq : List Nat → Pl → Pl
  | [], p => p
  | i :: r, p => .one i (Pl.seq r p)
def plOk (T : Tab) (ops : Array Oper) : Pl → Array Bool → Bool
  | .done, listed => (Region.ready .any ops listed).isEmpty
  | .one i p, listed => match ops[i]? with
    | none => false
    | some o => (bif still T o.op then (Region.ready .any ops listed).contains i && Region.free .any ops listed i else Region.ready .any ops listed == [i]) && plOk T ops p (listed.setIfInBounds i true)
  | .two i p j q, listed => match ops[i]? with
    | none => false
    | some o => match ops[j]? with
      | none => false
      | some o' => !still T o.op && !still T o'.op && Region.ready .any ops listed == [i, j] && p.size == q.size && plOk T ops p (listed.setIfInBounds i true) && plOk T ops q (listed.setIfInBounds j true)

section
variable {P : Program} {T : Tab} {N : Nat} {cl : Cl} {ops : List Oper}
def stepVC (P : Program) (T : Tab) (N : Nat) (cl : Cl) (ops : List Oper) (o : Oper) (Γ : Env) (Δ : Loc) (G : List Nat) (w : World) (K : Env → Loc → List Nat → World → Prop) : Prop :=
  pathK ops Γ Δ o.guard fun p =>
      bif still T o.op then
        opVC P T cl (fun e x => evO Γ Δ (e ++ p) x) (Und Γ Δ p) o.op w fun v => putK N p o.dst v Γ Δ G fun Γ' Δ' G' => K Γ' Δ' G' w
      else effK P T N cl p o Γ Δ G w fun w' Γ' Δ' G' => K Γ' Δ' G' w'
def plVC (P : Program) (T : Tab) (N : Nat) (cl : Cl) (ops : List Oper) : Pl → Env → Loc → List Nat → World → (Env → Loc → List Nat → World → Prop) → Prop
  | .done, Γ, Δ, G, w, K => K Γ Δ G w
  | .one i p, Γ, Δ, G, w, K => match nth ops i with
    | some o => stepVC P T N cl ops o Γ Δ G w fun Γ' Δ' G' w' => plVC P T N cl ops p Γ' Δ' G' w' K
    | none => False
  | .two i p j q, Γ, Δ, G, w, K => (match nth ops i with
    | some o => stepVC P T N cl ops o Γ Δ G w fun Γ' Δ' G' w' => plVC P T N cl ops p Γ' Δ' G' w' K
    | none => False) ∧ (match nth ops j with
    | some o => stepVC P T N cl ops o Γ Δ G w fun Γ' Δ' G' w' => plVC P T N cl ops q Γ' Δ' G' w' K
    | none => False)

theorem plVC_any (hT : TabOk P T) (hns : cl ≠ .same) (hsel : Region.noSelect ops.toArray = true) {K : Env → Loc → List Nat → World → Prop} {Q : Exit → Act → World → Prop} (hQ : ∀ a Γ Δ G w, Ag N a Γ Δ G → K Γ Δ G w → Q .normal a w) (hp : ∀ c a w, ¬ Q (.panic c) a w) :
    ∀ (pl : Pl) (listed : Array Bool) (Γ : Env) (Δ : Loc) (G : List Nat) (a : Act) (w : World), plOk T ops.toArray pl listed = true → Ag N a Γ Δ G →
      plVC P T N cl ops pl Γ Δ G w K → wpT P ops.toArray Q (fun L w' => noneOf [] L → cl.rel w w') pl.size listed a w
  | .done, listed, Γ, Δ, G, a, w, hc, ha, h => by
    simp only [plOk, List.isEmpty_iff] at hc
    exact ⟨hc, hQ a Γ Δ G w ha h⟩
  | .one i pl, listed, Γ, Δ, G, a, w, hc, ha, h => by
    simp only [plOk] at hc
    cases ho : ops.toArray[i]? with
    | none => rw [ho] at hc; simp at hc
    | some o =>
      rw [ho] at hc
      simp only [Bool.and_eq_true] at hc
      obtain ⟨hc1, hc2⟩ := hc
      have ho' : ops[i]? = some o := by simpa using ho
      simp only [plVC, nth_eq, ho'] at h
      unfold stepVC at h
      obtain ⟨p, hp1, hw⟩ := pathK_sound ha h
      cases hs : still T o.op <;> simp only [hs, cond_true, cond_false] at hp1 hc1
      · have hr : Region.ready .any ops.toArray listed = [i] := by simpa using hc1
        refine ⟨fun h0 => (by rw [hr] at h0; cases h0), fun j hj => ?_⟩
        rw [hr] at hj
        obtain rfl : j = i := by simpa using hj
        have := eff_step (Q := Q) hT ha hw hp1 (M := fun a' w' => (noneOf [] (listed.setIfInBounds j true) → cl.rel w w') ∧ wpT P ops.toArray Q (fun L w' => noneOf [] L → cl.rel w w') pl.size (listed.setIfInBounds j true) a' w')
          fun a' w' Γ' Δ' G' hrel hag hk => by
            have hrel' := hrel.resolve_left hns
            exact ⟨fun _ => hrel', wpT_mono (fun L w'' hw'' hn => cl.trans hrel' (hw'' hn)) _ _ _ _ (plVC_any hT hns hsel hQ hp pl _ Γ' Δ' G' a' w' hc2 hag hk)⟩
        unfold wpOp
        simpa only [ho] using this
      · obtain ⟨v, Γ', Δ', G', hy, hag, hk⟩ := still_step hT ha hw hp1
        simp only [Bool.and_eq_true] at hc1
        exact wpT_first (B := []) (D := []) (C := cl.rel w) ho (Region.noSelect_spec hsel) (fun c a w hh => (hp _ _ _ hh).elim) (by simp)
          (fun j hj => by simp at hj) (fun d hd => by simp at hd) _ listed a w (Region.free_spec ho hc1.2) (by simpa using hc1.1)
          (fun d hd => by simp at hd) hy (Cl.refl _ _) (plVC_any hT hns hsel hQ hp pl _ Γ' Δ' G' _ w hc2 hag hk)
  | .two i pl j ql, listed, Γ, Δ, G, a, w, hc, ha, h => by
    simp only [plOk] at hc
    cases ho : ops.toArray[i]? with
    | none => rw [ho] at hc; simp at hc
    | some o =>
      rw [ho] at hc
      cases hu : ops.toArray[j]? with
      | none => rw [hu] at hc; simp at hc
      | some u =>
        rw [hu] at hc
        simp only [Bool.and_eq_true, Bool.not_eq_true', beq_iff_eq] at hc
        obtain ⟨⟨⟨⟨⟨hs, hsu⟩, hr⟩, hsz⟩, hc1⟩, hc2⟩ := hc
        have ho' : ops[i]? = some o := by simpa using ho
        have hu' : ops[j]? = some u := by simpa using hu
        obtain ⟨h1, h2⟩ := h
        simp only [nth_eq, ho'] at h1
        simp only [nth_eq, hu'] at h2
        unfold stepVC at h1 h2
        obtain ⟨p, hp1, hw⟩ := pathK_sound ha h1
        obtain ⟨p', hp1', hw'⟩ := pathK_sound ha h2
        simp only [hs, hsu, cond_false] at hp1 hp1'
        refine ⟨fun h0 => (by rw [hr] at h0; cases h0), fun k hk => ?_⟩
        rw [hr] at hk
        have hk' : k = i ∨ k = j := by simpa using hk
        rcases hk' with rfl | rfl
        · have := eff_step (Q := Q) hT ha hw hp1 (M := fun a' w' => (noneOf [] (listed.setIfInBounds k true) → cl.rel w w') ∧ wpT P ops.toArray Q (fun L w' => noneOf [] L → cl.rel w w') pl.size (listed.setIfInBounds k true) a' w')
            fun a' w' Γ' Δ' G' hrel hag hk => by
              have hrel' := hrel.resolve_left hns
              exact ⟨fun _ => hrel', wpT_mono (fun L w'' hw'' hn => cl.trans hrel' (hw'' hn)) _ _ _ _ (plVC_any hT hns hsel hQ hp pl _ Γ' Δ' G' a' w' hc1 hag hk)⟩
          unfold wpOp
          simpa only [ho] using this
        · have := eff_step (Q := Q) hT ha hw' hp1' (M := fun a' w' => (noneOf [] (listed.setIfInBounds k true) → cl.rel w w') ∧ wpT P ops.toArray Q (fun L w' => noneOf [] L → cl.rel w w') pl.size (listed.setIfInBounds k true) a' w')
            fun a' w' Γ' Δ' G' hrel hag hk => by
              have hrel' := hrel.resolve_left hns
              refine ⟨fun _ => hrel', ?_⟩
              rw [hsz]
              exact wpT_mono (fun L w'' hw'' hn => cl.trans hrel' (hw'' hn)) _ _ _ _ (plVC_any hT hns hsel hQ hp ql _ Γ' Δ' G' a' w' hc2 hag hk)
          unfold wpOp
          simpa only [hu] using this

/-- A region whose order is open, by a plan. -/
theorem draw_plan (cl : Cl) (pl : Pl) (hns : cl ≠ .same) (hT : TabOk P T) (hm : P.follows .mixedOrders = true) {id : Nat} {ops : Array Oper} {Γ : Env} {w : World} {kn : KN} {ex : KE} {rt : KN} (hc : (Region.noSelect ops && (pl.size == ops.size) && plOk T ops pl (Array.replicate ops.size false)) = true)
    (h : plVC P T N cl ops.toList pl Γ [] [] w.drew fun Γ' _ _ w' => kn Γ' w') : SemC P N (.region id ops true) Γ w kn ex rt := by
  unfold SemC
  intro a ha
  simp only [Bool.and_eq_true, beq_iff_eq] at hc
  obtain ⟨⟨h1, h2⟩, h3⟩ := hc
  have := plVC_any (ops := ops.toList) (Q := toQ N kn ex rt) hT hns h1 (fun a Γ Δ G w hag hk => ⟨Γ, hag.done, hk⟩) (fun c a w hq => hq) pl (Array.replicate ops.size false) Γ [] [] a w.drew h3 ha h
  rw [h2] at this
  exact wp_region_any hm (wpAny_of_wpT _ _ _ _ this)
/-! ### Regions in which all that changes memory waits for what was read -/
theorem wpT_firstS {ops : Array Oper} {Q : Exit → Act → World → Prop} {S : Array Bool → World → Prop} {B D : List Nat} {C : World → Prop} {i : Nat} {oi : Oper} {v : Value} (hi : ops[i]? = some oi) (hsel : ∀ (j : Nat) (o : Oper) cs b, ops[j]? = some o → o.op ≠ .select cs b)
    (hQ : ∀ c a w, Q (.panic c) (a.put oi.dst v) w → Q (.panic c) a w) (hSi : ∀ L w, S (L.setIfInBounds i true) w → S L w) (hSC : ∀ L w, noneOf B L → S L w → C w) (hiB : i ∉ B) (hBD : ∀ j ∈ B, j ∈ D)
    (hD : ∀ d ∈ D, ∀ od, ops[d]? = some od → ∃ e ∈ od.after, Region.binds .any e = true ∧ (e.on = i ∨ e.on ∈ D)) :
    ∀ (fuel : Nat) (listed : Array Bool) (a : Act) (w : World),
      (∀ j oj, ops[j]? = some oj → j ≠ i → listed.getD j true = false → (∀ e ∈ oj.after, Region.binds .any e = true → e.on ≠ i) → oi.apart ops oj = true) →
      i ∈ Region.ready .any ops listed → noneOf D listed → YieldsIf P ops C oi v a → C w → S (listed.setIfInBounds i true) w →
      wpT P ops Q S fuel (listed.setIfInBounds i true) (a.put oi.dst v) w → wpT P ops Q S (fuel + 1) listed a w := by
  intro fuel
  induction fuel with
  | zero =>
    intro listed a w _ hr hN hy hC hS H
    refine ⟨fun h => (by rw [h] at hr; cases hr), fun j hj => ?_⟩
    by_cases hji : j = i
    · subst hji; exact hy.wpOp hi hC ⟨hS, H⟩
    · have := ready_mono hj hji
      rw [H.1] at this
      cases this
  | succ fuel ih =>
    intro listed a w hfree hr hN hy hC hS H
    refine ⟨fun h => (by rw [h] at hr; cases hr), fun j hj => ?_⟩
    by_cases hji : j = i
    · subst hji; exact hy.wpOp hi hC ⟨hS, H⟩
    · have h1 := H.2 j (ready_mono hj hji)
      obtain ⟨hjun, oj, hoj, hall⟩ := mem_ready.1 hj
      have hil : listed.getD i false = false := by
        have h0 := (mem_ready.1 hr).1
        rcases Nat.lt_or_ge i listed.size with h' | h'
        · simp [h'] at h0 ⊢; exact h0
        · simp [Array.getElem?_eq_none h']
      have hnot : ∀ e ∈ oj.after, Region.binds .any e = true → e.on ≠ i := fun e he hb heq => by
        have h1 := hall e he hb
        rw [heq, hil] at h1
        cases h1
      have hjD : j ∉ D := fun hjD => by
        obtain ⟨e, he, hb, hon⟩ := hD j hjD oj hoj
        rcases hon with hon | hon
        · exact hnot e he hb hon
        · have := hall e he hb
          rw [hN _ hon] at this
          cases this
      have hjB : j ∉ B := fun h => hjD (hBD j h)
      have hnB : noneOf B ((listed.setIfInBounds i true).setIfInBounds j true) := noneOf_set (noneOf_set (fun k hk => hN k (hBD k hk)) hiB) hjB
      have h2 := wpOp_putIf (S := C) hoj (hfree j oj hoj hji hjun hnot) (fun cs b => hsel i oi cs b hi) (fun cs b => hsel j oj cs b hoj) hQ hy h1
      have hfree' : ∀ k ok, ops[k]? = some ok → k ≠ i → (listed.setIfInBounds j true).getD k true = false →
          (∀ e ∈ ok.after, Region.binds .any e = true → e.on ≠ i) → oi.apart ops ok = true := fun k ok hk hki hun hno => by
        refine hfree k ok hk hki ?_ hno
        by_cases hjk : j = k
        · subst hjk; exact hjun
        · rw [getD_set_ne true hjk] at hun; exact hun
      refine wpOp_mono (fun a' w' h3 => ?_) h2
      have hS' := h3.2.1
      have hC' : C w' := hSC _ _ hnB hS'
      have hcomm : (listed.setIfInBounds i true).setIfInBounds j true = (listed.setIfInBounds j true).setIfInBounds i true := Array.setIfInBounds_comm _ _ (Ne.symm hji)
      rw [hcomm] at hS'
      refine ⟨hSi _ _ hS', ih (listed.setIfInBounds j true) a' w' hfree' (ready_mono hr (Ne.symm hji)) (noneOf_set hN hjD) h3.1 hC' hS' ?_⟩
      rw [← hcomm]
      exact h3.2.2

def SS (E0 B : List Nat) (w0 : World) (cl : Cl) (w : World) (L : Array Bool) (w' : World) : Prop := (noneOf E0 L → w' = w0) ∧ (noneOf B L → cl.rel w w')
theorem noneOf_unset {B : List Nat} {L : Array Bool} {i : Nat} (h : noneOf B (L.setIfInBounds i true)) : noneOf B L := fun j hj => by
  have := h j hj
  by_cases e : i = j
  · subst e
    rcases Nat.lt_or_ge i L.size with hlt | hge
    · simp [hlt] at this
    · simp [Array.getElem?_eq_none hge]
  · rw [getD_set_ne false e] at this; exact this

/-- The end of a region, where one operation alone may come up at a time. -/
theorem opsVC_tailS (hT : TabOk P T) {K : Env → Loc → List Nat → World → Prop} {Q : Exit → Act → World → Prop} (hQ : ∀ a Γ Δ G w, Ag N a Γ Δ G → K Γ Δ G w → Q .normal a w) {B0 : List Nat} {S : Array Bool → World → Prop} (hSB : ∀ (L : Array Bool) (w : World) (i : Nat), i < L.size → i ∈ B0 → S (L.setIfInBounds i true) w) :
    ∀ (B : List Nat) (listed : Array Bool) (Γ : Env) (Δ : Loc) (G : List Nat) (a : Act) (w : World), canonGo.canonB ops.toArray B listed = true → (∀ j ∈ B, j ∈ B0) → listed.size = ops.length → Ag N a Γ Δ G → opsVC P T N .same ops (pickL ops B) Γ Δ G w K →
      wpT P ops.toArray Q S B.length listed a w
  | [], listed, Γ, Δ, G, a, w, hc, _, _, ha, h => by
    simp only [canonGo.canonB, List.isEmpty_iff] at hc
    exact ⟨hc, hQ a Γ Δ G w ha h⟩
  | i :: B, listed, Γ, Δ, G, a, w, hc, hB, hls, ha, h => by
    simp only [canonGo.canonB, Bool.and_eq_true] at hc
    obtain ⟨⟨hc0, hc1⟩, hc2⟩ := hc
    obtain ⟨o, ho⟩ := Option.isSome_iff_exists.1 hc0
    have ho' : ops[i]? = some o := by simpa using ho
    have hr : Region.ready .any ops.toArray listed = [i] := by simpa using hc1
    simp only [pickL, nth_eq, ho'] at h
    simp only [opsVC] at h
    obtain ⟨p, hp1, hw⟩ := pathK_sound ha h
    have hlt : i < listed.size := by rw [hls]; exact (List.getElem?_eq_some_iff.1 ho').1
    refine ⟨fun h0 => (by rw [hr] at h0; cases h0), fun j hj => ?_⟩
    rw [hr] at hj
    obtain rfl : j = i := by simpa using hj
    have hS : ∀ w', S (listed.setIfInBounds j true) w' := fun w' => hSB _ _ _ hlt (hB j (by simp))
    cases hs : still T o.op <;> simp only [hs, cond_true, cond_false] at hp1
    · have := eff_step (Q := Q) (cl := .same) hT ha hw hp1 (M := fun a' w' => S (listed.setIfInBounds j true) w' ∧ wpT P ops.toArray Q S B.length (listed.setIfInBounds j true) a' w')
        fun a' w' Γ' Δ' G' _ hag hk => ⟨hS w', opsVC_tailS hT hQ hSB B _ Γ' Δ' G' a' w' hc2 (fun k hk => hB k (by simp [hk])) (by simpa using hls) hag hk⟩
      unfold wpOp
      simpa only [ho] using this
    · obtain ⟨v, Γ', Δ', G', hy, hag, hk⟩ := still_step hT ha hw hp1
      have hgo := opsVC_tailS hT hQ hSB B (listed.setIfInBounds j true) Γ' Δ' G' _ w hc2 (fun k hk => hB k (by simp [hk])) (by simpa using hls) hag hk
      exact YieldsIf.wpOp (Q := Q) (i := j) (ops := ops.toArray) ho hy (w := w) (Cl.refl _ _) ⟨hS w, hgo⟩

/-- What comes up: number, and whether all that changes memory waits for it. -/
def canon0 (T : Tab) (ops : Array Oper) (E0 A B : List Nat) : List (Nat × Bool) → Array Bool → Bool
  | [], listed => canonGo T ops B A listed
  | (i, s) :: r, listed => match ops[i]? with
    | none => false
    | some o => still T o.op && (Region.ready .any ops listed).contains i && Region.free .any ops listed i && lateOk ops (bif s then E0 else B) listed i && !E0.contains i && !B.contains i && canon0 T ops E0 A B r (listed.setIfInBounds i true)
def opsVC0 (P : Program) (T : Tab) (N : Nat) (cl : Cl) (ops : List Oper) : List (Nat × Bool) → Env → Loc → List Nat → World → (Env → Loc → List Nat → World → Prop) → Prop
  | [], Γ, Δ, G, w, K => K Γ Δ G w
  | (i, s) :: r, Γ, Δ, G, w, K => match nth ops i with
    | some o => pathK ops Γ Δ o.guard fun p => opVC P T (match s with | true => .same | false => cl) (fun e x => evO Γ Δ (e ++ p) x) (Und Γ Δ p) o.op w fun v => putK N p o.dst v Γ Δ G fun Γ' Δ' G' => opsVC0 P T N cl ops r Γ' Δ' G' w K
    | none => False

theorem opsVC_anyS (hT : TabOk P T) (hsel : Region.noSelect ops.toArray = true) (E0 B : List Nat) (w0 : World) (hBE : ∀ j ∈ B, j ∈ E0) {K : Env → Loc → List Nat → World → Prop} {Q : Exit → Act → World → Prop} (hQ : ∀ a Γ Δ G w, Ag N a Γ Δ G → K Γ Δ G w → Q .normal a w) (hp : ∀ c a w, ¬ Q (.panic c) a w) :
    ∀ (ord : List Nat) (listed : Array Bool) (Γ : Env) (Δ : Loc) (G : List Nat) (a : Act) (w : World), (∀ i ∈ ord, ∀ o, ops[i]? = some o → (still T o.op = false ↔ i ∈ E0)) → canonGo T ops.toArray B ord listed = true → listed.size = ops.length → Ag N a Γ Δ G → (noneOf E0 listed → w = w0) →
      opsVC P T N cl ops (pickL ops ord) Γ Δ G w (fun Γ' Δ' G' w' => opsVC P T N .same ops (pickL ops B) Γ' Δ' G' w' K) →
      (cl = .same → ∀ i ∈ ord, ∀ o, ops[i]? = some o → still T o.op = true) →
      wpT P ops.toArray Q (SS E0 B w0 cl w) (ord.length + B.length) listed a w
  | [], listed, Γ, Δ, G, a, w, _, hc, hls, ha, hw0, h, _ => by
    simp only [canonGo] at hc
    simp only [List.length_nil, Nat.zero_add]
    exact opsVC_tailS hT hQ (B0 := B) (S := SS E0 B w0 cl w) (fun L w' i hi hB => ⟨fun hn => by have := hn i (hBE i hB); simp [hi] at this, fun hn => by have := hn i hB; simp [hi] at this⟩) B listed Γ Δ G a w hc (fun _ h => h) hls ha h
  | i :: ord, listed, Γ, Δ, G, a, w, hE, hc, hls, ha, hw0, h, hsame => by
    simp only [canonGo] at hc
    rw [show (i :: ord).length + B.length = (ord.length + B.length) + 1 by simp; omega]
    cases ho : ops.toArray[i]? with
    | none => rw [ho] at hc; simp at hc
    | some o =>
      rw [ho] at hc
      simp only [Bool.and_eq_true] at hc
      obtain ⟨hc1, hc2⟩ := hc
      have ho' : ops[i]? = some o := by simpa using ho
      have hlt : i < listed.size := by rw [hls]; exact (List.getElem?_eq_some_iff.1 ho').1
      have hsame' : cl = .same → ∀ i ∈ ord, ∀ o, ops[i]? = some o → still T o.op = true := fun e j hj o hjo => hsame e j (by simp [hj]) o hjo
      have hE' : ∀ i ∈ ord, ∀ o, ops[i]? = some o → (still T o.op = false ↔ i ∈ E0) := fun j hj o hjo => hE j (by simp [hj]) o hjo
      simp only [pickL, nth_eq, ho'] at h
      simp only [opsVC] at h
      obtain ⟨p, hp1, hw⟩ := pathK_sound ha h
      cases hs : still T o.op <;> simp only [hs, cond_true, cond_false] at hp1 hc1
      · have hns : cl ≠ .same := fun e => by have := hsame e i (by simp) o ho'; rw [hs] at this; cases this
        have hiE : i ∈ E0 := (hE i (by simp) o ho').1 hs
        simp only [Bool.and_eq_true] at hc1
        have hr : Region.ready .any ops.toArray listed = [i] := by simpa using hc1.1
        refine ⟨fun h0 => (by rw [hr] at h0; cases h0), fun j hj => ?_⟩
        rw [hr] at hj
        obtain rfl : j = i := by simpa using hj
        have hno : ¬ noneOf E0 (listed.setIfInBounds j true) := fun hn => by have := hn j hiE; simp [hlt] at this
        have := eff_step (Q := Q) hT ha hw hp1 (M := fun a' w' => SS E0 B w0 cl w (listed.setIfInBounds j true) w' ∧ wpT P ops.toArray Q (SS E0 B w0 cl w) (ord.length + B.length) (listed.setIfInBounds j true) a' w')
          fun a' w' Γ' Δ' G' hrel hag hk => by
            have hrel' := hrel.resolve_left hns
            exact ⟨⟨fun hn => (hno hn).elim, fun _ => hrel'⟩, wpT_mono (fun L w'' hw'' => ⟨hw''.1, fun hn => cl.trans hrel' (hw''.2 hn)⟩) _ _ _ _ (opsVC_anyS hT hsel E0 B w0 hBE hQ hp ord _ Γ' Δ' G' a' w' hE' hc2 (by simpa using hls) hag (fun hn => (hno hn).elim) hk hsame')⟩
        unfold wpOp
        simpa only [ho] using this
      · obtain ⟨v, Γ', Δ', G', hy, hag, hk⟩ := still_step hT ha hw hp1
        have hiE : i ∉ E0 := fun hh => by have := (hE i (by simp) o ho').2 hh; rw [hs] at this; cases this
        simp only [Bool.and_eq_true] at hc1
        obtain ⟨⟨hcr, hcf⟩, hcl⟩ := hc1
        simp only [lateOk, Bool.and_eq_true, Bool.not_eq_true'] at hcl
        obtain ⟨hcl1, ⟨hcl2, hcl3⟩, hcl4⟩ := hcl
        have hiB : i ∉ B := by simpa using hcl1
        refine wpT_firstS (B := B) (D := depsOf ops.toArray i) (C := cl.rel w) ho (Region.noSelect_spec hsel) (fun c a w hh => (hp _ _ _ hh).elim) (fun L w' hS => ⟨fun hn => hS.1 (noneOf_set hn hiE), fun hn => hS.2 (noneOf_set hn hiB)⟩) (fun L w' hn hS => hS.2 hn) hiB
          (fun j hj => by have := List.all_eq_true.1 hcl2 j hj; simpa using this) ?_ _ listed a w (Region.free_spec ho hcf) (by simpa using hcr)
          (fun d hd => by have := List.all_eq_true.1 hcl4 d hd; simpa using this) hy (Cl.refl _ _) ⟨fun hn => hw0 (noneOf_unset hn), fun _ => Cl.refl _ _⟩ (opsVC_anyS hT hsel E0 B w0 hBE hQ hp ord _ Γ' Δ' G' _ w hE' hc2 (by simpa using hls) hag (fun hn => hw0 (noneOf_unset hn)) hk hsame')
        intro d hd od hod
        have := List.all_eq_true.1 hcl3 d hd
        rw [hod] at this
        obtain ⟨e, he, hb⟩ := Array.any_eq_true'.1 this
        simp only [Bool.and_eq_true, Bool.or_eq_true, beq_iff_eq, List.contains_eq_mem, decide_eq_true_eq] at hb
        exact ⟨e, he, hb.1, hb.2⟩

theorem opsVC0_any (hT : TabOk P T) (hsel : Region.noSelect ops.toArray = true) (E0 A B : List Nat) (w0 : World) (hBE : ∀ j ∈ B, j ∈ E0) {K : Env → Loc → List Nat → World → Prop} {Q : Exit → Act → World → Prop} (hQ : ∀ a Γ Δ G w, Ag N a Γ Δ G → K Γ Δ G w → Q .normal a w) (hp : ∀ c a w, ¬ Q (.panic c) a w)
    (hE : ∀ i ∈ A, ∀ o, ops[i]? = some o → (still T o.op = false ↔ i ∈ E0)) (hsame : cl = .same → ∀ i ∈ A, ∀ o, ops[i]? = some o → still T o.op = true) :
    ∀ (ord : List (Nat × Bool)) (listed : Array Bool) (Γ : Env) (Δ : Loc) (G : List Nat) (a : Act), canon0 T ops.toArray E0 A B ord listed = true → listed.size = ops.length → Ag N a Γ Δ G →
      opsVC0 P T N cl ops ord Γ Δ G w0 (fun Γ' Δ' G' w' => opsVC P T N cl ops (pickL ops A) Γ' Δ' G' w' (fun Γ' Δ' G' w' => opsVC P T N .same ops (pickL ops B) Γ' Δ' G' w' K)) →
      wpT P ops.toArray Q (SS E0 B w0 cl w0) (ord.length + (A.length + B.length)) listed a w0
  | [], listed, Γ, Δ, G, a, hc, hls, ha, h => by
    rw [show ([] : List (Nat × Bool)).length + (A.length + B.length) = A.length + B.length by simp]
    exact opsVC_anyS hT hsel E0 B w0 hBE hQ hp A listed Γ Δ G a w0 hE hc hls ha (fun _ => rfl) h hsame
  | (i, s) :: ord, listed, Γ, Δ, G, a, hc, hls, ha, h => by
    simp only [canon0] at hc
    rw [show ((i, s) :: ord).length + (A.length + B.length) = (ord.length + (A.length + B.length)) + 1 by simp; omega]
    cases ho : ops.toArray[i]? with
    | none => rw [ho] at hc; simp at hc
    | some o =>
      rw [ho] at hc
      simp only [Bool.and_eq_true, Bool.not_eq_true'] at hc
      obtain ⟨⟨⟨⟨⟨⟨hs, hcr⟩, hcf⟩, hcl⟩, hiE⟩, hiB⟩, hc2⟩ := hc
      have ho' : ops[i]? = some o := by simpa using ho
      have hiE : i ∉ E0 := by simpa using hiE
      have hiB : i ∉ B := by simpa using hiB
      simp only [opsVC0, nth_eq, ho'] at h
      obtain ⟨p, hp1, hw⟩ := pathK_sound ha h
      obtain ⟨v, Γ', Δ', G', hy, hag, hk⟩ := still_step hT ha hw hp1
      have hgo := opsVC0_any hT hsel E0 A B w0 hBE hQ hp hE hsame ord (listed.setIfInBounds i true) Γ' Δ' G' _ hc2 (by simpa using hls) hag hk
      have hX : ∃ X : List Nat, ∃ cl' : Cl, YieldsIf P ops.toArray (cl'.rel w0) o v a ∧ lateOk ops.toArray X listed i = true ∧ i ∉ X ∧ ∀ L w', noneOf X L → SS E0 B w0 cl w0 L w' → cl'.rel w0 w' := by
        cases s with
        | true => exact ⟨E0, .same, hy, hcl, hiE, fun L w' hn hS => hS.1 hn⟩
        | false => exact ⟨B, cl, hy, hcl, hiB, fun L w' hn hS => hS.2 hn⟩
      obtain ⟨X, cl', hy, hcl, hiX, hSC⟩ := hX
      simp only [lateOk, Bool.and_eq_true, Bool.not_eq_true'] at hcl
      obtain ⟨hcl1, ⟨hcl2, hcl3⟩, hcl4⟩ := hcl
      refine wpT_firstS (B := X) (D := depsOf ops.toArray i) (C := cl'.rel w0) ho (Region.noSelect_spec hsel) (fun c a w hh => (hp _ _ _ hh).elim) (fun L w' hS => ⟨fun hn => hS.1 (noneOf_set hn hiE), fun hn => hS.2 (noneOf_set hn hiB)⟩) hSC hiX
          (fun j hj => by have := List.all_eq_true.1 hcl2 j hj; simpa using this) ?_ _ listed a w0 (Region.free_spec ho hcf) (by simpa using hcr)
          (fun d hd => by have := List.all_eq_true.1 hcl4 d hd; simpa using this) hy (Cl.refl _ _) ⟨fun _ => rfl, fun _ => Cl.refl _ _⟩ hgo
      intro d hd od hod
      have := List.all_eq_true.1 hcl3 d hd
      rw [hod] at this
      obtain ⟨e, he, hb⟩ := Array.any_eq_true'.1 this
      simp only [Bool.and_eq_true, Bool.or_eq_true, beq_iff_eq, List.contains_eq_mem, decide_eq_true_eq] at hb
      exact ⟨e, he, hb.1, hb.2⟩

/-- A region whose order is open: O reads first (true: all that changes memory waits for it), then A, then B. -/
theorem draw_held (cl : Cl) (O : List (Nat × Bool)) (A B E0 : List Nat) (hT : TabOk P T) (hm : P.follows .mixedOrders = true) {id : Nat} {ops : Array Oper} {Γ : Env} {w : World} {kn : KN} {ex : KE} {rt : KN}
    (hc : (Region.noSelect ops && (O.length + (A.length + B.length) == ops.size) && B.all (E0.contains ·) && A.all (fun i => match ops[i]? with | some o => (!still T o.op) == E0.contains i | none => true) && canon0 T ops E0 A B O (Array.replicate ops.size false)) = true)
    (hs : cl = .same → A.all (fun i => match ops[i]? with | some o => still T o.op | none => true) = true)
    (h : opsVC0 P T N cl ops.toList O Γ [] [] w.drew fun Γ' Δ' G' w' => opsVC P T N cl ops.toList (pickL ops.toList A) Γ' Δ' G' w' fun Γ' Δ' G' w' => opsVC P T N .same ops.toList (pickL ops.toList B) Γ' Δ' G' w' fun Γ'' _ _ w'' => kn Γ'' w'') : SemC P N (.region id ops true) Γ w kn ex rt := by
  unfold SemC
  intro a ha
  simp only [Bool.and_eq_true, beq_iff_eq] at hc
  obtain ⟨⟨⟨⟨h1, h2⟩, h4⟩, h5⟩, h3⟩ := hc
  have := opsVC0_any (ops := ops.toList) (Q := toQ N kn ex rt) hT h1 E0 A B w.drew (fun j hj => by have := List.all_eq_true.1 h4 j hj; simpa using this) (fun a Γ Δ G w hag hk => ⟨Γ, hag.done, hk⟩) (fun c a w hq => hq)
    (fun i hi o hio => by
      have := List.all_eq_true.1 h5 i hi
      have hio' : ops[i]? = some o := by simpa using hio
      simp only [hio', beq_iff_eq] at this
      have hm : (E0.contains i = true) ↔ i ∈ E0 := by simp
      rw [← hm, ← this]; simp)
    (fun e i hi o hio => by
      have := List.all_eq_true.1 (hs e) i hi
      have hio' : ops[i]? = some o := by simpa using hio
      simpa [hio'] using this) O (Array.replicate ops.size false) Γ [] [] a h3 (by simp) ha h
  rw [h2] at this
  exact wp_region_any hm (wpAny_of_wpT _ _ _ _ this)
end
theorem sem_cut {P : Program} {N : Nat} {c : Code} {Γ : Env} {w : World} {kn : KN} {ex : KE} {rt : KN} {ι : Type} (E : ι → Env) (M : ι → World → Prop)
    (hx : SemC P N c Γ w (fun Γ' w' => ∃ i, M i w' ∧ Sub (E i) Γ') ex rt) (hy : ∀ i w', M i w' → kn (E i) w') : SemC P N c Γ w kn ex rt := by
  unfold SemC at hx ⊢
  intro a ha
  refine wp_mono (hx a ha) fun e a' w' hq => ?_
  cases e with
  | normal =>
    obtain ⟨Γ', hag', i, hM, hsub⟩ := hq
    exact ⟨E i, hag'.sub hsub, hy i w' hM⟩
  | exit id => exact hq
  | ret => exact hq
  | goto l => exact hq
  | panic c => exact hq
  | outgrown => exact hq
end Go.Se
