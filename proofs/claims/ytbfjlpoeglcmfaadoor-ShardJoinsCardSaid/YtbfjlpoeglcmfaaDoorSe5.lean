
/- Regions in whatever order; code; loops; a function's body. -/
import Derived.Test.YtbfjlpoeglcmfaaDoorSe4
import Derived.Laws.StructEq
set_option linter.unusedVariables false
set_option linter.unusedSimpArgs false
namespace Go.Se
open Go.RowKit

def pickL (ops : List Oper) : List Nat → List Oper
  | [] => []
  | i :: r => match nth ops i with
    | some o => o :: pickL ops r
    | none => []
/-- Those that wait for number i. -/
def depsOf (ops : Array Oper) (i : Nat) : List Nat :=
  (List.range ops.size).foldl (fun D j => bif ((ops[j]?).map fun o => o.after.any fun e => Region.binds .any e && (e.on == i || D.contains e.on)).getD false then j :: D else D) []
def waitsOk (ops : Array Oper) (D : List Nat) (i : Nat) : Bool :=
  D.all fun d => match ops[d]? with
    | some o => o.after.any fun e => Region.binds .any e && (e.on == i || D.contains e.on)
    | none => false
def lateOk (ops : Array Oper) (B : List Nat) (listed : Array Bool) (i : Nat) : Bool :=
  !B.contains i && (let D := depsOf ops i; B.all (D.contains ·) && waitsOk ops D i && D.all fun d => !listed.getD d false)
def canonGo (T : Tab) (ops : Array Oper) (B : List Nat) : List Nat → Array Bool → Bool
  | [], listed => canonB ops B listed
  | i :: r, listed => match ops[i]? with
    | none => false
    | some o => (bif still T o.op then (Region.ready .any ops listed).contains i && Region.free .any ops listed i && lateOk ops B listed i else Region.ready .any ops listed == [i] && !B.contains i) && canonGo T ops B r (listed.setIfInBounds i true)
where canonB (ops : Array Oper) : List Nat → Array Bool → Bool
  | [], listed => (Region.ready .any ops listed).isEmpty
  | i :: r, listed => (ops[i]?).isSome && Region.ready .any ops listed == [i] && canonB ops r (listed.setIfInBounds i true)
def canonOk (T : Tab) (ops : Array Oper) (A B : List Nat) : Bool := Region.noSelect ops && (A.length + B.length == ops.size) && canonGo T ops B A (Array.replicate ops.size false)

section
variable {P : Program} {T : Tab} {N : Nat} {cl : Cl} {ops : List Oper}

/-- Whatever order is picked; S holds, of what has come up and of the world, behind every operation. -/
def wpT (P : Program) (ops : Array Oper) (Q : Exit → Act → World → Prop) (S : Array Bool → World → Prop) : Nat → Array Bool → Act → World → Prop
  | 0, listed, a, w => Region.ready .any ops listed = [] ∧ Q .normal a w
  | fuel + 1, listed, a, w =>
    (Region.ready .any ops listed = [] → Q .normal a w) ∧
    ∀ i ∈ Region.ready .any ops listed, wpOp P ops Q i (fun a' w' => S (listed.setIfInBounds i true) w' ∧ wpT P ops Q S fuel (listed.setIfInBounds i true) a' w') a w
theorem wpAny_of_wpT {ops : Array Oper} {Q : Exit → Act → World → Prop} {S : Array Bool → World → Prop} : ∀ (fuel : Nat) (listed : Array Bool) (a : Act) (w : World), wpT P ops Q S fuel listed a w → wpAny P .any ops Q fuel listed a w
  | 0, _, _, _, h => h
  | fuel + 1, _, _, _, h => ⟨h.1, fun i hi => wpOp_mono (fun a' w' h' => wpAny_of_wpT fuel _ a' w' h'.2) (h.2 i hi)⟩
theorem wpT_mono {ops : Array Oper} {Q : Exit → Act → World → Prop} {S S' : Array Bool → World → Prop} (h : ∀ L w, S' L w → S L w) :
    ∀ (fuel : Nat) (listed : Array Bool) (a : Act) (w : World), wpT P ops Q S' fuel listed a w → wpT P ops Q S fuel listed a w
  | 0, _, _, _, hh => hh
  | fuel + 1, _, _, _, hh => ⟨hh.1, fun i hi => wpOp_mono (fun a' w' h' => ⟨h _ _ h'.1, wpT_mono h fuel _ a' w' h'.2⟩) (hh.2 i hi)⟩

def noneOf (B : List Nat) (L : Array Bool) : Prop := ∀ j ∈ B, L.getD j false = false
theorem noneOf_set {B : List Nat} {L : Array Bool} {i : Nat} (h : noneOf B L) (hi : i ∉ B) : noneOf B (L.setIfInBounds i true) := fun j hj => by
  have hne : i ≠ j := fun e => hi (by rw [e]; exact hj)
  rw [getD_set_ne false hne]; exact h j hj

theorem wpT_first {ops : Array Oper} {Q : Exit → Act → World → Prop} {B D : List Nat} {C : World → Prop} {i : Nat} {oi : Oper} {v : Value} (hi : ops[i]? = some oi) (hsel : ∀ (j : Nat) (o : Oper) cs b, ops[j]? = some o → o.op ≠ .select cs b)
    (hQ : ∀ c a w, Q (.panic c) (a.put oi.dst v) w → Q (.panic c) a w) (hiB : i ∉ B) (hBD : ∀ j ∈ B, j ∈ D)
    (hD : ∀ d ∈ D, ∀ od, ops[d]? = some od → ∃ e ∈ od.after, Region.binds .any e = true ∧ (e.on = i ∨ e.on ∈ D)) :
    ∀ (fuel : Nat) (listed : Array Bool) (a : Act) (w : World),
      (∀ j oj, ops[j]? = some oj → j ≠ i → listed.getD j true = false → (∀ e ∈ oj.after, Region.binds .any e = true → e.on ≠ i) → oi.apart ops oj = true) →
      i ∈ Region.ready .any ops listed → noneOf D listed → YieldsIf P ops C oi v a → C w →
      wpT P ops Q (fun L w => noneOf B L → C w) fuel (listed.setIfInBounds i true) (a.put oi.dst v) w → wpT P ops Q (fun L w => noneOf B L → C w) (fuel + 1) listed a w := by
  intro fuel
  induction fuel with
  | zero =>
    intro listed a w _ hr hN hy hC H
    refine ⟨fun h => (by rw [h] at hr; cases hr), fun j hj => ?_⟩
    by_cases hji : j = i
    · subst hji; exact hy.wpOp hi hC ⟨fun _ => hC, H⟩
    · have := ready_mono hj hji
      rw [H.1] at this
      cases this
  | succ fuel ih =>
    intro listed a w hfree hr hN hy hC H
    refine ⟨fun h => (by rw [h] at hr; cases hr), fun j hj => ?_⟩
    by_cases hji : j = i
    · subst hji; exact hy.wpOp hi hC ⟨fun _ => hC, H⟩
    · have h1 := H.2 j (ready_mono hj hji)
      obtain ⟨hjun, oj, hoj, hall⟩ := mem_ready.1 hj
      have hil : listed.getD i false = false := by
        have h0 := (mem_ready.1 hr).1
        rcases Nat.lt_or_ge i listed.size with h' | h'
        · simp [h'] at h0 ⊢; exact h0
        · simp [Array.getElem?_eq_none h']
      have hnot : ∀ e ∈ oj.after, Region.binds .any e = true → e.on ≠ i := fun e he hb heq => by
        have h1 := hall e he hb
        rw [heq, hil] at h1
        cases h1
      have hjD : j ∉ D := fun hjD => by
        obtain ⟨e, he, hb, hon⟩ := hD j hjD oj hoj
        rcases hon with hon | hon
        · exact hnot e he hb hon
        · have := hall e he hb
          rw [hN _ hon] at this
          cases this
      have hjB : j ∉ B := fun h => hjD (hBD j h)
      have hnB : noneOf B ((listed.setIfInBounds i true).setIfInBounds j true) := noneOf_set (noneOf_set (fun k hk => hN k (hBD k hk)) hiB) hjB
      have h2 := wpOp_putIf (S := C) hoj (hfree j oj hoj hji hjun hnot) (fun cs b => hsel i oi cs b hi) (fun cs b => hsel j oj cs b hoj) hQ hy h1
      have hfree' : ∀ k ok, ops[k]? = some ok → k ≠ i → (listed.setIfInBounds j true).getD k true = false →
          (∀ e ∈ ok.after, Region.binds .any e = true → e.on ≠ i) → oi.apart ops ok = true := fun k ok hk hki hun hno => by
        refine hfree k ok hk hki ?_ hno
        by_cases hjk : j = k
        · subst hjk; exact hjun
        · rw [getD_set_ne true hjk] at hun; exact hun
      refine wpOp_mono (fun a' w' h3 => ?_) h2
      have hC' : C w' := h3.2.1 hnB
      refine ⟨fun _ => hC', ih (listed.setIfInBounds j true) a' w' hfree' (ready_mono hr (Ne.symm hji)) (noneOf_set hN hjD) h3.1 hC' ?_⟩
      rw [Array.setIfInBounds_comm _ _ hji]
      exact h3.2.2

/-- The end of a region, where one operation alone may come up at a time. -/
theorem opsVC_tail (hT : TabOk P T) {K : Env → Loc → List Nat → World → Prop} {Q : Exit → Act → World → Prop} (hQ : ∀ a Γ Δ G w, Ag N a Γ Δ G → K Γ Δ G w → Q .normal a w) {B0 : List Nat} {C : World → Prop} :
    ∀ (B : List Nat) (listed : Array Bool) (Γ : Env) (Δ : Loc) (G : List Nat) (a : Act) (w : World), canonGo.canonB ops.toArray B listed = true → (∀ j ∈ B, j ∈ B0) → listed.size = ops.length → Ag N a Γ Δ G → opsVC P T N .same ops (pickL ops B) Γ Δ G w K →
      wpT P ops.toArray Q (fun L w => noneOf B0 L → C w) B.length listed a w
  | [], listed, Γ, Δ, G, a, w, hc, _, _, ha, h => by
    simp only [canonGo.canonB, List.isEmpty_iff] at hc
    exact ⟨hc, hQ a Γ Δ G w ha h⟩
  | i :: B, listed, Γ, Δ, G, a, w, hc, hB, hls, ha, h => by
    simp only [canonGo.canonB, Bool.and_eq_true] at hc
    obtain ⟨⟨hc0, hc1⟩, hc2⟩ := hc
    obtain ⟨o, ho⟩ := Option.isSome_iff_exists.1 hc0
    have ho' : ops[i]? = some o := by simpa using ho
    have hr : Region.ready .any ops.toArray listed = [i] := by simpa using hc1
    simp only [pickL, nth_eq, ho'] at h
    simp only [opsVC] at h
    obtain ⟨p, hp1, hw⟩ := pathK_sound ha h
    have hlt : i < listed.size := by rw [hls]; exact (List.getElem?_eq_some_iff.1 ho').1
    have hS : ∀ w', noneOf B0 (listed.setIfInBounds i true) → C w' := fun w' hn => by
      have := hn i (hB i (by simp))
      simp [hlt] at this
    refine ⟨fun h0 => (by rw [hr] at h0; cases h0), fun j hj => ?_⟩
    rw [hr] at hj
    obtain rfl : j = i := by simpa using hj
    cases hs : still T o.op <;> simp only [hs, cond_true, cond_false] at hp1
    · have := eff_step (Q := Q) (cl := .same) hT ha hw hp1 (M := fun a' w' => (noneOf B0 (listed.setIfInBounds j true) → C w') ∧ wpT P ops.toArray Q (fun L w => noneOf B0 L → C w) B.length (listed.setIfInBounds j true) a' w')
        fun a' w' Γ' Δ' G' _ hag hk => ⟨hS w', opsVC_tail hT hQ B _ Γ' Δ' G' a' w' hc2 (fun k hk => hB k (by simp [hk])) (by simpa using hls) hag hk⟩
      unfold wpOp
      simpa only [ho] using this
    · obtain ⟨v, Γ', Δ', G', hy, hag, hk⟩ := still_step hT ha hw hp1
      have hgo := opsVC_tail hT hQ (B0 := B0) (C := C) B (listed.setIfInBounds j true) Γ' Δ' G' _ w hc2 (fun k hk => hB k (by simp [hk])) (by simpa using hls) hag hk
      exact YieldsIf.wpOp (Q := Q) (i := j) (ops := ops.toArray) ho hy (w := w) (Cl.refl _ _) ⟨hS w, hgo⟩

theorem opsVC_any (hT : TabOk P T) (hsel : Region.noSelect ops.toArray = true) (B : List Nat) {K : Env → Loc → List Nat → World → Prop} {Q : Exit → Act → World → Prop} (hQ : ∀ a Γ Δ G w, Ag N a Γ Δ G → K Γ Δ G w → Q .normal a w) (hp : ∀ c a w, ¬ Q (.panic c) a w) :
    ∀ (ord : List Nat) (listed : Array Bool) (Γ : Env) (Δ : Loc) (G : List Nat) (a : Act) (w : World), canonGo T ops.toArray B ord listed = true → listed.size = ops.length → Ag N a Γ Δ G →
      opsVC P T N cl ops (pickL ops ord) Γ Δ G w (fun Γ' Δ' G' w' => opsVC P T N .same ops (pickL ops B) Γ' Δ' G' w' K) →
      (cl = .same → ∀ i ∈ ord, ∀ o, ops[i]? = some o → still T o.op = true) →
      wpT P ops.toArray Q (fun L w' => noneOf B L → cl.rel w w') (ord.length + B.length) listed a w
  | [], listed, Γ, Δ, G, a, w, hc, hls, ha, h, _ => by
    simp only [canonGo] at hc
    simp only [List.length_nil, Nat.zero_add]
    exact opsVC_tail hT hQ B listed Γ Δ G a w hc (fun _ h => h) hls ha h
  | i :: ord, listed, Γ, Δ, G, a, w, hc, hls, ha, h, hsame => by
    simp only [canonGo] at hc
    rw [show (i :: ord).length + B.length = (ord.length + B.length) + 1 by simp; omega]
    cases ho : ops.toArray[i]? with
    | none => rw [ho] at hc; simp at hc
    | some o =>
      rw [ho] at hc
      simp only [Bool.and_eq_true] at hc
      obtain ⟨hc1, hc2⟩ := hc
      have ho' : ops[i]? = some o := by simpa using ho
      have hsame' : cl = .same → ∀ i ∈ ord, ∀ o, ops[i]? = some o → still T o.op = true := fun e j hj o hjo => hsame e j (by simp [hj]) o hjo
      simp only [pickL, nth_eq, ho'] at h
      simp only [opsVC] at h
      obtain ⟨p, hp1, hw⟩ := pathK_sound ha h
      cases hs : still T o.op <;> simp only [hs, cond_true, cond_false] at hp1 hc1
      · have hns : cl ≠ .same := fun e => by have := hsame e i (by simp) o ho'; rw [hs] at this; cases this
        simp only [Bool.and_eq_true] at hc1
        have hr : Region.ready .any ops.toArray listed = [i] := by simpa using hc1.1
        refine ⟨fun h0 => (by rw [hr] at h0; cases h0), fun j hj => ?_⟩
        rw [hr] at hj
        obtain rfl : j = i := by simpa using hj
        have := eff_step (Q := Q) hT ha hw hp1 (M := fun a' w' => (noneOf B (listed.setIfInBounds j true) → cl.rel w w') ∧ wpT P ops.toArray Q (fun L w' => noneOf B L → cl.rel w w') (ord.length + B.length) (listed.setIfInBounds j true) a' w')
          fun a' w' Γ' Δ' G' hrel hag hk => by
            have hrel' := hrel.resolve_left hns
            exact ⟨fun _ => hrel', wpT_mono (fun L w'' hw'' hn => cl.trans hrel' (hw'' hn)) _ _ _ _ (opsVC_any hT hsel B hQ hp ord _ Γ' Δ' G' a' w' hc2 (by simpa using hls) hag hk hsame')⟩
        unfold wpOp
        simpa only [ho] using this
      · obtain ⟨v, Γ', Δ', G', hy, hag, hk⟩ := still_step hT ha hw hp1
        simp only [Bool.and_eq_true] at hc1
        obtain ⟨⟨hcr, hcf⟩, hcl⟩ := hc1
        simp only [lateOk, Bool.and_eq_true, Bool.not_eq_true'] at hcl
        obtain ⟨hcl1, ⟨hcl2, hcl3⟩, hcl4⟩ := hcl
        refine wpT_first (B := B) (D := depsOf ops.toArray i) (C := cl.rel w) ho (Region.noSelect_spec hsel) (fun c a w hh => (hp _ _ _ hh).elim) (by simpa using hcl1)
          (fun j hj => by have := List.all_eq_true.1 hcl2 j hj; simpa using this) ?_ _ listed a w (Region.free_spec ho hcf) (by simpa using hcr)
          (fun d hd => by have := List.all_eq_true.1 hcl4 d hd; simpa using this) hy (Cl.refl _ _) (opsVC_any hT hsel B hQ hp ord _ Γ' Δ' G' _ w hc2 (by simpa using hls) hag hk hsame')
        intro d hd od hod
        have := List.all_eq_true.1 hcl3 d hd
        rw [hod] at this
        obtain ⟨e, he, hb⟩ := Array.any_eq_true'.1 this
        simp only [Bool.and_eq_true, Bool.or_eq_true, beq_iff_eq, List.contains_eq_mem, decide_eq_true_eq] at hb
        exact ⟨e, he, hb.1, hb.2⟩
end

abbrev KN := Env → World → Prop
abbrev KE := List (Nat × (Env → World → Prop))
def exget : List (Nat × (Env → World → Prop)) → Nat → Option (Env → World → Prop)
  | [], _ => none
  | (t, k) :: l, s => bif Nat.beq t s then some k else exget l s
def toQ (N : Nat) (kn : KN) (ex : KE) (rt : KN) : Exit → Act → World → Prop
  | .normal, a, w => ∃ Γ, Ag N a Γ [] [] ∧ kn Γ w
  | .exit id, a, w => ∃ Γ k, exget ex id = some k ∧ Ag N a Γ [] [] ∧ k Γ w
  | .ret, a, w => ∃ Γ, Ag N a Γ [] [] ∧ rt Γ w
  | _, _, _ => False

/-- The code, from what an environment says on. -/
@[irreducible] def SemC (P : Program) (N : Nat) (c : Code) (Γ : Env) (w : World) (kn : KN) (ex : KE) (rt : KN) : Prop := ∀ a, Ag N a Γ [] [] → c.wp P (toQ N kn ex rt) a w

/-- How many ways out of a piece of code lead to what stands behind it. -/
def exs (id : Nat) : Code → Nat
  | .seq a b => exs id a + exs id b
  | .cond _ a b => exs id a + exs id b
  | .block _ c => exs id c
  | .loop c => exs id c
  | .exit j => bif Nat.beq id j then 1 else 0
  | _ => 0
def nrm : Code → Nat
  | .seq a b => nrm a * nrm b
  | .cond _ a b => nrm a + nrm b
  | .block id c => nrm c + exs id c
  | .loop _ => 0
  | .exit _ => 0
  | .ret => 0
  | .goto _ => 0
  | _ => 1

def vc (P : Program) (T : Tab) (N : Nat) : Code → Env → World → KN → KE → KN → Prop
  | .skip, Γ, w, kn, ex, rt => kn Γ w
  | .label _, Γ, w, kn, ex, rt => kn Γ w
  | .region id ops draw, Γ, w, kn, ex, rt => bif draw then SemC P N (.region id ops true) Γ w kn ex rt else opsVC P T N .same ops.toList ops.toList Γ [] [] w fun Γ' _ _ w' => kn Γ' w'
  | .seq x y, Γ, w, kn, ex, rt => bif Nat.ble 2 (nrm x) then SemC P N (.seq x y) Γ w kn ex rt else vc P T N x Γ w (fun Γ' w' => vc P T N y Γ' w' kn ex rt) ex rt
  | .cond c x y, Γ, w, kn, ex, rt => match evO Γ [] [] c with
    | some (.bool b) => (b = true → vc P T N x Γ w kn ex rt) ∧ (b = false → vc P T N y Γ w kn ex rt)
    | _ => False
  | .block id c, Γ, w, kn, ex, rt => vc P T N c Γ w kn ((id, kn) :: ex) rt
  | .loop c, Γ, w, kn, ex, rt => SemC P N (.loop c) Γ w kn ex rt
  | .exit id, Γ, w, kn, ex, rt => match exget ex id with
    | some k => k Γ w
    | none => False
  | .ret, Γ, w, kn, ex, rt => rt Γ w
  | .scope c, Γ, w, kn, ex, rt => SemC P N (.scope c) Γ w kn ex rt
  | .rangeFunc f ps x y, Γ, w, kn, ex, rt => SemC P N (.rangeFunc f ps x y) Γ w kn ex rt
  | .goto _, _, _, _, _, _ => False
  | .refuse _, _, _, _, _, _ => False

section
variable {P : Program} {T : Tab} {N : Nat}

theorem exget_cons {t s : Nat} {k : Env → World → Prop} {l : List (Nat × (Env → World → Prop))} : exget ((t, k) :: l) s = if t = s then some k else exget l s := by
  simp only [exget]
  by_cases h : t = s
  · subst h; simp
  · have : Nat.beq t s = false := by rw [← Bool.not_eq_true]; exact fun e => h (Nat.eq_of_beq_eq_true e)
    simp [this, h]

theorem sem_vc (hT : TabOk P T) : ∀ (c : Code) {Γ : Env} {w : World} {kn : KN} {ex : KE} {rt : KN}, vc P T N c Γ w kn ex rt → SemC P N c Γ w kn ex rt
  | .skip, Γ, w, kn, ex, rt, h => by unfold SemC; exact fun a ha => wp_skip ⟨Γ, ha, h⟩
  | .label _, Γ, w, kn, ex, rt, h => by unfold SemC; exact fun a ha => wp_label ⟨Γ, ha, h⟩
  | .region id ops draw, Γ, w, kn, ex, rt, h => by
    cases draw with
    | true => exact h
    | false =>
      unfold SemC
      intro a ha
      have h' : opsVC P T N .same ops.toList ops.toList Γ [] [] w (fun Γ' _ _ w' => kn Γ' w') := h
      refine wp_region ?_
      have := opsVC_seq (Q := toQ N kn ex rt) hT (fun a Γ Δ G w hag hk => ⟨Γ, hag.done, hk⟩) ops.toList 0 (fun j => by simp) Γ [] [] a w ha h'
      simpa [List.range_eq_range'] using this
  | .seq x y, Γ, w, kn, ex, rt, h => by
    simp only [vc] at h
    cases hj : Nat.ble 2 (nrm x) <;> simp only [hj, cond_true, cond_false] at h
    case true => exact h
    unfold SemC
    intro a ha
    refine wp_seq ?_
    have hx := sem_vc hT x (kn := fun Γ' w' => vc P T N y Γ' w' kn ex rt) (ex := ex) (rt := rt) h
    unfold SemC at hx
    refine wp_mono (hx a ha) fun e a' w' hq => ?_
    cases e with
    | normal =>
      obtain ⟨Γ', hag, hv⟩ := hq
      have hy := sem_vc hT y hv
      unfold SemC at hy
      exact hy a' hag
    | exit id => exact hq
    | ret => exact hq
    | goto l => exact hq
    | panic c => exact hq
    | outgrown => exact hq
  | .cond c x y, Γ, w, kn, ex, rt, h => by
    unfold SemC
    intro a ha
    simp only [vc] at h
    split at h
    · rename_i b hb
      have hc : a.eval c = .bool b := ha.ev hb (by simp [cnd])
      refine wp_cond_split hc (fun e => ?_) (fun e => ?_)
      · have := sem_vc hT x (h.1 e); unfold SemC at this; exact this a ha
      · have := sem_vc hT y (h.2 e); unfold SemC at this; exact this a ha
    · exact h.elim
  | .block id c, Γ, w, kn, ex, rt, h => by
    unfold SemC
    intro a ha
    refine wp_block ?_
    have hc := sem_vc hT c (kn := kn) (ex := (id, kn) :: ex) (rt := rt) h
    unfold SemC at hc
    refine wp_mono (hc a ha) fun e a' w' hq => ?_
    cases e with
    | normal => exact hq
    | exit id' =>
      obtain ⟨Γ', k, hk, hag, hkk⟩ := hq
      rw [exget_cons] at hk
      simp only [Exit.inBlock]
      by_cases hid : id' = id
      · rw [if_pos hid]
        rw [if_pos hid.symm] at hk
        obtain rfl : kn = k := by simpa using hk
        exact ⟨Γ', hag, hkk⟩
      · rw [if_neg hid]
        rw [if_neg (fun e => hid e.symm)] at hk
        exact ⟨Γ', k, hk, hag, hkk⟩
    | ret => exact hq
    | goto l => exact hq
    | panic c => exact hq
    | outgrown => exact hq
  | .loop c, Γ, w, kn, ex, rt, h => h
  | .exit id, Γ, w, kn, ex, rt, h => by
    unfold SemC
    intro a ha
    simp only [vc] at h
    split at h
    · rename_i k hk; exact wp_exit ⟨Γ, k, hk, ha, h⟩
    · exact h.elim
  | .ret, Γ, w, kn, ex, rt, h => by unfold SemC; exact fun a ha => wp_ret ⟨Γ, ha, h⟩
  | .scope c, Γ, w, kn, ex, rt, h => h
  | .rangeFunc f ps x y, Γ, w, kn, ex, rt, h => h
  | .goto _, _, _, _, _, _, h => h.elim
  | .refuse _, _, _, _, _, _, h => h.elim

/-- A region whose order is open. -/
theorem draw_rule (cl : Cl) (A B : List Nat) (hT : TabOk P T) (hm : P.follows .mixedOrders = true) {id : Nat} {ops : Array Oper} {Γ : Env} {w : World} {kn : KN} {ex : KE} {rt : KN} (hc : canonOk T ops A B = true)
    (hs : cl = .same → A.all (fun i => match ops[i]? with | some o => still T o.op | none => true) = true)
    (h : opsVC P T N cl ops.toList (pickL ops.toList A) Γ [] [] w.drew fun Γ' Δ' G' w' => opsVC P T N .same ops.toList (pickL ops.toList B) Γ' Δ' G' w' fun Γ'' _ _ w'' => kn Γ'' w'') : SemC P N (.region id ops true) Γ w kn ex rt := by
  unfold SemC
  intro a ha
  simp only [canonOk, Bool.and_eq_true, beq_iff_eq] at hc
  obtain ⟨⟨h1, h2⟩, h3⟩ := hc
  have := opsVC_any (ops := ops.toList) (Q := toQ N kn ex rt) hT h1 B (fun a Γ Δ G w hag hk => ⟨Γ, hag.done, hk⟩) (fun c a w hq => hq) A (Array.replicate ops.size false) Γ [] [] a w.drew h3 (by simp) ha h
    (fun e i hi o hio => by
      have := List.all_eq_true.1 (hs e) i hi
      have hio' : ops[i]? = some o := by simpa using hio
      simpa [hio'] using this)
  rw [h2] at this
  exact wp_region_any hm (wpAny_of_wpT _ _ _ _ this)

/-- Everything that one environment says the other says too. -/
def Sub : Env → Env → Prop
  | [], _ => True
  | (t, v) :: r, Γ => get Γ t = some v ∧ Sub r Γ
theorem Sub.get : ∀ {E Γ : Env}, Sub E Γ → ∀ {t v}, Se.get E t = some v → Se.get Γ t = some v
  | [], _, _, _, _, h => by simp [Se.get] at h
  | (s, u) :: E, Γ, hs, t, v, h => by
    rw [get_cons] at h
    by_cases e : s = t
    · rw [if_pos e] at h
      obtain rfl : u = v := by simpa using h
      rw [← e]; exact hs.1
    · rw [if_neg e] at h; exact Sub.get hs.2 h
theorem Ag.sub {a : Act} {E Γ : Env} (h : Ag N a Γ [] []) (hs : Sub E Γ) : Ag N a E [] [] :=
  ⟨h.defers, h.size, fun t v ht => h.env t v (hs.get ht), fun t q v hl => by simp [lget] at hl, fun t q v hl => by simp [lget] at hl⟩

theorem sem_sub {c : Code} {E Γ : Env} {w : World} {kn : KN} {ex : KE} {rt : KN} (h : SemC P N c E w kn ex rt) (hs : Sub E Γ) : SemC P N c Γ w kn ex rt := by
  unfold SemC at *
  exact fun a ha => h a (ha.sub hs)

theorem loop_rule (hT : TabOk P T) {ι : Type} (I : ι → World → Prop) (E : ι → Env) (μ : ι → Nat) (i0 : ι) {c : Code} {Γ : Env} {w : World} {kn : KN} {ex : KE} {rt : KN} (h0 : I i0 w) (hE : Sub (E i0) Γ)
    (round : ∀ i w, I i w → vc P T N c (E i) w (fun Γ' w' => ∃ i', μ i' < μ i ∧ I i' w' ∧ Sub (E i') Γ') ex rt) : SemC P N (.loop c) Γ w kn ex rt := by
  unfold SemC
  intro a ha
  refine wp_loop_ghost (fun n a w => ∃ i, μ i = n ∧ I i w ∧ Ag N a (E i) [] []) (μ i0) ⟨i0, rfl, h0, ha.sub hE⟩ ?_
  rintro n a w ⟨i, rfl, hI, hag⟩
  have := sem_vc hT c (round i w hI)
  unfold SemC at this
  refine wp_mono (this a hag) fun e a' w' hq => ?_
  cases e with
  | normal =>
    obtain ⟨Γ', hag', i', hlt, hI', hsub⟩ := hq
    exact ⟨μ i', hlt, i', rfl, hI', hag'.sub hsub⟩
  | exit id => exact hq
  | ret => exact hq
  | goto l => exact hq
  | panic c => exact hq
  | outgrown => exact hq

/-- Two pieces of code one behind the other: each way by itself. -/
theorem seq_go (hT : TabOk P T) {x y : Code} {Γ : Env} {w : World} {kn : KN} {ex : KE} {rt : KN} (h : vc P T N x Γ w (fun Γ' w' => vc P T N y Γ' w' kn ex rt) ex rt) : SemC P N (.seq x y) Γ w kn ex rt := by
  have hx' := sem_vc hT x h
  unfold SemC at hx' ⊢
  intro a ha
  refine wp_seq (wp_mono (hx' a ha) fun e a' w' hq => ?_)
  cases e with
  | normal =>
    obtain ⟨Γ', hag', hv⟩ := hq
    have := sem_vc hT y hv
    unfold SemC at this
    exact this a' hag'
  | exit id => exact hq
  | ret => exact hq
  | goto l => exact hq
  | panic c => exact hq
  | outgrown => exact hq

/-- A part of the code by itself: what holds behind it. -/
theorem seq_cut (hT : TabOk P T) {x y : Code} {Γ : Env} {w : World} {kn : KN} {ex : KE} {rt : KN} {ι : Type} (E : ι → Env) (M : ι → World → Prop)
    (hx : vc P T N x Γ w (fun Γ' w' => ∃ i, M i w' ∧ Sub (E i) Γ') ex rt) (hy : ∀ i w', M i w' → vc P T N y (E i) w' kn ex rt) : SemC P N (.seq x y) Γ w kn ex rt := by
  have hx' := sem_vc hT x hx
  unfold SemC at hx' ⊢
  intro a ha
  refine wp_seq (wp_mono (hx' a ha) fun e a' w' hq => ?_)
  cases e with
  | normal =>
    obtain ⟨Γ', hag', i, hM, hsub⟩ := hq
    have := sem_vc hT y (hy i w' hM)
    unfold SemC at this
    exact this a' (hag'.sub hsub)
  | exit id => exact hq
  | ret => exact hq
  | goto l => exact hq
  | panic c => exact hq
  | outgrown => exact hq

/-! ### The body of a function -/
def retsK (T : Tab) : List ResultVar → Env → World → (List Value → Prop) → Prop
  | [], _, _, K => K []
  | .tmp t :: rs, Γ, w, K => match get Γ t with
    | some v => retsK T rs Γ w fun vs => K (v :: vs)
    | none => False
  | .cell t ty :: rs, Γ, w, K => match get Γ t with
    | some (.pointer (some a)) => match tget T ty with
      | some ⟨_, n, true, _⟩ => ∃ cs, (cs.length = n ∧ CellsAt w a cs) ∧ retsK T rs Γ w fun vs => K (.agg cs.toArray :: vs)
      | some ⟨_, _, false, _⟩ => ∃ v, w.cell? a = some v ∧ retsK T rs Γ w fun vs => K (v :: vs)
      | none => False
    | _ => False
def retK (T : Tab) (rs : List ResultVar) (R : Value → World → Prop) (Γ : Env) (w : World) : Prop :=
  retsK T rs Γ w fun vs => match vs with
    | [v] => R v w
    | vs => R (.tuple vs.toArray) w
def argsEnv : List Value → Env
  | [] => []
  | [a] => [(0, a)]
  | [a, b] => [(0, a), (1, b)]
  | [a, b, c] => [(0, a), (1, b), (2, c)]
  | [a, b, c, d] => [(0, a), (1, b), (2, c), (3, d)]
  | [a, b, c, d, e] => [(0, a), (1, b), (2, c), (3, d), (4, e)]
  | [a, b, c, d, e, f] => [(0, a), (1, b), (2, c), (3, d), (4, e), (5, f)]
  | [a, b, c, d, e, f, g] => [(0, a), (1, b), (2, c), (3, d), (4, e), (5, f), (6, g)]
  | [a, b, c, d, e, f, g, h] => [(0, a), (1, b), (2, c), (3, d), (4, e), (5, f), (6, g), (7, h)]
  | _ => []
theorem get_nil (t : Nat) : get [] t = none := rfl
theorem argsEnv_ok (args : List Value) (t : Nat) (v : Value) (h : get (argsEnv args) t = some v) : args[t]? = some v := by
  unfold argsEnv at h
  split at h <;> (simp only [get_cons, get_nil] at h) <;> (repeat' split at h) <;> (first | (cases h; done) | (subst_vars; simpa using h))

def rvS (tmps : Array Value) : ResultVar → Sem Value
  | .tmp t => pure (tmps.getD t undef)
  | .cell a t => do loadVar t (← asAddr (tmps.getD a undef))
theorem rets_ok (hT : TabOk P T) {Γ : Env} {w : World} {a : Act} (ha : Ag N a Γ [] []) : ∀ (rs : List ResultVar) {K : List Value → Prop}, retsK T rs Γ w K →
    ∃ vs, K vs ∧ (rs.mapM (rvS a.tmps)).run P w = .ok vs w
  | [], K, h => ⟨[], h, by simp⟩
  | .tmp t :: rs, K, h => by
    simp only [retsK] at h
    split at h
    · rename_i v hv
      obtain ⟨vs, hK, hr⟩ := rets_ok hT ha rs h
      have := ha.env t v hv
      have h1 : (rvS a.tmps (.tmp t)).run P w = .ok v w := by simp [rvS, Array.getD_eq_getD_getElem?, this]
      exact ⟨v :: vs, hK, by simp [List.mapM_cons, hr, h1]⟩
    · exact h.elim
  | .cell t ty :: rs, K, h => by
    simp only [retsK] at h
    split at h
    · rename_i p hv
      have hval := ha.env t _ hv
      split at h
      · rename_i sh n z hty
        obtain ⟨cs, ⟨hl, hcs⟩, h⟩ := h
        obtain ⟨vs, hK, hr⟩ := rets_ok hT ha rs h
        have hlc := run_loadCells_list (P := P) (w := w) p cs hcs
        rw [hl] at hlc
        have h1 : (rvS a.tmps (.cell t ty)).run P w = .ok (.agg cs.toArray) w := by
          simp [rvS, Array.getD_eq_getD_getElem?, hval, asAddr, loadVar, ty_isAgg (hT.get hty), ty_sizeOf (hT.get hty), hlc]
        exact ⟨_, hK, by simp [List.mapM_cons, hr, h1]⟩
      · rename_i sh n z hty
        obtain ⟨v, hcv, h⟩ := h
        obtain ⟨vs, hK, hr⟩ := rets_ok hT ha rs h
        have h1 : (rvS a.tmps (.cell t ty)).run P w = .ok v w := by
          simp [rvS, Array.getD_eq_getD_getElem?, hval, asAddr, loadVar, ty_isAgg (hT.get hty), hcv]
        exact ⟨_, hK, by simp [List.mapM_cons, hr, h1]⟩
      · exact h.elim
    · exact h.elim
theorem results_eq (fn : Func) (tmps : Array Value) : results fn tmps = (do let vs ← fn.results.mapM (rvS tmps); pure (if h : vs.size = 1 then vs[0] else .tuple vs)) := by
  unfold results
  congr 1

theorem fn_intro (hT : TabOk P T) {f : FuncId} {fn : Func} {body : Code} {args : List Value} {w : World} {R : Value → World → Prop} (hf : P.funcs[f]? = some fn)
    (hn : (fn.name == "runtime.NumGoroutine") = false) (hb : fn.body = some body) (rs : List ResultVar) (hrs : fn.results.toList = rs) (hN : fn.ntmps = N) (hargs : Nat.ble args.length N = true)
    (h : vc P T N body (argsEnv args) w (retK T rs R) [] (retK T rs R)) : Cal P f args w R := by
  have hle : args.length ≤ N := Nat.le_of_ble_eq_true hargs
  refine ⟨⟨fn, hf, hn, by rw [hb]; rfl⟩, calls_of_wp hf hb ?_⟩
  have hs := sem_vc hT body h
  unfold SemC at hs
  have ha : Ag N { tmps := args.toArray ++ Array.replicate (fn.ntmps - args.toArray.size) undef, defers := [] } (argsEnv args) [] [] := by
    refine ⟨rfl, by simp [hN]; omega, fun t v ht => ?_, fun t q v hl => by simp [lget] at hl, fun t q v hl => by simp [lget] at hl⟩
    have := argsEnv_ok args t v ht
    have hlt : t < args.length := (List.getElem?_eq_some_iff.1 this).1
    rw [Array.getElem?_append_left (by simpa using hlt)]
    simpa using this
  refine wp_mono (hs _ ha) fun e a' w' hq => ?_
  have key : ∀ Γ, Ag N a' Γ [] [] → retK T rs R Γ w' → a'.defers = [] ∧ ∃ v, (results fn a'.tmps).run P w' = .ok v w' ∧ ∃ u, Ending.returned v = .returned u ∧ R u w' := by
    intro Γ hag hk
    obtain ⟨vs, hK, hr⟩ := rets_ok hT hag rs hk
    refine ⟨hag.defers, ?_⟩
    have hres : ∃ v, (results fn a'.tmps).run P w' = .ok v w' ∧ R v w' := by
      rw [results_eq, Array.mapM_eq_mapM_toList, hrs]
      simp only [Sem.run_bind, Sem.run_map, hr, Result.andThen_ok, Sem.run_pure]
      match vs, hK with
      | [v], hK => exact ⟨v, by simp, hK⟩
      | [], hK => exact ⟨.tuple #[], by simp, hK⟩
      | u :: v :: l, hK => exact ⟨.tuple (u :: v :: l).toArray, by simp, hK⟩
    obtain ⟨v, hv, hR⟩ := hres
    exact ⟨v, hv, v, rfl, hR⟩
  cases e with
  | normal => obtain ⟨Γ, hag, hk⟩ := hq; exact key Γ hag hk
  | ret => obtain ⟨Γ, hag, hk⟩ := hq; exact key Γ hag hk
  | exit id => obtain ⟨Γ, k, hk, _⟩ := hq; simp [exget] at hk
  | goto l => exact hq.elim
  | panic c => exact hq.elim
  | outgrown => exact hq.elim
end

/-! ### '==' of structs -/
def flOf (P : Program) (t : TypeId) : List (String × Nat × Nat) := (P.fieldsOf t).toList.map fun f => (f.name, f.type, f.offset)
structure StOk (P : Program) (t : TypeId) (fs : List (String × Nat × Nat)) : Prop where
  und : P.underlying t = some (.struct (P.fieldsOf t))
  fields : flOf P t = fs
  guard : P.eqGuardType P.depth t = false
  held : P.stoodInHeld t = false

def eqL (T : Tab) : List (String × Nat × Nat) → List Value → List Value → Option Bool
  | [], _, _ => some true
  | (nm, t, off) :: fs, xs, ys => bif nm == "_" then none else match tget T t with
    | some ⟨.int _, _, _, _⟩ => match nth xs off with
      | some (.int k a) => match nth ys off with
        | some (.int k' b) => bif decide (k = k') then match eqL T fs xs ys with
          | some r => some (decide (a = b) && r)
          | none => none else none
        | _ => none
      | _ => none
    | some ⟨.str, _, _, _⟩ => match nth xs off with
      | some (.string a) => match nth ys off with
        | some (.string b) => match eqL T fs xs ys with
          | some r => some (decide (a = b) && r)
          | none => none
        | _ => none
      | _ => none
    | some ⟨.bool, _, _, _⟩ => match nth xs off with
      | some (.bool a) => match nth ys off with
        | some (.bool b) => match eqL T fs xs ys with
          | some r => some (decide (a = b) && r)
          | none => none
        | _ => none
      | _ => none
    | _ => none
theorem sh_bool {P : Program} {d : TypeDesc} (h : shOf P d = .bool) : d = .bool := by cases d <;> simp [shOf] at h; rfl
theorem part_plain {P : Program} {t : TypeId} {d : TypeDesc} (hd : P.underlying t = some d) (hn : (match d with | .struct _ | .array _ _ => true | _ => false) = false) {xs : List Value} {off : Nat} {v : Value} (h : nth xs off = some v) (w : World) :
    (part t xs.toArray off).run P w = .ok v w := by
  rw [nth_eq] at h
  have : (isAgg t).run P w = .ok false w := by
    unfold isAgg
    simp only [Sem.run_bind, run_underlying hd, Result.andThen_ok]
    cases d <;> simp_all
  simp [part, this, h]
theorem eqL_sound {P : Program} {T : Tab} (hT : TabOk P T) (d : Nat) : ∀ {gs : List Field} {fs : List (String × Nat × Nat)} {xs ys : List Value} {b : Bool}, gs.map (fun f => (f.name, f.type, f.offset)) = fs → eqL T fs xs ys = some b →
    ∀ w, (Op.eqFields (d + 1) xs.toArray ys.toArray gs).run P w = .ok b w
  | [], fs, xs, ys, b, hg, h, w => by
    simp at hg; subst hg
    obtain rfl : true = b := by simpa [eqL] using h
    simp [Op.eqFields]
  | g :: gs, [], xs, ys, b, hg, h, w => by simp at hg
  | g :: gs, (nm, t, off) :: fs, xs, ys, b, hg, h, w => by
    simp only [List.map_cons, List.cons.injEq, Prod.mk.injEq] at hg
    obtain ⟨⟨rfl, rfl, rfl⟩, hg'⟩ := hg
    simp only [eqL] at h
    cases hnm : (g.name == "_") <;> simp only [hnm, cond_true, cond_false] at h
    case true => cases h
    have hnm' : g.name ≠ "_" := by simpa using hnm
    split at h
    · rename_i k0 s1 s2 s3 ht
      obtain ⟨_, d0, _, hd, _, hsh, _⟩ := ty_parts (hT.get ht)
      obtain rfl := sh_int hsh
      split at h
      · rename_i k a ha
        split at h
        · rename_i k' c hc
          by_cases hk : k = k'
          · subst hk
            simp only [decide_true, cond_true] at h
            split at h
            · rename_i r hr
              obtain rfl : (decide (a = c) && r) = b := by simpa using h
              have ih := eqL_sound hT d hg' hr w
              have p1 := part_plain hd rfl ha w
              have p2 := part_plain hd rfl hc w
              have p3 := run_equalIn_int (P := P) w d g.type k k0 a c hd
              simp only [Op.eqFields, if_pos hnm', Sem.run_bind, p1, p2, p3, Result.andThen_ok]
              by_cases e : a = c
              · simp [e, ih]
              · simp [e]
            · cases h
          · simp [hk] at h
        · cases h
      · cases h
    · rename_i s1 s2 s3 ht
      obtain ⟨_, d0, _, hd, _, hsh, _⟩ := ty_parts (hT.get ht)
      obtain rfl := sh_str hsh
      split at h
      · rename_i a ha
        split at h
        · rename_i c hc
          split at h
          · rename_i r hr
            obtain rfl : (decide (a = c) && r) = b := by simpa using h
            have ih := eqL_sound hT d hg' hr w
            have p1 := part_plain hd rfl ha w
            have p2 := part_plain hd rfl hc w
            have p3 := run_equalIn_string (P := P) w d g.type a c hd
            rw [str_eq] at p3
            simp only [Op.eqFields, if_pos hnm', Sem.run_bind, p1, p2, p3, Result.andThen_ok]
            by_cases e : a = c
            · simp [e, ih]
            · simp [e]
          · cases h
        · cases h
      · cases h
    · rename_i s1 s2 s3 ht
      obtain ⟨_, d0, _, hd, _, hsh, _⟩ := ty_parts (hT.get ht)
      obtain rfl := sh_bool hsh
      split at h
      · rename_i a ha
        split at h
        · rename_i c hc
          split at h
          · rename_i r hr
            obtain rfl : (decide (a = c) && r) = b := by simpa using h
            have ih := eqL_sound hT d hg' hr w
            have p1 := part_plain hd rfl ha w
            have p2 := part_plain hd rfl hc w
            have p3 := run_equalIn_bool' (P := P) w d g.type a c hd
            simp only [Op.eqFields, if_pos hnm', Sem.run_bind, p1, p2, p3, Result.andThen_ok]
            by_cases e : a = c
            · simp [e, ih]
            · simp [e]
          · cases h
        · cases h
      · cases h
    · cases h
theorem equal_struct {P : Program} {T : Tab} (hT : TabOk P T) {t : TypeId} {fs : List (String × Nat × Nat)} (hs : StOk P t fs) {xs ys : List Value} {b : Bool} (h : eqL T fs xs ys = some b) (w : World) :
    (Op.equal t (.agg xs.toArray) (.agg ys.toArray)).run P w = .ok b w := by
  have := run_equalIn_struct (P := P) w 9999 t xs.toArray ys.toArray hs.und hs.held
  unfold Op.equal Op.maxDepth
  rw [this]
  exact eqL_sound hT 9998 hs.fields h w
theorem eqRun_struct {P : Program} {T : Tab} (hT : TabOk P T) {t : TypeId} {fs : List (String × Nat × Nat)} (hs : StOk P t fs) {ox oy : Operand} {xs ys : List Value} {b : Bool} (h : eqL T fs xs ys = some b) :
    EqRun P t ox oy (.agg xs.toArray) (.agg ys.toArray) b := by
  intro w
  have h1 := run_eqGuard_agg (P := P) w .eql t ox oy xs.toArray ys.toArray hs.guard
  have h2 := run_eqGuard_agg (P := P) w .neq t ox oy xs.toArray ys.toArray hs.guard
  have h3 := run_eql_struct (P := P) w t xs.toArray ys.toArray
  have h4 := run_neq_struct (P := P) w t xs.toArray ys.toArray
  have h5 := equal_struct hT hs h w
  unfold Op.equal Op.maxDepth at h5
  rw [h5] at h3 h4
  constructor
  · simp only [Sem.run_bind, h1, Result.andThen_ok, h3]
  · simp only [Sem.run_bind, h2, Result.andThen_ok, h4]
end Go.Se
