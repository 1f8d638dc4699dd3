
/- The environment of a walk as a list of slots with their values; the conditions of guarded operations; the table of types. -/
import Derived.OrdersHeld
import Derived.Below
import Derived.Deep.LoopGhost
import Derived.KernelRfl
set_option linter.unusedVariables false
set_option linter.unusedSimpArgs false
namespace Go.Se
open Go.RowKit

abbrev Env := List (Nat × Value)
abbrev SP := List (Nat × Bool)
abbrev Loc := List (Nat × SP × Value)

def nth {α : Type} : List α → Nat → Option α
  | [], _ => none
  | x :: _, 0 => some x
  | _ :: l, n + 1 => nth l n

theorem nth_eq {α : Type} : ∀ (l : List α) (n : Nat), nth l n = l[n]?
  | [], n => by simp [nth]
  | x :: l, 0 => by simp [nth]
  | x :: l, n + 1 => by simp [nth, nth_eq l n]

def get : Env → Nat → Option Value
  | [], _ => none
  | (t, v) :: Γ, s => bif Nat.beq t s then some v else get Γ s

def lget : Loc → Nat → Option (SP × Value)
  | [], _ => none
  | (t, q, v) :: Δ, s => bif Nat.beq t s then some (q, v) else lget Δ s

def look (Γ : Env) (Δ : Loc) (t : Nat) : Option (SP × Value) :=
  match lget Δ t with
  | some r => some r
  | none => match get Γ t with
    | some v => some ([], v)
    | none => none

def cnd (Γ : Env) (Δ : Loc) : SP → Bool
  | [] => true
  | (t, b) :: p => (match look Γ Δ t with | some (_, .bool c) => c == b | _ => false) && cnd Γ Δ p

def Und (Γ : Env) (Δ : Loc) : SP → Prop → Prop
  | [], Φ => Φ
  | (t, b) :: p, Φ => match look Γ Δ t with
    | some (_, .bool c) => c = b → Und Γ Δ p Φ
    | _ => True

def Hol (Γ : Env) (Δ : Loc) : SP → Prop
  | [] => True
  | (t, b) :: p => match look Γ Δ t with
    | some (_, .bool c) => c = b ∧ Hol Γ Δ p
    | _ => False

theorem und_iff (Γ : Env) (Δ : Loc) (Φ : Prop) : ∀ p : SP, Und Γ Δ p Φ ↔ (cnd Γ Δ p = true → Φ)
  | [] => by simp [Und, cnd]
  | (t, b) :: p => by
    have ih := und_iff Γ Δ Φ p
    simp only [Und, cnd]
    split
    · rename_i c _
      rw [ih]
      simp only [Bool.and_eq_true, beq_iff_eq]
      exact ⟨fun h ⟨h1, h2⟩ => h h1 h2, fun h h1 h2 => h ⟨h1, h2⟩⟩
    · rename_i h
      simp

theorem hol_iff (Γ : Env) (Δ : Loc) : ∀ p : SP, Hol Γ Δ p ↔ cnd Γ Δ p = true
  | [] => by simp [Hol, cnd]
  | (t, b) :: p => by
    have ih := hol_iff Γ Δ p
    simp only [Hol, cnd]
    split
    · rw [ih]; simp
    · simp

def speq : SP → SP → Bool
  | [], [] => true
  | (t, b) :: p, (s, c) :: q => bif Nat.beq t s then (bif (b == c) then speq p q else false) else false
  | _, _ => false

theorem speq_eq : ∀ {p q : SP}, speq p q = true → p = q
  | [], [], _ => rfl
  | [], _ :: _, h => by simp [speq] at h
  | _ :: _, [], h => by simp [speq] at h
  | (t, b) :: p, (s, c) :: q, h => by
    simp only [speq] at h
    cases h1 : Nat.beq t s <;> simp only [h1, cond_true, cond_false, Bool.false_eq_true] at h
    cases h2 : (b == c) <;> simp only [h2, cond_true, cond_false, Bool.false_eq_true] at h
    rw [Nat.eq_of_beq_eq_true h1, eq_of_beq h2, speq_eq h]

def suf (q : SP) : SP → Bool
  | [] => match q with | [] => true | _ => false
  | x :: p => bif speq q (x :: p) then true else suf q p

theorem suf_cnd {Γ : Env} {Δ : Loc} {q : SP} : ∀ {p : SP}, suf q p = true → cnd Γ Δ p = true → cnd Γ Δ q = true
  | [], h, _ => by
    cases q with
    | nil => rfl
    | cons x q => simp [suf] at h
  | x :: p, h, hc => by
    simp only [suf] at h
    cases h1 : speq q (x :: p) <;> simp only [h1, cond_true, cond_false] at h
    · obtain ⟨t, b⟩ := x
      simp only [cnd, Bool.and_eq_true] at hc
      exact suf_cnd h hc.2
    · rw [speq_eq h1]; exact hc

def evO (Γ : Env) (Δ : Loc) (p : SP) : Operand → Option Value
  | .tmp t => match look Γ Δ t with
    | some (q, v) => bif suf q p then some v else none
    | none => none
  | .const v => some v
  | .global g => some (.pointer (some ⟨g, 0, none⟩))
  | .func f => some (.func (.func f) #[] #[])

/-- What a state of the machine has of an environment. -/
structure Ag (N : Nat) (a : Act) (Γ : Env) (Δ : Loc) (G : List Nat) : Prop where
  defers : a.defers = []
  size : a.tmps.size = N
  env : ∀ t v, get Γ t = some v → a.tmps[t]? = some v
  loc : ∀ t q v, lget Δ t = some (q, v) → a.tmps[t]? = some (if cnd Γ Δ q = true then v else undef)
  scope : ∀ t q v, lget Δ t = some (q, v) → ∀ x ∈ q, x.1 ∈ G

theorem Ag.look {N : Nat} {a : Act} {Γ : Env} {Δ : Loc} {G : List Nat} (h : Ag N a Γ Δ G) {t : Nat} {q : SP} {v : Value} (hl : Se.look Γ Δ t = some (q, v)) :
    a.tmps[t]? = some (if cnd Γ Δ q = true then v else undef) := by
  unfold Se.look at hl
  cases h1 : lget Δ t with
  | some r =>
    rw [h1] at hl
    obtain rfl : r = (q, v) := by simpa using hl
    exact h.loc t q v h1
  | none =>
    rw [h1] at hl
    cases h2 : get Γ t with
    | none => rw [h2] at hl; simp at hl
    | some u =>
      rw [h2] at hl
      obtain ⟨rfl, rfl⟩ : [] = q ∧ u = v := by simpa using hl
      rw [h.env t u h2]; simp [cnd]

theorem Ag.ev {N : Nat} {a : Act} {Γ : Env} {Δ : Loc} {G : List Nat} (h : Ag N a Γ Δ G) {p : SP} {x : Operand} {v : Value} (he : evO Γ Δ p x = some v) (hc : cnd Γ Δ p = true) :
    a.eval x = v := by
  cases x with
  | tmp t =>
    simp only [evO] at he
    cases hl : Se.look Γ Δ t with
    | none => rw [hl] at he; simp at he
    | some r =>
      obtain ⟨q, u⟩ := r
      rw [hl] at he
      cases hs : suf q p <;> simp [hs] at he
      subst he
      have := h.look hl
      rw [if_pos (suf_cnd hs hc)] at this
      simp [Act.eval, Array.getD_eq_getD_getElem?, this]
  | const u => simpa [evO, Act.eval] using he
  | global g => simpa [evO, Act.eval] using he
  | func f => simpa [evO, Act.eval] using he

theorem get_cons {t s : Nat} {v : Value} {Γ : Env} : get ((t, v) :: Γ) s = if t = s then some v else get Γ s := by
  simp only [get]
  by_cases h : t = s
  · subst h; simp
  · have : Nat.beq t s = false := by rw [← Bool.not_eq_true]; exact fun e => h (Nat.eq_of_beq_eq_true e)
    simp [this, h]
theorem lget_cons {t s : Nat} {q : SP} {v : Value} {Δ : Loc} : lget ((t, q, v) :: Δ) s = if t = s then some (q, v) else lget Δ s := by
  simp only [lget]
  by_cases h : t = s
  · subst h; simp
  · have : Nat.beq t s = false := by rw [← Bool.not_eq_true]; exact fun e => h (Nat.eq_of_beq_eq_true e)
    simp [this, h]

theorem cnd_congr {Γ Γ' : Env} {Δ Δ' : Loc} : ∀ {p : SP}, (∀ x ∈ p, look Γ' Δ' x.1 = look Γ Δ x.1) → cnd Γ' Δ' p = cnd Γ Δ p
  | [], _ => rfl
  | (t, b) :: p, h => by
    simp only [cnd]
    rw [h (t, b) (by simp), cnd_congr (p := p) fun x hx => h x (by simp [hx])]

def memN (d : Nat) : List Nat → Bool
  | [] => false
  | t :: G => bif Nat.beq t d then true else memN d G
theorem memN_iff {d : Nat} : ∀ {G : List Nat}, memN d G = false → d ∉ G
  | [], _ => by simp
  | t :: G, h => by
    simp only [memN] at h
    cases h1 : Nat.beq t d <;> simp only [h1, cond_true, cond_false] at h
    · have : t ≠ d := Nat.ne_of_beq_eq_false h1
      simp only [List.mem_cons, not_or]
      exact ⟨fun e => this e.symm, memN_iff h⟩
    · cases h

def guards (G : List Nat) : SP → List Nat
  | [] => G
  | (t, _) :: p => t :: guards G p
theorem mem_guards {G : List Nat} : ∀ {p : SP} {s : Nat}, s ∈ guards G p ↔ s ∈ G ∨ ∃ x ∈ p, x.1 = s
  | [], s => by simp [guards]
  | (t, b) :: p, s => by
    simp only [guards, List.mem_cons, mem_guards (p := p)]
    constructor
    · rintro (rfl | h | ⟨x, hx, e⟩)
      · exact .inr ⟨(s, b), by simp⟩
      · exact .inl h
      · exact .inr ⟨x, by simp [hx], e⟩
    · rintro (h | ⟨x, rfl | hx, e⟩)
      · exact .inr (.inl h)
      · exact .inl e.symm
      · exact .inr (.inr ⟨x, hx, e⟩)

/-- The value of an operation is laid into its slot. -/
def putK (N : Nat) (p : SP) (dst : Option Nat) (v : Value) (Γ : Env) (Δ : Loc) (G : List Nat) (K : Env → Loc → List Nat → Prop) : Prop :=
  match dst with
  | none => K Γ Δ G
  | some d =>
    bif Nat.blt d N then
      bif memN d (guards G p) then False else
      match p with
      | [] => match lget Δ d with
        | none => K ((d, v) :: Γ) Δ G
        | some _ => False
      | x :: q => match get Γ d with
        | none => K Γ ((d, x :: q, v) :: Δ) (guards G (x :: q))
        | some _ => False
    else False

theorem putK_sound {N : Nat} {p : SP} {dst : Option Nat} {v : Value} {Γ : Env} {Δ : Loc} {G : List Nat} {K : Env → Loc → List Nat → Prop}
    (h : putK N p dst v Γ Δ G K) {a : Act} (ha : Ag N a Γ Δ G) :
    ∃ Γ' Δ' G', K Γ' Δ' G' ∧ Ag N (a.put dst (if cnd Γ Δ p = true then v else undef)) Γ' Δ' G' := by
  unfold putK at h
  cases dst with
  | none => exact ⟨Γ, Δ, G, h, by simpa [Act.put] using ha⟩
  | some d =>
    simp only at h
    cases hN : Nat.blt d N <;> simp only [hN, cond_true, cond_false] at h
    have hd : d < N := Nat.le_of_ble_eq_true hN
    cases hm : memN d (guards G p) <;> simp only [hm, cond_true, cond_false] at h
    have hng := memN_iff hm
    have hget : ∀ (u : Value) (t : Nat), (a.tmps.setIfInBounds d u)[t]? = if d = t then some u else a.tmps[t]? := by
      intro u t
      rw [Array.getElem?_setIfInBounds]
      by_cases e : d = t
      · subst e; rw [if_pos rfl, if_pos (by rw [ha.size]; exact hd), if_pos rfl]
      · simp [e]
    cases p with
    | nil =>
      simp only at h
      cases hl : lget Δ d with
      | some r => rw [hl] at h; exact h.elim
      | none =>
        rw [hl] at h
        have hng' : d ∉ G := by simpa [guards] using hng
        have hlook : ∀ s, s ≠ d → look ((d, v) :: Γ) Δ s = look Γ Δ s := by
          intro s hs
          unfold Se.look
          rw [get_cons, if_neg (fun e => hs e.symm)]
        refine ⟨_, _, _, h, ha.defers, by simp [Act.put, ha.size], ?_, ?_, ha.scope⟩
        · intro t u hu
          rw [get_cons] at hu
          simp only [Act.put, cnd, if_true, hget]
          by_cases e : d = t
          · rw [if_pos e] at hu ⊢; exact hu
          · rw [if_neg e] at hu ⊢; exact ha.env t u hu
        · intro t q u hu
          have hne : d ≠ t := by rintro rfl; rw [hl] at hu; cases hu
          simp only [Act.put, cnd, if_true, hget, if_neg hne]
          rw [cnd_congr fun x hx => hlook x.1 (fun e => hng' (e ▸ ha.scope t q u hu x hx))]
          exact ha.loc t q u hu
    | cons x q =>
      simp only at h
      cases hl : get Γ d with
      | some r => rw [hl] at h; exact h.elim
      | none =>
        rw [hl] at h
        have hlook : ∀ s, s ≠ d → look Γ ((d, x :: q, v) :: Δ) s = look Γ Δ s := by
          intro s hs
          unfold Se.look
          rw [lget_cons, if_neg (fun e => hs e.symm)]
        have hcp : cnd Γ ((d, x :: q, v) :: Δ) (x :: q) = cnd Γ Δ (x :: q) :=
          cnd_congr fun y hy => hlook y.1 (fun e => hng (mem_guards.2 (.inr ⟨y, hy, e⟩)))
        refine ⟨_, _, _, h, ha.defers, by simp [Act.put, ha.size], ?_, ?_, ?_⟩
        · intro t u hu
          have hne : d ≠ t := by rintro rfl; rw [hl] at hu; cases hu
          simp only [Act.put, hget, if_neg hne]
          exact ha.env t u hu
        · intro t r u hu
          rw [lget_cons] at hu
          simp only [Act.put, hget]
          by_cases e : d = t
          · rw [if_pos e] at hu ⊢
            obtain ⟨rfl, rfl⟩ : x :: q = r ∧ v = u := by simpa using hu
            rw [hcp]
          · rw [if_neg e] at hu ⊢
            rw [cnd_congr fun y hy => hlook y.1 (fun e' => hng (mem_guards.2 (.inl (e' ▸ ha.scope t r u hu y hy))))]
            exact ha.loc t r u hu
        · intro t r u hu y hy
          rw [lget_cons] at hu
          by_cases e : d = t
          · rw [if_pos e] at hu
            obtain ⟨rfl, rfl⟩ : x :: q = r ∧ v = u := by simpa using hu
            exact mem_guards.2 (.inr ⟨y, hy, rfl⟩)
          · rw [if_neg e] at hu
            exact mem_guards.2 (.inl (ha.scope t r u hu y hy))

end Go.Se
