/- Several texts in one: Ct, Pl5, Pl6, Pl7, Cu. -/
import Derived.Test.YtoancknoinilaaaGreatDoorGF
import Derived.Test.YtoancknoinilaaaGreatDoorGC
import Derived.Test.YtoancknoinilaaaGreatDoorGH
import Derived.Test.YtoancknoinilaaaGreatDoorGJ
set_option linter.unusedVariables false
set_option linter.unusedSimpArgs false

/- The document's catalog: behind, Things, At (as in the price laws). -/
namespace Go.Proofs.YtoancknoinilaaaGreatDoor
open Go.Se Go.RowKit

theorem stN_cut (row : List St) (t : Int) : (stN row t = 0 ∨ ∃ s, row[stN row t - 1]? = some s ∧ s.at_ ≤ t) ∧ (stN row t = row.length ∨ ∃ s, row[stN row t]? = some s ∧ t < s.at_) ∧ stN row t ≤ row.length := by
  unfold stN
  induction row with
  | nil => simp
  | cons a row ih =>
    rw [List.takeWhile_cons]
    by_cases h : a.at_ ≤ t
    · rw [if_pos (by simpa using h)]
      obtain ⟨i1, i2, i3⟩ := ih
      simp only [List.length_cons]
      generalize (row.takeWhile fun s => decide (s.at_ ≤ t)).length = n at *
      refine ⟨.inr ?_, ?_, by omega⟩
      · rcases i1 with rfl | ⟨s, hs, hle⟩
        · exact ⟨a, by simp, h⟩
        · cases n with
          | zero => exact ⟨a, by simp, h⟩
          | succ n => exact ⟨s, by simpa using hs, hle⟩
      · rcases i2 with h2 | ⟨s, hs, hlt⟩
        · exact .inl (by omega)
        · exact .inr ⟨s, by simpa using hs, hlt⟩
    · rw [if_neg (by simpa using h)]
      exact ⟨.inl rfl, .inr ⟨a, rfl, by omega⟩, by simp⟩
/-! ### A thing, by definition -/
def thQ (name : ByteArray) (t : Int) (e : Ev) : Bool := decide (e.item = name) && decide (e.at_ ≤ t)
def stAll (name : ByteArray) (es : List Ev) : St := es.foldl stStep (stInit name)
theorem stAll_snoc (name : ByteArray) (es : List Ev) (e : Ev) : stAll name (es ++ [e]) = stStep (stAll name es) e := by simp [stAll]
def itOf (name : ByteArray) (es : List Ev) : It := if es.isEmpty then zeroIt else (stAll name es).item
theorem takeWhile_all {row : List St} {t : Int} (h : ∀ s ∈ row, s.at_ ≤ t) : stN row t = row.length := by
  unfold stN
  have : row.takeWhile (fun s => decide (s.at_ ≤ t)) = row := by
    have := List.takeWhile_append_of_pos (l₂ := []) (p := fun s : St => decide (s.at_ ≤ t)) (l₁ := row) (fun s hs => by simpa using h s hs)
    simpa using this
  rw [this]
/-- The state at a tick is what all events up to it make. -/
theorem state_def : ∀ (cs : List Ev), Rise cs → ∀ (name : ByteArray) (t : Int),
    (stN (catRows cs name) t = 0 ↔ cs.filter (thQ name t) = []) ∧ (stN (catRows cs name) t ≠ 0 → (catRows cs name)[stN (catRows cs name) t - 1]? = some (stAll name (cs.filter (thQ name t)))) := by
  refine snoc_ind ?_ ?_
  · intro _ name t
    simp [catRows, stN]
  · intro cs e ih h name t
    have h1 : Rise cs := (List.pairwise_append.1 h).1
    have h2 := (List.pairwise_append.1 h).2.2
    obtain ⟨i1, i2⟩ := ih h1 name t
    obtain ⟨r1, r2⟩ := catRows_rise cs h1 name
    rw [catRows_snoc, List.filter_append]
    unfold catStep updR
    by_cases hn : name = e.item
    · rw [if_pos hn]
      subst hn
      generalize hrow : catRows cs e.item = row at *
      have hle : ∀ s ∈ row, s.at_ ≤ e.at_ := fun s hs => by
        obtain ⟨e', he', h3, _⟩ := r2 s hs
        have := less_at (h2 e' he' e (by simp)); omega
      by_cases ht : e.at_ ≤ t
      · have hq : thQ e.item t e = true := by simp [thQ, ht]
        have hall : ∀ s ∈ row ++ [stNext row e], s.at_ ≤ t := fun s hs => by
          rcases List.mem_append.1 hs with hs | hs
          · have := hle s hs; omega
          · simp at hs; subst hs; unfold stNext; rw [stStep_at]; exact ht
        have hN : stN row t = row.length := takeWhile_all fun s hs => hall s (by simp [hs])
        rw [takeWhile_all hall]
        refine ⟨by simp [List.filter_cons, hq], fun _ => ?_⟩
        simp only [List.filter_cons, hq, if_true, List.filter_nil, stAll_snoc]
        rw [List.length_append, List.length_singleton, Nat.add_sub_cancel, List.getElem?_append_right (Nat.le_refl _), Nat.sub_self]
        unfold stNext
        rw [hN] at i1 i2
        congr 2
        by_cases h0 : row.length = 0
        · have h3 := i1.1 h0
          rw [h3, List.length_eq_zero_iff.1 h0]
          rfl
        · rw [List.getLast?_eq_getElem?, i2 h0]; rfl
      · have hq : thQ e.item t e = false := by simp [thQ, ht]
        have hN : stN (row ++ [stNext row e]) t = stN row t := by
          unfold stN
          rw [List.takeWhile_append]
          split
          · rw [List.takeWhile_cons_of_neg (by unfold stNext; rw [stStep_at]; simpa using ht)]
            simp; omega
          · rfl
        rw [hN]
        simp only [List.filter_cons, hq, Bool.false_eq_true, if_false, List.filter_nil, List.append_nil]
        refine ⟨i1, fun h0 => ?_⟩
        have := (stN_cut row t).2.2
        rw [List.getElem?_append_left (by omega)]
        exact i2 h0
    · rw [if_neg hn]
      have hq : thQ name t e = false := by simp [thQ, Ne.symm hn]
      simp only [List.filter_cons, hq, Bool.false_eq_true, if_false, List.filter_nil, List.append_nil]
      exact ⟨i1, i2⟩
theorem catAt_def {cs : List Ev} (h : Rise cs) (name : ByteArray) (t : Int) : catAt cs name t = (itOf name (cs.filter (thQ name t)), !(cs.filter (thQ name t)).isEmpty) := by
  obtain ⟨h1, h2⟩ := state_def cs h name t
  unfold catAt itOf
  by_cases h0 : stN (catRows cs name) t = 0
  · have h3 := h1.1 h0
    rw [h3, h0]
    cases (catRows cs name)[0 - 1]? <;> rfl
  · have h3 : cs.filter (thQ name t) ≠ [] := fun h => h0 (h1.2 h)
    rw [h2 h0]
    simp only [if_neg h0]
    generalize cs.filter (thQ name t) = F at h3
    cases F with
    | nil => exact absurd rfl h3
    | cons a es => rfl

end Go.Proofs.YtoancknoinilaaaGreatDoor


/- Rising lists into which things are put, each once; sessions, as the document counts them. -/
namespace Go.Proofs.YtoancknoinilaaaGreatDoor
open Go.Se Go.RowKit

/-- A strict order of all things. -/
structure Sto {α : Type} (lt : α → α → Bool) : Prop where
  irrefl : ∀ a, lt a a = false
  trans : ∀ {a b c}, lt a b = true → lt b c = true → lt a c = true
  tri : ∀ {a b}, lt a b = false → lt b a = false → a = b
theorem sto_text : Sto bLt := ⟨bLt_irrefl, bLt_trans, bLt_tri⟩
def SG {α : Type} (lt : α → α → Bool) (l : List α) : Prop := l.Pairwise fun x y => lt x y = true
theorem SG.nodup {α : Type} {lt : α → α → Bool} (O : Sto lt) {l : List α} (h : SG lt l) : l.Nodup := h.imp fun h e => by rw [e, O.irrefl] at h; cases h
theorem sto_asymm {α : Type} {lt : α → α → Bool} (O : Sto lt) {a b : α} (h : lt a b = true) : lt b a = false := by
  cases hb : lt b a with
  | false => rfl
  | true => have := O.trans h hb; rw [O.irrefl] at this; cases this
theorem sg_unique {α : Type} {lt : α → α → Bool} (O : Sto lt) {l m : List α} (h1 : SG lt l) (h2 : SG lt m) (hm : ∀ x, x ∈ l ↔ x ∈ m) : l = m :=
  List.Perm.eq_of_pairwise (le := fun a b => lt b a = false) (fun a b _ _ h1 h2 => O.tri h2 h1) (h1.imp fun h => sto_asymm O h) (h2.imp fun h => sto_asymm O h) (perm_of_subs (h1.nodup O) (h2.nodup O) (fun x hx => (hm x).1 hx) fun x hx => (hm x).2 hx)
section
variable {α : Type} [DecidableEq α] {lt : α → α → Bool}
/-- Put where it belongs, once. -/
def insG (lt : α → α → Bool) (l : List α) (a : α) : List α :=
  if (l.dropWhile fun x => lt x a).head? = some a then l else l.takeWhile (fun x => lt x a) ++ a :: l.dropWhile (fun x => lt x a)
theorem insG_nil (a : α) : insG lt [] a = [a] := by simp [insG]
theorem insG_cons (x : α) (l : List α) (a : α) : insG lt (x :: l) a = if lt x a = true then x :: insG lt l a else if x = a then x :: l else a :: x :: l := by
  unfold insG
  rw [List.takeWhile_cons, List.dropWhile_cons]
  cases h : lt x a with
  | true =>
    simp only [if_true]
    split <;> simp
  | false =>
    simp only [Bool.false_eq_true, if_false, List.head?_cons, Option.some.injEq, List.nil_append]
theorem insG_mem {x a : α} : ∀ {l : List α}, x ∈ insG lt l a ↔ x ∈ l ∨ x = a
  | [] => by rw [insG_nil]; simp
  | y :: l => by
    have ih := insG_mem (x := x) (a := a) (l := l)
    rw [insG_cons]
    split
    · rw [List.mem_cons, ih, List.mem_cons]; exact or_assoc.symm
    · split
      · next h =>
        subst h
        constructor
        · exact .inl
        · rintro (h | rfl)
          · exact h
          · simp
      · rw [List.mem_cons]; exact or_comm
theorem insG_sg (O : Sto lt) {a : α} : ∀ {l : List α}, SG lt l → SG lt (insG lt l a)
  | [], _ => by rw [insG_nil]; exact List.pairwise_singleton _ _
  | y :: l, h => by
    have h' := List.pairwise_cons.1 h
    have ih := insG_sg O (a := a) h'.2
    rw [insG_cons]
    split
    · next hy =>
      refine List.pairwise_cons.2 ⟨fun x hx => ?_, ih⟩
      rcases insG_mem.1 hx with hx | rfl
      · exact h'.1 x hx
      · exact hy
    · next hy =>
      split
      · exact h
      · next hne =>
        have hay : lt a y = true := by
          cases hq : lt a y with
          | true => rfl
          | false => exact absurd (O.tri (by simpa using hy) hq) hne
        refine List.pairwise_cons.2 ⟨fun x hx => ?_, h⟩
        rcases List.mem_cons.1 hx with rfl | hx
        · exact hay
        · exact O.trans hay (h'.1 x hx)
/-- All of a list, put one behind the other. -/
def insAll (lt : α → α → Bool) (l : List α) : List α := l.foldl (insG lt) []
theorem insAll_snoc (l : List α) (a : α) : insAll lt (l ++ [a]) = insG lt (insAll lt l) a := by unfold insAll; rw [List.foldl_append]; rfl
theorem insAll_mem {x : α} : ∀ l : List α, x ∈ insAll lt l ↔ x ∈ l := by
  refine snoc_ind (by simp [insAll]) fun l a ih => ?_
  rw [insAll_snoc, insG_mem, ih, List.mem_append, List.mem_singleton]
theorem insAll_sg (O : Sto lt) : ∀ l : List α, SG lt (insAll lt l) := by
  refine snoc_ind List.Pairwise.nil fun l a ih => ?_
  rw [insAll_snoc]
  exact insG_sg O ih
theorem insG_len (a : α) : ∀ l : List α, (insG lt l a).length ≤ l.length + 1
  | [] => by rw [insG_nil]; simp
  | y :: l => by
    have ih := insG_len a l
    rw [insG_cons]
    split
    · simp; omega
    · split <;> simp
theorem insAll_len : ∀ l : List α, (insAll lt l).length ≤ l.length := by
  refine snoc_ind (by simp [insAll]) fun l a ih => ?_
  rw [insAll_snoc]
  have := insG_len (lt := lt) a (insAll lt l)
  simp; omega
end
theorem sortT_strict {l : List ByteArray} (h : l.Nodup) : SG bLt (sortT l) := by
  have h1 := sortT_srt l
  have h2 : (sortT l).Pairwise (· ≠ ·) := List.nodup_iff_pairwise_ne.1 ((sortT_perm l).nodup_iff.2 h)
  refine (List.Pairwise.and h1 h2).imp ?_
  rintro a b ⟨h3, h4⟩
  cases hc : bLt a b with
  | true => rfl
  | false => exact absurd (bLt_tri hc h3) h4
theorem sortI_strict {l : List Int} (h : l.Nodup) : (sortI l).Pairwise (· < ·) := by
  have h1 := sortI_srt l
  have h2 : (sortI l).Pairwise (· ≠ ·) := List.nodup_iff_pairwise_ne.1 ((sortI_perm l).nodup_iff.2 h)
  refine (List.Pairwise.and h1 h2).imp ?_
  rintro a b ⟨h3, h4⟩
  omega
theorem setT_strict (l : List ByteArray) : SG bLt (setT l) := sortT_strict (dedT_nodup l)
theorem ins_setT (l : List ByteArray) (s : ByteArray) : insG bLt (setT l) s = setT (l ++ [s]) :=
  sg_unique sto_text (insG_sg sto_text (setT_strict l)) (setT_strict _) fun x => by rw [insG_mem, setT_mem, setT_mem, List.mem_append, List.mem_singleton]
theorem setT_setT (l : List ByteArray) : setT (setT l) = setT l := setT_congr fun x => setT_mem
/-! ### Sessions -/
/-- What is added to sessions: a person, a tick, an item. -/
abbrev Ad3 := ByteArray × Int × ByteArray
def adE (e : Ev) : Ad3 := (e.person, e.at_, e.item)
def ahB (a b : Ad3) : Bool := if a.1 = b.1 then (if a.2.1 = b.2.1 then bLt a.2.2 b.2.2 else decide (a.2.1 < b.2.1)) else bLt a.1 b.1
theorem ahB_iff {a b : Ad3} : ahB a b = true ↔ bLt a.1 b.1 = true ∨ (a.1 = b.1 ∧ (a.2.1 < b.2.1 ∨ (a.2.1 = b.2.1 ∧ bLt a.2.2 b.2.2 = true))) := by
  unfold ahB
  by_cases h1 : a.1 = b.1
  · have hi : bLt a.1 b.1 = false := by rw [h1]; exact bLt_irrefl _
    rw [if_pos h1]
    by_cases h2 : a.2.1 = b.2.1
    · rw [if_pos h2]
      constructor
      · intro h; exact .inr ⟨h1, .inr ⟨h2, h⟩⟩
      · rintro (h | ⟨_, h | ⟨_, h⟩⟩)
        · rw [hi] at h; cases h
        · omega
        · exact h
    · rw [if_neg h2, decide_eq_true_eq]
      constructor
      · intro h; exact .inr ⟨h1, .inl h⟩
      · rintro (h | ⟨_, h | ⟨h, _⟩⟩)
        · rw [hi] at h; cases h
        · exact h
        · exact absurd h h2
  · rw [if_neg h1]
    constructor
    · exact .inl
    · rintro (h | ⟨h, _⟩)
      · exact h
      · exact absurd h h1
theorem sto_ah : Sto ahB where
  irrefl a := by unfold ahB; rw [if_pos rfl, if_pos rfl]; exact bLt_irrefl _
  trans := by
    intro a b c h k
    rw [ahB_iff] at *
    rcases h with h | ⟨h, h'⟩ <;> rcases k with k | ⟨k, k'⟩
    · exact .inl (bLt_trans h k)
    · exact .inl (k ▸ h)
    · exact .inl (h ▸ k)
    · refine .inr ⟨h.trans k, ?_⟩
      rcases h' with h' | ⟨h', h2⟩ <;> rcases k' with k' | ⟨k', k2⟩
      · exact .inl (by omega)
      · exact .inl (by omega)
      · exact .inl (by omega)
      · exact .inr ⟨by omega, bLt_trans h2 k2⟩
  tri := by
    intro a b h k
    obtain ⟨a1, a2, a3⟩ := a
    obtain ⟨b1, b2, b3⟩ := b
    rw [← Bool.not_eq_true, ahB_iff] at h k
    simp only at h k
    have e1 : a1 = b1 := bLt_tri (by rw [← Bool.not_eq_true]; exact fun x => h (.inl x)) (by rw [← Bool.not_eq_true]; exact fun x => k (.inl x))
    subst e1
    have e2 : a2 = b2 := by
      rcases Int.lt_trichotomy a2 b2 with x | x | x
      · exact absurd (.inr ⟨rfl, .inl x⟩) h
      · exact x
      · exact absurd (.inr ⟨rfl, .inl x⟩) k
    subst e2
    have e3 : a3 = b3 := bLt_tri (by rw [← Bool.not_eq_true]; exact fun x => h (.inr ⟨rfl, .inr ⟨rfl, x⟩⟩)) (by rw [← Bool.not_eq_true]; exact fun x => k (.inr ⟨rfl, .inr ⟨rfl, x⟩⟩))
    rw [e3]
def tks (ss : Ses) (p : ByteArray) : Ticks := (alook ss p).getD []
theorem tks_addS (s : Ses) (P I : ByteArray) (T : Int) (p : ByteArray) : tks (addS s P T I) p = if p = P then aset (tks s P) T (aset ((alook (tks s P) T).getD []) I true) else tks s p := by
  unfold tks addS
  rw [alook_aset]
  split <;> rfl
theorem aset_key_mem {κ β : Type} [DecidableEq κ] {k x : κ} {v : β} {l : List (κ × β)} : x ∈ (aset l k v).map (·.1) ↔ x ∈ l.map (·.1) ∨ x = k := by
  rw [aset_keys]
  split
  · next h =>
    constructor
    · exact .inl
    · rintro (h1 | rfl)
      · exact h1
      · exact h
  · rw [List.mem_append, List.mem_singleton]
theorem tickAt_aset (m : Ticks) (T t : Int) (x : List (ByteArray × Bool)) : tickAt (aset m T x) t = if t = T then x.map (·.1) else tickAt m t := by
  unfold tickAt
  rw [alook_aset]
  split <;> rfl
/-- What the sessions' map holds. -/
structure SesIs (ss : Ses) (l : List Ev) : Prop where
  keys : ss.Pairwise (fun x y => x.1 ≠ y.1)
  ticks : ∀ p, (tks ss p).Pairwise (fun x y => x.1 ≠ y.1)
  item : ∀ p t i, i ∈ tickAt (tks ss p) t ↔ ∃ e ∈ l, e.person = p ∧ e.at_ = t ∧ e.item = i
  tick : ∀ p t, t ∈ (tks ss p).map (·.1) ↔ ∃ e ∈ l, e.person = p ∧ e.at_ = t
  person : ∀ p, p ∈ ss.map (·.1) ↔ ∃ e ∈ l, e.person = p
theorem ss_is : ∀ l : List Ev, SesIs (ssOf l) l := by
  refine snoc_ind ⟨List.Pairwise.nil, fun p => List.Pairwise.nil, fun p t i => by simp [ssOf, tks, alook, tickAt], fun p t => by simp [ssOf, tks, alook], fun p => by simp [ssOf]⟩ fun l e ih => ?_
  rw [ss_snoc]
  refine ⟨aset_pairwise ih.keys, fun p => ?_, fun p t i => ?_, fun p t => ?_, fun p => ?_⟩
  · rw [tks_addS]
    split
    · exact aset_pairwise (ih.ticks _)
    · exact ih.ticks p
  · rw [tks_addS]
    have hx : (∃ x ∈ l ++ [e], x.person = p ∧ x.at_ = t ∧ x.item = i) ↔ (∃ x ∈ l, x.person = p ∧ x.at_ = t ∧ x.item = i) ∨ (e.person = p ∧ e.at_ = t ∧ e.item = i) := by
      constructor
      · rintro ⟨x, hx, h⟩
        rcases List.mem_append.1 hx with hx | hx
        · exact .inl ⟨x, hx, h⟩
        · rw [List.mem_singleton] at hx; subst hx; exact .inr h
      · rintro (⟨x, hx, h⟩ | h)
        · exact ⟨x, by simp [hx], h⟩
        · exact ⟨e, by simp, h⟩
    rw [hx, ← ih.item]
    by_cases hp : p = e.person
    · subst hp
      rw [if_pos rfl, tickAt_aset]
      by_cases ht : t = e.at_
      · subst ht
        rw [if_pos rfl, aset_key_mem]
        show (i ∈ tickAt (tks (ssOf l) e.person) e.at_ ∨ i = e.item) ↔ _
        constructor
        · rintro (h | h)
          · exact .inl h
          · exact .inr ⟨rfl, rfl, h.symm⟩
        · rintro (h | ⟨_, _, h⟩)
          · exact .inl h
          · exact .inr h.symm
      · rw [if_neg ht]
        constructor
        · exact .inl
        · rintro (h | ⟨_, h, _⟩)
          · exact h
          · exact absurd h.symm ht
    · rw [if_neg hp]
      constructor
      · exact .inl
      · rintro (h | ⟨h, _⟩)
        · exact h
        · exact absurd h.symm hp
  · rw [tks_addS]
    have hx : (∃ x ∈ l ++ [e], x.person = p ∧ x.at_ = t) ↔ (∃ x ∈ l, x.person = p ∧ x.at_ = t) ∨ (e.person = p ∧ e.at_ = t) := by
      constructor
      · rintro ⟨x, hx, h⟩
        rcases List.mem_append.1 hx with hx | hx
        · exact .inl ⟨x, hx, h⟩
        · rw [List.mem_singleton] at hx; subst hx; exact .inr h
      · rintro (⟨x, hx, h⟩ | h)
        · exact ⟨x, by simp [hx], h⟩
        · exact ⟨e, by simp, h⟩
    rw [hx, ← ih.tick]
    by_cases hp : p = e.person
    · subst hp
      rw [if_pos rfl, aset_key_mem]
      constructor
      · rintro (h | h)
        · exact .inl h
        · exact .inr ⟨rfl, h.symm⟩
      · rintro (h | ⟨_, h⟩)
        · exact .inl h
        · exact .inr h.symm
    · rw [if_neg hp]
      constructor
      · exact .inl
      · rintro (h | ⟨h, _⟩)
        · exact h
        · exact absurd h.symm hp
  · show p ∈ (aset _ _ _).map (·.1) ↔ _
    rw [aset_key_mem, ih.person]
    constructor
    · rintro (⟨x, hx, h⟩ | rfl)
      · exact ⟨x, by simp [hx], h⟩
      · exact ⟨e, by simp, rfl⟩
    · rintro ⟨x, hx, h⟩
      rcases List.mem_append.1 hx with hx | hx
      · exact .inl ⟨x, hx, h⟩
      · rw [List.mem_singleton] at hx; subst hx; exact .inr h.symm
/-- All that was added, in order, out of the map. -/
def flatT (p : ByteArray) (k : Ticks) (t : Int) : List Ad3 := (setT (tickAt k t)).map fun i => (p, t, i)
def flatP (ss : Ses) (p : ByteArray) : List Ad3 := (sortI ((tks ss p).map (·.1))).flatMap (flatT p (tks ss p))
def flatS (ss : Ses) : List Ad3 := (sortT (ss.map (·.1))).flatMap (flatP ss)
theorem keysI_nodup {β : Type} {L : List (Int × β)} (h : L.Pairwise (fun x y => x.1 ≠ y.1)) : (L.map (·.1)).Nodup := by
  rw [List.nodup_iff_pairwise_ne, List.pairwise_map]; exact h
theorem flatT_sg (p : ByteArray) (k : Ticks) (t : Int) : SG ahB (flatT p k t) := by
  unfold SG flatT
  rw [List.pairwise_map]
  refine List.Pairwise.imp ?_ (setT_strict (tickAt k t))
  intro a b h
  exact ahB_iff.2 (.inr ⟨rfl, .inr ⟨rfl, h⟩⟩)
theorem flatT_mem {p : ByteArray} {k : Ticks} {t : Int} {x : Ad3} : x ∈ flatT p k t ↔ x.1 = p ∧ x.2.1 = t ∧ x.2.2 ∈ tickAt k t := by
  unfold flatT
  rw [List.mem_map]
  constructor
  · rintro ⟨i, hi, rfl⟩; exact ⟨rfl, rfl, setT_mem.1 hi⟩
  · rintro ⟨h1, h2, h3⟩; exact ⟨x.2.2, setT_mem.2 h3, by rw [← h1, ← h2]⟩
theorem flatP_sg {ss : Ses} {l : List Ev} (h : SesIs ss l) (p : ByteArray) : SG ahB (flatP ss p) := by
  unfold SG flatP
  rw [List.pairwise_flatMap]
  refine ⟨fun t _ => flatT_sg _ _ _, (sortI_strict (keysI_nodup (h.ticks p))).imp fun hlt x hx y hy => ?_⟩
  obtain ⟨x1, x2, _⟩ := flatT_mem.1 hx
  obtain ⟨y1, y2, _⟩ := flatT_mem.1 hy
  exact ahB_iff.2 (.inr ⟨x1.trans y1.symm, .inl (by omega)⟩)
theorem flatP_mem {ss : Ses} {l : List Ev} (h : SesIs ss l) {p : ByteArray} {x : Ad3} : x ∈ flatP ss p ↔ x.1 = p ∧ ∃ e ∈ l, adE e = x := by
  unfold flatP
  rw [List.mem_flatMap]
  constructor
  · rintro ⟨t, _, hx⟩
    obtain ⟨h1, h2, h3⟩ := flatT_mem.1 hx
    obtain ⟨e, he, e1, e2, e3⟩ := (h.item _ _ _).1 h3
    exact ⟨h1, e, he, by unfold adE; rw [e1, e2, e3, ← h1, ← h2]⟩
  · rintro ⟨h1, e, he, rfl⟩
    refine ⟨e.at_, sortI_mem.2 ((h.tick _ _).2 ⟨e, he, h1, rfl⟩), flatT_mem.2 ⟨h1, rfl, (h.item _ _ _).2 ⟨e, he, h1, rfl, rfl⟩⟩⟩
theorem flatS_is (l : List Ev) : flatS (ssOf l) = insAll ahB (l.map adE) := by
  have h := ss_is l
  refine sg_unique sto_ah ?_ (insAll_sg sto_ah _) fun x => ?_
  · unfold SG flatS
    rw [List.pairwise_flatMap]
    refine ⟨fun p _ => flatP_sg h p, (sortT_strict (keys_nodup h.keys)).imp fun hlt x hx y hy => ?_⟩
    have h1 := ((flatP_mem h).1 hx).1
    have h2 := ((flatP_mem h).1 hy).1
    exact ahB_iff.2 (.inl (by rw [h1, h2]; exact hlt))
  · rw [insAll_mem]
    unfold flatS
    rw [List.mem_flatMap, List.mem_map]
    constructor
    · rintro ⟨p, _, hx⟩
      exact ((flatP_mem h).1 hx).2
    · rintro ⟨e, he, rfl⟩
      exact ⟨e.person, sortT_mem.2 ((h.person _).2 ⟨e, he, rfl⟩), (flatP_mem h).2 ⟨rfl, e, he, rfl⟩⟩
/-- One thing more, in the document's sessions. -/
def allStep (gap : Int) (acc : List Sn) (a : Ad3) : List Sn :=
  match acc.getLast? with
  | some g => if g.person = a.1 ∧ a.2.1 - g.to_ ≤ gap then acc.dropLast ++ [⟨a.1, g.from_, a.2.1, insG bLt g.items a.2.2⟩] else acc ++ [⟨a.1, a.2.1, a.2.1, [a.2.2]⟩]
  | none => acc ++ [⟨a.1, a.2.1, a.2.1, [a.2.2]⟩]
theorem allStep_last (gap : Int) (acc : List Sn) (g : Sn) (a : Ad3) : allStep gap (acc ++ [g]) a = if g.person = a.1 ∧ a.2.1 - g.to_ ≤ gap then acc ++ [⟨a.1, g.from_, a.2.1, insG bLt g.items a.2.2⟩] else (acc ++ [g]) ++ [⟨a.1, a.2.1, a.2.1, [a.2.2]⟩] := by
  unfold allStep
  rw [List.getLast?_append, List.getLast?_singleton, Option.some_or, List.dropLast_concat]
def allL (gap : Int) (L : List Ad3) : List Sn := L.foldl (allStep gap) []
theorem all_same (gap : Int) (hg : 0 ≤ gap) (p : ByteArray) (t : Int) : ∀ (its : List ByteArray) (acc : List Sn) (f : Int) (X : List ByteArray), (its.map fun i => ((p, t, i) : Ad3)).foldl (allStep gap) (acc ++ [⟨p, f, t, setT X⟩]) = acc ++ [⟨p, f, t, setT (X ++ its)⟩]
  | [], acc, f, X => by simp
  | i :: its, acc, f, X => by
    have ih := all_same gap hg p t its acc f (X ++ [i])
    rw [List.map_cons, List.foldl_cons, allStep_last, if_pos ⟨rfl, by simp only; omega⟩, ins_setT, ih]
    simp
theorem setT_one (i : ByteArray) : setT [i] = [i] := by simp [setT, dedT, sortT]
/-- All of a tick. -/
theorem all_tick (gap : Int) (hg : 0 ≤ gap) (p : ByteArray) (k : Ticks) (t : Int) (hne : tickAt k t ≠ []) :
    (∀ (acc : List Sn), (∀ g, acc.getLast? = some g → g.person ≠ p ∨ gap < t - g.to_) → (flatT p k t).foldl (allStep gap) acc = acc ++ [⟨p, t, t, setT (tickAt k t)⟩]) ∧
    (∀ (acc : List Sn) (f u : Int) (X : List ByteArray), t - u ≤ gap → (flatT p k t).foldl (allStep gap) (acc ++ [⟨p, f, u, setT X⟩]) = acc ++ [⟨p, f, t, setT (X ++ tickAt k t)⟩]) := by
  have hex : setT (tickAt k t) ≠ [] := by
    intro h
    cases hq : tickAt k t with
    | nil => exact hne hq
    | cons y l =>
      have : y ∈ setT (tickAt k t) := setT_mem.2 (by rw [hq]; simp)
      rw [h] at this
      simp at this
  unfold flatT
  cases hs : setT (tickAt k t) with
  | nil => exact absurd hs hex
  | cons i its =>
    have hss : setT (i :: its) = setT (tickAt k t) := by rw [← hs, setT_setT]
    refine ⟨fun acc hacc => ?_, fun acc f u X hu => ?_⟩
    · have h1 : allStep gap acc (p, t, i) = acc ++ [⟨p, t, t, setT [i]⟩] := by
        unfold allStep
        rw [setT_one]
        cases hl : acc.getLast? with
        | none => rfl
        | some g =>
          simp only
          rw [if_neg]
          rintro ⟨h2, h3⟩
          rcases hacc g hl with h | h
          · exact h h2
          · have h3 : t - g.to_ ≤ gap := h3
            omega
      rw [List.map_cons, List.foldl_cons, h1, all_same gap hg]
      rw [show [i] ++ its = i :: its from rfl, hss, hs]
    · rw [List.map_cons, List.foldl_cons, allStep_last, if_pos ⟨rfl, hu⟩, ins_setT, all_same gap hg]
      have : setT (X ++ [i] ++ its) = setT (X ++ tickAt k t) := setT_congr fun x => by
        have hx : x ∈ i :: its ↔ x ∈ tickAt k t := by rw [← hs]; exact setT_mem
        have h4 : x ∈ X ++ [i] ++ its ↔ x ∈ X ∨ x ∈ i :: its := by simp [or_assoc]
        rw [h4, hx, List.mem_append]
      rw [this]
/-- All of a person. -/
theorem all_person (gap : Int) (hg : 0 ≤ gap) (p : ByteArray) (k : Ticks) (acc : List Sn) (hacc : ∀ g, acc.getLast? = some g → g.person ≠ p) : ∀ ts : List Int, (∀ t ∈ ts, tickAt k t ≠ []) → (ts.flatMap (flatT p k)).foldl (allStep gap) acc = acc ++ (grpsL gap k ts).map (snOf p) := by
  refine snoc_ind (fun _ => by simp [grpsL]) fun ts t ih h => ?_
  have ih := ih fun x hx => h x (by simp [hx])
  obtain ⟨hA, hB⟩ := all_tick gap hg p k t (h t (by simp))
  rw [List.flatMap_append, List.foldl_append, ih, grpsL_snoc]
  simp only [List.flatMap_cons, List.flatMap_nil, List.append_nil]
  generalize grpsL gap k ts = G
  clear ih
  unfold grpStep
  cases hG : G.getLast? with
  | none =>
    have : G = [] := by simpa using hG
    subst this
    simp only [List.map_nil, List.append_nil, List.map_cons]
    rw [hA acc fun g hl => .inl (hacc g hl)]
    rfl
  | some g =>
    obtain ⟨G', rfl⟩ : ∃ G', G = G' ++ [g] := by
      have := List.getLast?_eq_some_iff.1 hG
      obtain ⟨ys, h⟩ := this
      exact ⟨ys, h⟩
    simp only [List.dropLast_concat]
    by_cases hc : gap < t - g.2.1
    · rw [if_pos hc, hA _ fun g' hl => ?_]
      · simp [snOf]
      · rw [List.map_append, ← List.append_assoc, List.map_cons, List.map_nil, List.getLast?_append, List.getLast?_singleton, Option.some_or] at hl
        injection hl with hl
        subst hl
        exact .inr hc
    · rw [if_neg hc, List.map_append, ← List.append_assoc, List.map_cons, List.map_nil]
      rw [show snOf p g = ⟨p, g.1, g.2.1, setT g.2.2⟩ from rfl, hB _ _ _ _ (by omega), List.map_append, List.append_assoc]
      rfl
theorem sn_person {gap : Int} {ss : Ses} {p : ByteArray} {x : Sn} (h : x ∈ snsOf gap ss p) : x.person = p := by
  unfold snsOf at h
  obtain ⟨g, _, rfl⟩ := List.mem_map.1 h
  rfl
theorem all_people (gap : Int) (hg : 0 ≤ gap) (ss : Ses) (hne : ∀ p t, t ∈ (tks ss p).map (·.1) → tickAt (tks ss p) t ≠ []) : ∀ (ps : List ByteArray) (acc : List Sn), ps.Nodup → (∀ g, acc.getLast? = some g → g.person ∉ ps) → (ps.flatMap (flatP ss)).foldl (allStep gap) acc = acc ++ ps.flatMap (snsOf gap ss)
  | [], acc, _, _ => by simp
  | p :: ps, acc, hn, hl => by
    rw [List.nodup_cons] at hn
    rw [List.flatMap_cons, List.foldl_append, List.flatMap_cons]
    have h1 : (flatP ss p).foldl (allStep gap) acc = acc ++ snsOf gap ss p := all_person gap hg p (tks ss p) acc (fun g hg he => hl g hg (by rw [he]; simp)) _ fun t ht => hne p t (sortI_mem.1 ht)
    rw [h1, all_people gap hg ss hne ps _ hn.2 ?_, List.append_assoc]
    intro g hgl
    rw [List.getLast?_append] at hgl
    cases hq : (snsOf gap ss p).getLast? with
    | none =>
      rw [hq, Option.none_or] at hgl
      exact fun hm => hl g hgl (by simp [hm])
    | some x =>
      rw [hq, Option.some_or] at hgl
      injection hgl with hgl
      subst hgl
      rw [sn_person (List.mem_of_getLast? hq)]
      exact hn.1
/-- The document's sessions are the map's. -/
theorem sns_all (gap : Int) (hg : 0 ≤ gap) (l : List Ev) : allL gap (insAll ahB (l.map adE)) = snsAll gap (ssOf l) := by
  have h := ss_is l
  rw [← flatS_is]
  unfold allL flatS snsAll
  rw [all_people gap hg (ssOf l) (fun p t ht hne => ?_) _ [] ((sortT_perm _).nodup_iff.2 (keys_nodup h.keys)) (by simp), List.nil_append]
  obtain ⟨e, he, e1, e2⟩ := (h.tick p t).1 ht
  have := (h.item p t e.item).2 ⟨e, he, e1, e2, rfl⟩
  rw [hne] at this
  simp at this
end Go.Proofs.YtoancknoinilaaaGreatDoor


/- What the score's reference tells, in plain words. -/
namespace Go.Proofs.YtoancknoinilaaaGreatDoor
open Go.Se Go.RowKit

/-! ### Weights by halving -/
theorem weight_neg {age half : Int} (h : age < 0) : weightF age half = 0 := by unfold weightF; rw [if_pos h]
/-! ### Tags of things -/
theorem rest_semi (r : ByteArray) : restOf (semi r) = r := by
  have hl : (semi r).data.toList = 59 :: r.data.toList := by unfold semi; simp
  have hp : placeN (semi r) = some 0 := by unfold placeN; rw [hl]; rfl
  unfold restOf
  rw [hp]
  simp only
  apply ba_list
  have h2 : ∀ s : ByteArray, s.toList = s.data.toList := fun s => by rw [ByteArray.toList_eq]
  rw [h2, h2, extract_list, hl]
  have : (semi r).size = r.size + 1 := by
    have := congrArg List.length hl
    simpa using this
  rw [this]
  simp
  exact List.take_of_length_le (by simp)
theorem tags_semi (s : ByteArray) : tagsOf (semi (restOf s)) = tagsOf s := by rw [rest_tags, rest_semi, rest_tags s]
theorem tags_semi0 : tagsOf (semi ⟨#[]⟩) = [] := by rw [rest_tags, rest_semi, if_pos rfl]
/-- Tags that are names, rising, at most 8. -/
def TgOk (l : List ByteArray) : Prop := (∀ t ∈ l, isName t = true) ∧ SG bLt l ∧ l.length ≤ 8
theorem tgOk_of {l : List ByteArray} (h : tagsOk l = true) (h8 : l.length ≤ 8) : TgOk l := by
  unfold tagsOk at h
  rw [List.all_eq_true] at h
  have hk : ∀ i (hi : i < l.length), isName l[i] = true ∧ (i = 0 ∨ bLt (l.getD (i - 1) .empty) l[i] = true) := fun i hi => by
    have := h i (List.mem_range.2 hi)
    unfold tagOk at this
    rw [getD_lt hi] at this
    simpa using this
  refine ⟨fun t ht => ?_, ?_, h8⟩
  · obtain ⟨i, hi, rfl⟩ := List.getElem_of_mem ht
    exact (hk i hi).1
  · have hs : ∀ d i (hi : i + d + 1 < l.length), bLt (l[i]'(by omega)) (l[i + d + 1]'hi) = true := by
      intro d
      induction d with
      | zero =>
        intro i hi
        have := (hk (i + 1) hi).2
        rw [Nat.add_sub_cancel, getD_lt (by omega)] at this
        rcases this with h | h
        · omega
        · exact h
      | succ d ih =>
        intro i hi
        have h1 := ih i (by omega)
        have := (hk (i + (d + 1) + 1) hi).2
        rw [show i + (d + 1) + 1 - 1 = i + d + 1 by omega, getD_lt (by omega)] at this
        rcases this with h | h
        · omega
        · exact bLt_trans h1 h
    unfold SG
    rw [List.pairwise_iff_getElem]
    intro i j hi hj hij
    have := hs (j - i - 1) i (by omega)
    have e : i + (j - i - 1) + 1 = j := by omega
    simp only [e] at this
    exact this
theorem st_tags (name : ByteArray) : ∀ es : List Ev, (∀ e ∈ es, mayB e = true) → TgOk (tagsOf (semi (stAll name es).item.tags)) := by
  refine snoc_ind (fun _ => ?_) fun es e ih h => ?_
  · show TgOk (tagsOf (semi ⟨#[]⟩))
    rw [tags_semi0]
    exact ⟨by simp, List.Pairwise.nil, by simp⟩
  · have ih := ih fun x hx => h x (by simp [hx])
    have he := h e (by simp)
    rw [stAll_snoc]
    unfold stStep
    split
    · next hk =>
      show TgOk (tagsOf (semi (restOf e.text)))
      rw [tags_semi]
      have hl : labelB e.text = true := by
        rcases kind_cases (may_iff.1 he).kind with hq | hq | hq | hq | hq | hq | hq
        all_goals first | (exfalso; omega) | exact hq.2.2.2.1
      unfold labelB at hl
      simp only [Bool.and_eq_true] at hl
      exact tgOk_of hl.2.1 (by simpa using hl.2.2)
    · split
      · exact ih
      · exact ih
theorem it_tags (name : ByteArray) (es : List Ev) (h : ∀ e ∈ es, mayB e = true) : TgOk (tagsOf (semi (itOf name es).tags)) := by
  unfold itOf
  split
  · show TgOk (tagsOf (semi ⟨#[]⟩))
    rw [tags_semi0]
    exact ⟨by simp, List.Pairwise.nil, by simp⟩
  · exact st_tags name es h
/-! ### The rows of the crowd -/
def tagsR (cs : List Ev) (e : Ev) : List ByteArray := if e.item = ⟨#[]⟩ then [] else tagsOf (semi (itOf e.item (cs.filter (thQ e.item e.at_))).tags)
def rowsS (z : List Ev) : List Ev × List Row := z.foldl (fun s e => (s.1 ++ [e], s.2 ++ if peB e = true then [(e, tagsR (thingsE s.1) e)] else [])) ([], [])
def rowsR (z : List Ev) : List Row := (rowsS z).2
theorem rowsS_1 : ∀ z : List Ev, (rowsS z).1 = z := by
  refine snoc_ind rfl fun z e ih => ?_
  unfold rowsS at *
  rw [List.foldl_append]
  simp only [List.foldl_cons, List.foldl_nil]
  rw [ih]
theorem rowsR_snoc (z : List Ev) (e : Ev) : rowsR (z ++ [e]) = rowsR z ++ if peB e = true then [(e, tagsR (thingsE z) e)] else [] := by
  have h := rowsS_1 z
  unfold rowsR rowsS at *
  rw [List.foldl_append]
  simp only [List.foldl_cons, List.foldl_nil]
  rw [h]
theorem rowsR_evs (z : List Ev) : (rowsR z).map (·.1) = peopleE z := by
  induction z using snoc_ind with
  | h0 => rfl
  | h1 z e ih =>
    rw [rowsR_snoc]
    unfold peopleE at *
    rw [List.filter_append, List.map_append, ih]
    cases h : peB e <;> simp [h]
theorem tagStep_mem {l : List ByteArray} {t x : ByteArray} : x ∈ tagStep l t ↔ x ∈ l ∨ (x = t ∧ isName t = true) := by
  unfold tagStep
  split
  · next h =>
    rw [List.mem_append, List.mem_singleton]
    have hn : isName t = true := by simp at h; exact h.1
    simp [hn]
  · next h =>
    constructor
    · exact .inl
    · rintro (h1 | ⟨rfl, h2⟩)
      · exact h1
      · rw [h2, Bool.true_and, Bool.not_eq_true, Bool.not_eq_false', Lib.containsS_iff] at h
        exact h
theorem tagsD_mem {x : ByteArray} (tg : List ByteArray) : x ∈ tagsD tg ↔ x ∈ tg ∧ isName x = true := by
  have : ∀ (tg l : List ByteArray), x ∈ tg.foldl tagStep l ↔ x ∈ l ∨ (x ∈ tg ∧ isName x = true) := by
    intro tg
    induction tg with
    | nil => intro l; simp
    | cons t tg ih =>
      intro l
      rw [List.foldl_cons, ih, tagStep_mem, List.mem_cons]
      constructor
      · rintro ((h | ⟨rfl, h⟩) | ⟨h1, h2⟩)
        · exact .inl h
        · exact .inr ⟨.inl rfl, h⟩
        · exact .inr ⟨.inr h1, h2⟩
      · rintro (h | ⟨rfl | h1, h2⟩)
        · exact .inl (.inl h)
        · exact .inl (.inr ⟨rfl, h2⟩)
        · exact .inr ⟨h1, h2⟩
  unfold tagsD
  rw [this]
  simp
theorem tagsD_nodup (tg : List ByteArray) : (tagsD tg).Nodup := by
  have : ∀ (tg l : List ByteArray), l.Nodup → (tg.foldl tagStep l).Nodup := by
    intro tg
    induction tg with
    | nil => intro l h; exact h
    | cons t tg ih =>
      intro l h
      rw [List.foldl_cons]
      refine ih _ ?_
      unfold tagStep
      split
      · next hc =>
        have hn : t ∉ l := by
          intro hm
          have := (Lib.containsS_iff _ _).2 hm
          rw [this] at hc
          simp at hc
        rw [List.nodup_append]
        refine ⟨h, by simp, ?_⟩
        intro a ha b hb
        rw [List.mem_singleton] at hb
        subst hb
        exact fun e => hn (e ▸ ha)
      · exact h
  exact this tg [] List.nodup_nil
theorem thing_may {z : List Ev} (h : ∀ e ∈ z, mayB e = true) : ∀ e ∈ thingsE z, mayB e = true := fun e he => h e (List.mem_filter.1 he).1
theorem thing_rise {z : List Ev} (h : Rise z) : Rise (thingsE z) := h.sublist List.filter_sublist
theorem tags_same {cs : List Ev} (hr : Rise cs) (hm : ∀ e ∈ cs, mayB e = true) (ht : ∀ e ∈ cs, thB e = true) (e : Ev) (x : ByteArray) : x ∈ tagsD (tagsAt cs e) ↔ x ∈ tagsR cs e := by
  have hsub : ∀ y ∈ cs.filter (thQ e.item e.at_), mayB y = true := fun y hy => hm y (List.mem_filter.1 hy).1
  have htg := it_tags e.item (cs.filter (thQ e.item e.at_)) hsub
  rw [tagsD_mem]
  unfold tagsAt tagsR
  rw [catAt_def hr]
  simp only
  by_cases h0 : cs.filter (thQ e.item e.at_) = []
  · rw [h0]
    simp only [List.isEmpty_nil, Bool.not_true, Bool.false_eq_true, if_false, List.not_mem_nil, false_and]
    have : tagsOf (semi (itOf e.item []).tags) = [] := tags_semi0
    rw [this]
    simp
  · have h1 : (cs.filter (thQ e.item e.at_)).isEmpty = false := by simpa using h0
    rw [h1]
    simp only [Bool.not_false, if_true]
    have h2 : e.item ≠ ⟨#[]⟩ := by
      intro hi
      cases hq : cs.filter (thQ e.item e.at_) with
      | nil => exact h0 hq
      | cons y l =>
        have hy : y ∈ cs.filter (thQ e.item e.at_) := by rw [hq]; simp
        have hyc := List.mem_filter.1 hy
        have hyi : y.item = e.item := by
          have := hyc.2
          unfold thQ at this
          simp at this
          exact this.1
        have hyn : isName y.item = true := by
          have hk := ht y hyc.1
          unfold thB at hk
          simp only [decide_eq_true_eq] at hk
          rcases kind_cases (may_iff.1 (hm y hyc.1)).kind with hq | hq | hq | hq | hq | hq | hq
          all_goals first | (exfalso; omega) | exact hq.2.2.1
        rw [hyi, hi] at hyn
        exact absurd hyn (by decide)
    rw [if_neg h2]
    constructor
    · exact fun h => h.1
    · exact fun h => ⟨h, htg.1 x h⟩
/-- What a tag adds up to, over the document's rows. -/
def tstE (half now : Int) (R : List Row) (t : ByteArray) : Int := ((R.filter fun r => decide (t ∈ r.2)).map fun r => tstN half now r.1).sum
theorem tstE_snoc (half now : Int) (R : List Row) (r : Row) (t : ByteArray) : tstE half now (R ++ [r]) t = tstE half now R t + if t ∈ r.2 then tstN half now r.1 else 0 := by
  unfold tstE
  rw [List.filter_append, List.map_append, List.sum_append]
  by_cases h : t ∈ r.2 <;> simp [h]
theorem rowsOf_snoc (R : List Row) (r : Row) (person : ByteArray) : rowsOf (R ++ [r]) person = rowsOf R person ++ if r.1.person = person then [r] else [] := by
  unfold rowsOf
  rw [List.filter_append]
  by_cases h : r.1.person = person <;> simp [h]
theorem count_rs (width : Int) (z : List Ev) (e : Ev) : (countAll width (z ++ [e])).rs = (countAll width z).rs ++ if peB e = true then [(e, tagsD (tagsAt (thingsE z) e))] else [] := by
  have hc := (count_parts width z).1
  rw [countAll_snoc]
  unfold countW peB thB
  by_cases h1 : e.kind = 11 ∨ e.kind = 12 ∨ e.kind = 13
  · simp [h1]
  · rw [if_neg h1]
    by_cases h2 : e.kind = 14
    · simp [h2]
    · rw [if_neg h2, ← hc]
      simp only [h1, h2, decide_false, Bool.not_false, Bool.and_self, if_true]
      split <;> rfl
theorem tst_same (width half now : Int) (person t : ByteArray) : ∀ z : List Ev, Rise z → (∀ e ∈ z, mayB e = true) → tstS half now (rowsOf (countAll width z).rs person) t = tstE half now (rowsOf (rowsR z) person) t := by
  refine snoc_ind (fun _ _ => by simp [countAll, Cts0, rowsOf, tstS, tstE, rowsR, rowsS]) fun z e ih hr hm => ?_
  have hr1 : Rise z := (List.pairwise_append.1 hr).1
  have hm1 : ∀ x ∈ z, mayB x = true := fun x hx => hm x (by simp [hx])
  have ih := ih hr1 hm1
  rw [count_rs, rowsR_snoc]
  cases hp : peB e with
  | false => simpa using ih
  | true =>
    rw [if_pos rfl, if_pos rfl, rowsOf_snoc, rowsOf_snoc]
    simp only
    by_cases hq : e.person = person
    · rw [if_pos hq, if_pos hq, tstE_snoc, ← ih]
      have hs := tags_same (thing_rise hr1) (thing_may hm1) (fun x hx => (List.mem_filter.1 hx).2) e t
      unfold tstS
      rw [List.filter_append, List.map_append, List.sum_append]
      congr 1
      by_cases h1 : t ∈ tagsR (thingsE z) e
      · rw [if_pos h1]
        by_cases h2 : e.at_ ≤ now
        · simp [h2, hs.2 h1]
        · have : tstN half now e = 0 := by
            unfold tstN
            rw [weight_neg (by omega)]
            simp
          simp [h2, this]
      · rw [if_neg h1]
        have h3 : ¬ t ∈ tagsD (tagsAt (thingsE z) e) := fun h => h1 (hs.1 h)
        simp [h3]
    · rw [if_neg hq, if_neg hq, List.append_nil, List.append_nil, ih]
theorem count_rs_ok (width : Int) : ∀ z : List Ev, Rise z → (∀ e ∈ z, mayB e = true) → ∀ r ∈ (countAll width z).rs, mayB r.1 = true ∧ r.2.Nodup ∧ r.2.length ≤ 8 := by
  refine snoc_ind (fun _ _ r hr => by simp [countAll, Cts0] at hr) fun z e ih hR hm => ?_
  have hr1 : Rise z := (List.pairwise_append.1 hR).1
  have hm1 : ∀ x ∈ z, mayB x = true := fun x hx => hm x (by simp [hx])
  have ih := ih hr1 hm1
  rw [count_rs]
  intro r hr
  rcases List.mem_append.1 hr with hr | hr
  · exact ih r hr
  · split at hr
    · rw [List.mem_singleton] at hr
      subst hr
      refine ⟨hm e (by simp), tagsD_nodup _, Nat.le_trans (tagsD_len _) ?_⟩
      unfold tagsAt
      split
      · rw [catAt_def (thing_rise hr1)]
        exact (it_tags e.item _ fun y hy => thing_may hm1 y (List.mem_filter.1 hy).1).2.2
      · simp
    · simp at hr
/-! ### Sums over tags -/
def tasteV (f : ByteArray → Int) (tags : List ByteArray) : Int := (tags.map f).sum
theorem sum_ite (x : ByteArray) (n : Int) : ∀ tags : List ByteArray, tags.Nodup → (tags.map fun t => if t = x then n else 0).sum = if x ∈ tags then n else 0
  | [], _ => by simp
  | a :: tags, h => by
    rw [List.nodup_cons] at h
    have ih := sum_ite x n tags h.2
    rw [List.map_cons, List.sum_cons, ih]
    by_cases hx : a = x
    · subst hx
      rw [if_pos rfl, if_neg h.1, if_pos (by simp)]; omega
    · rw [if_neg hx]
      by_cases h2 : x ∈ tags
      · rw [if_pos h2, if_pos (by simp [h2])]; omega
      · rw [if_neg h2, if_neg (by simp [h2]; exact fun e => hx e.symm)]; omega
theorem sum_add {α : Type} (f g : α → Int) : ∀ l : List α, (l.map fun x => f x + g x).sum = (l.map f).sum + (l.map g).sum
  | [] => rfl
  | x :: l => by
    have := sum_add f g l
    simp only [List.map_cons, List.sum_cons]
    omega
theorem sum_keys {tags : List ByteArray} (ht : tags.Nodup) : ∀ L : List (ByteArray × Int), L.Pairwise (fun x y => x.1 ≠ y.1) → ((L.filter fun x => decide (x.1 ∈ tags)).map (·.2)).sum = (tags.map fun t => (alook L t).getD 0).sum
  | [], _ => by
    have : (tags.map fun t => (alook ([] : List (ByteArray × Int)) t).getD 0).sum = 0 := sum_map_zero _ fun x _ => rfl
    rw [this]; rfl
  | x :: L, h => by
    rw [List.pairwise_cons] at h
    have ih := sum_keys ht L h.2
    have h0 : alook L x.1 = none := alook_none.2 fun y hy e => h.1 y hy e.symm
    have hs : (tags.map fun t => (alook (x :: L) t).getD 0) = tags.map fun t => (if t = x.1 then x.2 else 0) + (alook L t).getD 0 := by
      apply List.map_congr_left
      intro t _
      rw [alook_cons]
      by_cases hx : t = x.1
      · rw [if_pos hx, if_pos hx, hx, h0]; simp
      · rw [if_neg hx, if_neg hx]; omega
    rw [hs, sum_add, sum_ite _ _ _ ht, ← ih, List.filter_cons]
    by_cases hx : x.1 ∈ tags
    · rw [if_pos (by simp [hx]), if_pos hx, List.map_cons, List.sum_cons]
    · rw [if_neg (by simp [hx]), if_neg hx]; omega
theorem alook_filter {L : List (ByteArray × Int)} (h : L.Pairwise (fun x y => x.1 ≠ y.1)) (hp : ∀ t, 0 ≤ (alook L t).getD 0) (t : ByteArray) : (alook (L.filter fun x => decide (0 < x.2)) t).getD 0 = (alook L t).getD 0 := by
  induction L with
  | nil => rfl
  | cons x L ih =>
    rw [List.pairwise_cons] at h
    have h0 : alook L x.1 = none := alook_none.2 fun y hy e => h.1 y hy e.symm
    have hp' : ∀ t, 0 ≤ (alook L t).getD 0 := fun t => by
      by_cases hx : t = x.1
      · rw [hx, h0]; simp
      · have := hp t
        rw [alook_cons, if_neg hx] at this
        exact this
    have ih := ih h.2 hp'
    have hx0 : 0 ≤ x.2 := by
      have := hp x.1
      rw [alook_cons, if_pos rfl] at this
      exact this
    rw [List.filter_cons]
    by_cases h1 : 0 < x.2
    · rw [if_pos (by simpa using h1), alook_cons, alook_cons]
      split
      · rfl
      · exact ih
    · rw [if_neg (by simpa using h1), ih, alook_cons]
      split
      · next hx =>
        rw [hx, h0]
        simp
        omega
      · rfl
/-- The program's sum over the tags of a thing. -/
theorem taste_sum {half now : Int} {rows : List Row} (hr : ∀ r ∈ rows, mayB r.1 = true ∧ r.2.Nodup) (hl : rows.length < 1000000) {tags : List ByteArray} (ht : tags.Nodup) {F : List (ByteArray × Int)} (hF : F.Perm (tstL half now rows)) :
    ((F.filter fun x => decide (x.1 ∈ tags)).map (·.2)).sum = tasteV (tstS half now rows) tags := by
  rw [perm_sum ((hF.filter _).map _)]
  have hk := tstM_keys half now rows
  have hk2 : (tstL half now rows).Pairwise (fun x y => x.1 ≠ y.1) := hk.sublist List.filter_sublist
  rw [sum_keys ht _ hk2]
  unfold tasteV
  congr 1
  apply List.map_congr_left
  intro t _
  have hg := fun t => tst_get half now t rows hr hl
  unfold tstL
  rw [alook_filter hk fun t => by rw [(hg t).1]; exact (hg t).2.1]
  exact (hg t).1
/-! ### The nearest -/
/-! ### What rises -/
def riseV (c : Cfg) (fresh old : Int) : Int := if fresh = 0 ∨ fresh < c.floor then 0 else min (fresh * 1048576 / (old + 1)) 1099511627776
end Go.Proofs.YtoancknoinilaaaGreatDoor


/- The raw points of a score, in plain words; somebody new; what comes. -/
namespace Go.Proofs.YtoancknoinilaaaGreatDoor
open Go.Se Go.RowKit

def itAt (z : List Ev) (item : ByteArray) (now : Int) : It := itOf item ((thingsE z).filter (thQ item now))
/-- Where the pane of a now begins. -/
def paneB (c : Cfg) (now : Int) : Int := now - now.tmod (halfN c.width)
/-- The raw points of a part. -/
def rawG (c : Cfg) (z : List Ev) (person item : ByteArray) (now : Int) (k : Nat) : Int :=
  if k = 0 then min (popE (z.filter wpB) (halfN c.half) item now) 1099511627776
  else if k = 1 then (if (itAt z item now).listed = true then min (tasteV (tstE (halfN c.half) now (rowsOf (rowsR z) person)) (tagsOf (semi (itAt z item now).tags))) 1099511627776 else 0)
  else if k = 2 then kinF c z person item
  else if k = 3 then riseV c (paE (z.filter wpB) c.width item ((paneB c now - c.span) / halfN c.width) (paneB c now / halfN c.width)) (paE (z.filter wpB) c.width item ((paneB c now - 2 * c.span) / halfN c.width) ((paneB c now - c.span) / halfN c.width))
  else if k = 4 then (if (itAt z item now).listed = true ∧ folB z person (itAt z item now).maker = true then 1048576 else 0)
  else if k = 5 then (if (itAt z item now).listed = true then weightF (now - (itAt z item now).born) c.half else 0)
  else 0
/-- Three parts are the same for all people. -/
theorem raw_all (c : Cfg) (z : List Ev) (p q item : ByteArray) (now : Int) (k : Nat) (h : k = 0 ∨ k = 3 ∨ k = 5) : rawG c z p item now k = rawG c z q item now k := by
  unfold rawG
  rcases h with rfl | rfl | rfl
  · rfl
  · rfl
  · rfl
theorem rowsOf_none {R : List Row} {person : ByteArray} (h : ∀ r ∈ R, r.1.person ≠ person) : rowsOf R person = [] := by
  unfold rowsOf
  rw [List.filter_eq_nil_iff]
  intro r hr
  simpa using h r hr
/-- Of somebody without events three parts are 0. -/
theorem raw_nobody (c : Cfg) (z : List Ev) (p item : ByteArray) (now : Int) (hp : ∀ e ∈ z, peB e = true → e.person ≠ p) (k : Nat) (h : k = 1 ∨ k = 2 ∨ k = 4) : rawG c z p item now k = 0 := by
  have hpe : ∀ e ∈ peopleE z, e.person ≠ p := fun e he => hp e (List.mem_filter.1 he).1 (List.mem_filter.1 he).2
  unfold rawG
  rcases h with rfl | rfl | rfl
  · rw [if_neg (by decide), if_pos rfl]
    have : rowsOf (rowsR z) p = [] := rowsOf_none fun r hr => hpe r.1 (by rw [← rowsR_evs]; exact List.mem_map.2 ⟨r, hr, rfl⟩)
    rw [this]
    have h0 : tasteV (tstE (halfN c.half) now []) (tagsOf (semi (itAt z item now).tags)) = 0 := sum_map_zero _ fun x _ => rfl
    rw [h0]
    split <;> rfl
  · rw [if_neg (by decide), if_neg (by decide), if_pos rfl]
    have : histE z p = [] := by
      unfold histE hist
      rw [List.filter_eq_nil_iff]
      intro e he
      simpa using hpe e he
    unfold kinF
    rw [this]
    rfl
  · rw [if_neg (by decide), if_neg (by decide), if_neg (by decide), if_neg (by decide), if_pos rfl, if_neg]
    rintro ⟨_, h⟩
    rw [← fol_people] at h
    unfold folB at h
    have : (peopleE z).filter (flB p (itAt z item now).maker) = [] := by
      rw [List.filter_eq_nil_iff]
      intro e he
      simp [flB, hpe e he]
    rw [this] at h
    cases h
/-! ### What comes behind -/
/-- Events that come behind now, and are worth nothing, of other people. -/
structure Behind (now : Int) (person : ByteArray) (M : List Ev) : Prop where
  at_ : ∀ e ∈ M, now < e.at_
  worth : ∀ e ∈ M, worthE e ≤ 0
  person : ∀ e ∈ M, e.person ≠ person
end Go.Proofs.YtoancknoinilaaaGreatDoor


/- The document's events that are counted anew. -/
namespace Go.Proofs.YtoancknoinilaaaGreatDoor
open Go.Se Go.RowKit

def inT (l : List ByteArray) (s : ByteArray) : Bool := l.any fun x => decide (x = s)
theorem inT_iff {l : List ByteArray} {s : ByteArray} : inT l s = true ↔ s ∈ l := by simp [inT]
theorem inT_not {l : List ByteArray} {s : ByteArray} : inT l s = false ↔ s ∉ l := by rw [← Bool.not_eq_true, inT_iff]
theorem rin_spec (l : List ByteArray) (s : ByteArray) (A : Option Addr) (c : Nat) (w : World) (hs : Sl strE 1 w A l) (hl : l.length < 1000000000) :
    Cal Tryz.prog 24 [.slice A l.length c, .string s] w fun r w' => r = .bool (inT l s) ∧ w' = w := by
  refine fn_intro Tt_ok Tryz.func24 (by rfl) rfl _ rfl rfl (by rfl) ?_; (conv => whnf)
  refine loop_rule Tt_ok (fun (k : Nat) w' => k ≤ l.length ∧ w' = w ∧ s ∉ l.take k)
    (fun k => [(0, .slice A l.length c), (1, .string s), (5, .int .i64 k)]) (fun k => l.length - k) 0 ⟨by omega, rfl, by simp⟩ ⟨rfl, rfl, rfl, trivial⟩ ?_
  rintro k w1 ⟨hk, rfl, hall⟩
  (conv => whnf)
  constructor
  · intro hlt
    have hlt : k < l.length := by simpa using hlt
    obtain ⟨a, rfl, hc⟩ := hs.get hlt
    have htk := take_next l k hlt
    have hin := List.getElem_mem hlt
    generalize l[k] = x at hc htk hin
    (conv => whnf)
    refine ⟨a, ⟨rfl, by omega, by omega⟩, ?_⟩; (conv => whnf)
    refine ⟨.string x, cells_head hc, ?_⟩; (conv => whnf)
    constructor
    · intro h
      have h : x = s := by simpa using h
      subst h
      (conv => whnf)
      exact ⟨by rw [inT_iff.2 hin], rfl⟩
    · intro h
      have h : ¬ x = s := by simpa using h
      (conv => whnf)
      refine ⟨((k + 1 : Nat) : Int), wrap_succ (by omega), ?_⟩; (conv => whnf)
      exact ⟨k + 1, by omega, ⟨by omega, rfl, by rw [htk]; simp [hall, Ne.symm h]⟩, ⟨rfl, rfl, rfl, trivial⟩⟩
  · intro hge
    have hge : l.length ≤ k := by simpa using hge
    rw [List.take_of_length_le hge] at hall
    (conv => whnf)
    exact ⟨by rw [inT_not.2 hall], rfl⟩
/-- A text, in a rising list, once. -/
def putL (l : List ByteArray) (s : ByteArray) : List ByteArray := if inT l s = true then l else l.takeWhile (fun x => bLt x s) ++ s :: l.dropWhile (fun x => bLt x s)
theorem put_mem (l : List ByteArray) (s x : ByteArray) : x ∈ putL l s ↔ x ∈ l ∨ x = s := by
  unfold putL
  split
  · rename_i h
    rw [inT_iff] at h
    exact ⟨.inl, fun h' => h'.elim id (fun e => e ▸ h)⟩
  · have h := List.takeWhile_append_dropWhile (p := fun x => bLt x s) (l := l)
    constructor
    · intro hx
      rcases List.mem_append.1 hx with hx | hx
      · exact .inl (by rw [← h]; exact List.mem_append.2 (.inl hx))
      · rcases List.mem_cons.1 hx with hx | hx
        · exact .inr hx
        · exact .inl (by rw [← h]; exact List.mem_append.2 (.inr hx))
    · rintro (hx | hx)
      · rw [← h] at hx
        rcases List.mem_append.1 hx with hx | hx
        · simp [hx]
        · simp [hx]
      · simp [hx]
theorem put_len (l : List ByteArray) (s : ByteArray) : (putL l s).length ≤ l.length + 1 := by
  unfold putL
  split
  · omega
  · have h := congrArg List.length (List.takeWhile_append_dropWhile (p := fun x => bLt x s) (l := l))
    rw [List.length_append] at h ⊢
    rw [List.length_cons]
    omega
theorem takeWhile_idx {α : Type} {p : α → Bool} {l : List α} {k : Nat} (hk : k ≤ l.length) (h1 : ∀ x ∈ l.take k, p x = true) (h2 : k = l.length ∨ ∃ x, l[k]? = some x ∧ p x = false) : l.takeWhile p = l.take k ∧ l.dropWhile p = l.drop k := by
  have hd : (l.drop k).takeWhile p = [] ∧ (l.drop k).dropWhile p = l.drop k := by
    rcases h2 with rfl | ⟨x, hx, hp⟩
    · simp
    · have hlt : k < l.length := (List.getElem?_eq_some_iff.1 hx).1
      have hxe : l[k] = x := by rw [List.getElem?_eq_getElem hlt] at hx; simpa using hx
      rw [List.drop_eq_getElem_cons hlt, hxe]
      simp [hp]
  constructor
  · conv => lhs; rw [← List.take_append_drop k l]
    rw [List.takeWhile_append_of_pos h1, hd.1, List.append_nil]
  · conv => lhs; rw [← List.take_append_drop k l]
    rw [List.dropWhile_append_of_pos h1, hd.2]
theorem rput_spec (l : List ByteArray) (s : ByteArray) (A : Option Addr) (c : Nat) (w : World) (hs : Sl strE 1 w A l) (hl : l.length < 1000000) (hcap : l.length ≤ c) :
    Cal Tryz.prog 64 [.slice A l.length c, .string s] w fun r w' => ∃ A' c', r = .slice A' (putL l s).length c' ∧ (putL l s).length ≤ c' ∧ Sl strE 1 w' A' (putL l s) ∧ Ext w w' := by
  refine fn_intro Tt_ok Tryz.func64 (by rfl) rfl _ rfl rfl (by rfl) ?_; (conv => whnf)
  refine (rin_spec l s A c w hs (by omega)).mono ?_
  rintro _ w0 ⟨rfl, hw0⟩
  subst hw0
  (conv => whnf)
  constructor
  · intro h
    have hp : putL l s = l := if_pos h
    rw [hp]
    (conv => whnf)
    exact ⟨A, c, rfl, hcap, hs, Ext.refl _⟩
  · intro h
    have hp : putL l s = l.takeWhile (fun x => bLt x s) ++ s :: l.dropWhile (fun x => bLt x s) := if_neg (by rw [h]; simp)
    (conv => whnf)
    refine loop_rule Tt_ok (fun (k : Nat) w' => k ≤ l.length ∧ w' = w0 ∧ ∀ x ∈ l.take k, bLt x s = true)
      (fun k => [(0, .slice A l.length c), (1, .string s), (5, .int .i64 k)]) (fun k => l.length - k) 0 ⟨by omega, rfl, by simp⟩ ⟨rfl, rfl, rfl, trivial⟩ ?_
    rintro k w1 ⟨hk, hw1, hall⟩
    replace hw1 := hw1.symm
    subst hw1
    obtain ⟨a1, x, hk1⟩ : ∃ a1 x, k < l.length → A = some a1 ∧ l[k]? = some x ∧ w0.cell? (a1.add (k * 1)) = some (.string x) := by
      by_cases hh : k < l.length
      · obtain ⟨a1, h1, h2⟩ := hs.get hh
        exact ⟨a1, l[k], fun _ => ⟨h1, List.getElem?_eq_getElem hh, cells_head h2⟩⟩
      · exact ⟨⟨0, 0, none⟩, s, fun h => absurd h hh⟩
    have hd : ∀ {p : Nat}, decide ((p : Int) < (l.length : Int)) = true → p < l.length := fun h => by simpa using h
    (conv => whnf)
    refine ⟨a1, fun hg => ⟨(hk1 (hd hg)).1, by omega, by have := hd hg; omega⟩, ?_⟩; (conv => whnf)
    refine ⟨.string x, fun hg => (hk1 (hd hg)).2.2, ?_⟩; (conv => whnf)
    constructor
    · intro hc
      have hc : (decide ((k : Int) < (l.length : Int)) && bLt x s) = true := hc
      rw [Bool.and_eq_true] at hc
      have hlt := hd hc.1
      have htk := take_next l k hlt
      have hxe : l[k] = x := by have := (hk1 hlt).2.1; rw [List.getElem?_eq_getElem hlt] at this; simpa using this
      (conv => whnf)
      refine ⟨((k + 1 : Nat) : Int), wrap_succ (by omega), ?_⟩; (conv => whnf)
      refine ⟨k + 1, by omega, ⟨by omega, rfl, fun y hy => ?_⟩, ⟨rfl, rfl, rfl, trivial⟩⟩
      rw [htk, hxe] at hy
      rcases List.mem_append.1 hy with hy | hy
      · exact hall y hy
      · simp at hy; subst hy; exact hc.2
    · intro hc
      have hc : (decide ((k : Int) < (l.length : Int)) && bLt x s) = false := hc
      have hend : k = l.length ∨ ∃ x, l[k]? = some x ∧ bLt x s = false := by
        by_cases hh : k < l.length
        · refine .inr ⟨x, (hk1 hh).2.1, ?_⟩
          have : decide ((k : Int) < (l.length : Int)) = true := by simpa using hh
          rw [this] at hc
          simpa using hc
        · exact .inl (by omega)
      obtain ⟨t1, t2⟩ := takeWhile_idx (p := fun x => bLt x s) hk hall hend
      rw [t1, t2] at hp
      clear hk1 hc hend t1 t2 hall
      have hsk := sl_drop_if (sl_take hs k) 0 c (by rw [List.length_take]; omega)
      have hsd := sl_drop_if hs k c hcap
      rw [List.drop_zero] at hsk
      have hkm : k = (l.take k).length := by rw [List.length_take]; omega
      have hdl : l.length - k = (l.drop k).length := by rw [List.length_drop]
      have htot : (l.take k).length + (l.drop k).length = l.length := by rw [List.length_take, List.length_drop]; omega
      rw [hp]
      generalize l.take k = T at hsk hkm htot
      generalize l.drop k = D at hsd hdl htot
      (conv => whnf)
      intro b2 w2 hn2; (conv => whnf)
      have o2 := rowStr.made (base := w0.heap.size) hn2 (Nat.le_refl _)
      refine ⟨⟨by omega, by omega, by omega, by omega⟩, ?_⟩; (conv => whnf)
      refine append_row rowStr (l := []) (news := T) rfl o2 hkm (hsk.ext hn2.ext) (by simp; omega) hn2.ext.size fun A3 c3 w3 hown3 hg3 hA3 => ?_
      have hx3 := ext_grown hn2.ext hg3 (own_ge o2)
      rw [List.nil_append] at hown3 ⊢
      (conv => whnf)
      intro b4 w4 hn4; (conv => whnf)
      refine append_row rowStr (l := T) (news := [s]) rfl (hown3.ext hn4.ext) rfl (rowStr.new1 (x := s) hn4) (by simp; omega) (hx3.trans hn4.ext).size fun A5 c5 w5 hown5 hg5 hA5 => ?_
      have hx5 := ext_grown (hx3.trans hn4.ext) hg5 (own_ge hown3)
      generalize hT1 : T ++ [s] = T1 at hown5 ⊢
      have hT1l : T1.length = T.length + 1 := by rw [← hT1]; simp
      (conv => whnf)
      refine ⟨⟨by omega, by omega, by omega, by omega⟩, ?_⟩; (conv => whnf)
      refine append_row rowStr (l := T1) (news := D) rfl hown5 hdl (hsd.ext hx5) (by omega) hx5.size fun A6 c6 w6 hown6 hg6 hA6 => ?_
      have hx6 := ext_grown hx5 hg6 (own_ge hown5)
      have hfin : T ++ s :: D = T1 ++ D := by rw [← hT1]; simp
      rw [hfin]
      generalize T1 ++ D = T2 at hown6 ⊢
      (conv => whnf)
      exact ⟨A6, c6, rfl, hown6.le, hown6.sl rowStr.sz, hx6⟩

def withoutL (l : List Ev) (p : ByteArray) : List Ev := l.filter fun e => !decide (e.person = p) || decide (e.kind = 14)
theorem rwithout_spec (l : List Ev) (p : ByteArray) (A : Option Addr) (c : Nat) (w : World) (hs : SlE w A l) (hl : l.length < 1000000) :
    Cal Tryz.prog 109 [.slice A l.length c, .string p] w fun r w' => ∃ A' c', r = .slice A' (withoutL l p).length c' ∧ SlE w' A' (withoutL l p) ∧ Ext w w' := by
  refine fn_intro Tt_ok Tryz.func109 (by rfl) rfl _ rfl rfl (by rfl) ?_; (conv => whnf)
  intro b1 w1 hn1; (conv => whnf)
  have o1 := rowEv.made (base := w.heap.size) hn1 (Nat.le_refl _)
  refine loop_rule Tt_ok (fun (k : Nat × Option Addr × Nat × List Ev) w' => k.1 ≤ l.length ∧ Ext w w' ∧ k.2.2.2 = withoutL (l.take k.1) p ∧ Own evC 8 53 w.heap.size w' k.2.1 k.2.2.1 k.2.2.2)
    (fun | (k, B, d, T) => [(0, .slice A l.length c), (1, .string p), (5, .slice B T.length d), (6, .int .i64 k)]) (fun k => l.length - k.1) (0, some ⟨b1, 0, none⟩, 0, []) ⟨by simp, hn1.ext, rfl, o1⟩ ⟨rfl, rfl, rfl, rfl, trivial⟩ ?_
  rintro ⟨k, B, d, T⟩ w2 ⟨hk, hx2, hT, hown⟩
  simp only at hk hT hown
  have hTl : T.length ≤ k := by
    rw [hT]
    have := List.length_filter_le (fun e : Ev => !decide (e.person = p) || decide (e.kind = 14)) (l.take k)
    rw [List.length_take] at this
    unfold withoutL; omega
  (conv => whnf)
  constructor
  · intro hc
    have hc : k < l.length := by simpa using hc
    obtain ⟨a2, rfl, hce⟩ := (hs.ext hx2).get hc
    have htk := take_next l k hc
    generalize l[k] = e at hce htk
    have hsn : withoutL (l.take (k + 1)) p = T ++ if (!decide (e.person = p) || decide (e.kind = 14)) then [e] else [] := by
      rw [htk, hT]; unfold withoutL; rw [List.filter_append]
      congr 1
      simp only [List.filter_cons, List.filter_nil]
    (conv => whnf)
    repeat (refine seq_go Tt_ok ?_; (conv => whnf))
    refine ⟨a2, ⟨rfl, by omega, by omega⟩, ?_⟩; (conv => whnf)
    refine ⟨_, cells_at hce (k := 4) rfl, ?_⟩; (conv => whnf)
    refine ⟨a2, fun _ => ⟨rfl, by omega, by omega⟩, ?_⟩; (conv => whnf)
    refine ⟨_, fun _ => cells_at hce (k := 3) rfl, ?_⟩; (conv => whnf)
    constructor
    · intro hq
      have hq : (!decide (e.person = p) || decide (e.kind = 14)) = true := hq
      rw [hq, if_pos rfl] at hsn
      (conv => whnf)
      refine ⟨a2, ⟨rfl, by omega, by omega⟩, ?_⟩; (conv => whnf)
      refine ⟨evC e, ⟨rfl, hce⟩, ?_⟩; (conv => whnf)
      intro b3 w3 hn3; (conv => whnf)
      refine append_row rowEv (l := T) (news := [e]) rfl (hown.ext hn3.ext) rfl (rowEv.new1 (x := e) hn3) (by simp; omega) ((hx2.trans hn3.ext).size) fun A' c' w4 hown4 hg4 hA4 => ?_
      have hx4 := ext_grown (hx2.trans hn3.ext) hg4 (own_ge hown)
      generalize hT1 : T ++ [e] = T1 at hown4 hsn ⊢
      (conv => whnf)
      refine ⟨((k + 1 : Nat) : Int), wrap_succ (by omega), ?_⟩; (conv => whnf)
      exact ⟨(k + 1, A', c', T1), by simp only; omega, ⟨by simp only; omega, hx4, hsn.symm, hown4⟩, ⟨rfl, rfl, rfl, rfl, trivial⟩⟩
    · intro hq
      have hq : (!decide (e.person = p) || decide (e.kind = 14)) = false := hq
      rw [hq] at hsn
      simp only [Bool.false_eq_true, if_false, List.append_nil] at hsn
      (conv => whnf)
      refine ⟨((k + 1 : Nat) : Int), wrap_succ (by omega), ?_⟩; (conv => whnf)
      exact ⟨(k + 1, B, d, T), by simp only; omega, ⟨by simp only; omega, hx2, hsn.symm, hown⟩, ⟨rfl, rfl, rfl, rfl, trivial⟩⟩
  · intro hc
    have hc : l.length ≤ k := by simpa using hc
    rw [List.take_of_length_le hc] at hT
    rw [← hT]
    (conv => whnf)
    exact ⟨B, d, rfl, hown.sl evC_len, hx2⟩
theorem rgone_spec (l : List Ev) (A : Option Addr) (c : Nat) (w : World) (hs : SlE w A l) (hl : l.length < 900000) :
    Cal Tryz.prog 108 [.slice A l.length c] w fun r w' => ∃ A' c' G, r = .slice A' G.length c' ∧ (∀ p, p ∈ G ↔ goneB l p = true) ∧ G.length < 1000000 ∧ Sl strE 1 w' A' G ∧ Ext w w' := by
  refine fn_intro Tt_ok Tryz.func108 (by rfl) rfl _ rfl rfl (by rfl) ?_; (conv => whnf)
  intro b1 w1 hn1; (conv => whnf)
  have o1 := rowStr.made (base := w.heap.size) hn1 (Nat.le_refl _)
  refine loop_rule Tt_ok (fun (k : Nat × Option Addr × Nat × List ByteArray) w' => k.1 ≤ l.length ∧ Ext w w' ∧ k.2.2.2.length ≤ k.1 ∧ (∀ p, p ∈ k.2.2.2 ↔ goneB (l.take k.1) p = true) ∧ Sl strE 1 w' k.2.1 k.2.2.2 ∧ k.2.2.2.length ≤ k.2.2.1)
    (fun | (k, B, d, T) => [(0, .slice A l.length c), (3, .slice B T.length d), (4, .int .i64 k)]) (fun k => l.length - k.1) (0, some ⟨b1, 0, none⟩, 0, []) ⟨by simp, hn1.ext, by simp, by simp [goneB], o1.sl rowStr.sz, by simp⟩ ⟨rfl, rfl, rfl, trivial⟩ ?_
  rintro ⟨k, B, d, T⟩ w2 ⟨hk, hx2, hTl, hT, hsl, hcap⟩
  simp only at hk hT hTl hsl hcap
  (conv => whnf)
  constructor
  · intro hc
    have hc : k < l.length := by simpa using hc
    obtain ⟨a2, rfl, hce⟩ := (hs.ext hx2).get hc
    have htk := take_next l k hc
    generalize l[k] = e at hce htk
    have hsn : ∀ p, goneB (l.take (k + 1)) p = (goneB (l.take k) p || (decide (e.kind = 14) && decide (e.person = p))) := fun p => by rw [htk, gone_snoc]
    (conv => whnf)
    repeat (refine seq_go Tt_ok ?_; (conv => whnf))
    refine ⟨a2, ⟨rfl, by omega, by omega⟩, ?_⟩; (conv => whnf)
    refine ⟨_, cells_at hce (k := 3) rfl, ?_⟩; (conv => whnf)
    constructor
    · intro hq
      have hq : e.kind = 14 := by simpa using hq
      (conv => whnf)
      refine ⟨a2, ⟨rfl, by omega, by omega⟩, ?_⟩; (conv => whnf)
      refine ⟨_, cells_at hce (k := 4) rfl, ?_⟩; (conv => whnf)
      refine (rput_spec T e.person B d w2 hsl (by omega) hcap).mono ?_
      rintro _ w3 ⟨A3, c3, rfl, hcap3, hs3, hx3⟩
      have hpl := put_len T e.person
      have hpm : ∀ p, p ∈ putL T e.person ↔ goneB (l.take (k + 1)) p = true := fun p => by
        rw [put_mem, hsn, hT p, hq, Bool.or_eq_true]
        refine or_congr Iff.rfl ?_
        simp only [decide_true, Bool.true_and, decide_eq_true_eq]
        exact eq_comm
      generalize putL T e.person = T1 at hcap3 hs3 hpl hpm ⊢
      (conv => whnf)
      refine ⟨((k + 1 : Nat) : Int), wrap_succ (by omega), ?_⟩; (conv => whnf)
      exact ⟨(k + 1, A3, c3, T1), by simp only; omega, ⟨by simp only; omega, hx2.trans hx3, by simp only; omega, hpm, hs3, hcap3⟩, ⟨rfl, rfl, rfl, trivial⟩⟩
    · intro hq
      have hq : ¬ e.kind = 14 := by simpa using hq
      (conv => whnf)
      refine ⟨((k + 1 : Nat) : Int), wrap_succ (by omega), ?_⟩; (conv => whnf)
      refine ⟨(k + 1, B, d, T), by simp only; omega, ⟨by simp only; omega, hx2, by simp only; omega, fun p => ?_, hsl, hcap⟩, ⟨rfl, rfl, rfl, trivial⟩⟩
      simp only
      rw [hsn, hT p]; simp [hq]
  · intro hc
    have hc : l.length ≤ k := by simpa using hc
    rw [List.take_of_length_le hc] at hT
    (conv => whnf)
    exact ⟨B, d, T, rfl, hT, by omega, hsl, hx2⟩
theorem rgleft_spec (l : List Ev) (A : Option Addr) (c : Nat) (w : World) (hs : SlE w A l) (hl : l.length < 900000) :
    Cal Tryz.prog 62 [.slice A l.length c] w fun r w' => ∃ A' c', r = .slice A' (leftL l).length c' ∧ SlE w' A' (leftL l) ∧ Ext w w' := by
  refine fn_intro Tt_ok Tryz.func62 (by rfl) rfl _ rfl rfl (by rfl) ?_; (conv => whnf)
  refine (rgone_spec l A c w hs hl).mono ?_
  rintro _ w1 ⟨AG, cG, G, rfl, hG, hGl, hsG, hx1⟩; (conv => whnf)
  refine loop_rule Tt_ok (fun (k : Nat × Option Addr × Nat × List Ev) w' => k.1 ≤ G.length ∧ Ext w1 w' ∧ k.2.2.2 = l.filter (fun e => !inT (G.take k.1) e.person || decide (e.kind = 14)) ∧ SlE w' k.2.1 k.2.2.2)
    (fun | (k, B, d, T) => [(3, .slice AG G.length cG), (4, .slice B T.length d), (5, .int .i64 k)]) (fun k => G.length - k.1) (0, A, c, l) ⟨by simp, Ext.refl _, by simp only [List.take_zero, inT, List.any_nil, Bool.not_false, Bool.true_or]; exact (List.filter_eq_self.2 (fun _ _ => rfl)).symm, hs.ext hx1⟩ ⟨rfl, rfl, rfl, trivial⟩ ?_
  rintro ⟨k, B, d, T⟩ w2 ⟨hk, hx2, hT, hsl⟩
  simp only at hk hT hsl
  have hTl : T.length ≤ l.length := by rw [hT]; exact List.length_filter_le _ _
  (conv => whnf)
  constructor
  · intro hc
    have hc : k < G.length := by simpa using hc
    obtain ⟨a2, rfl, hce⟩ := (hsG.ext hx2).get hc
    have htk := take_next G k hc
    generalize G[k] = p at hce htk
    have hsn : l.filter (fun e => !inT (G.take (k + 1)) e.person || decide (e.kind = 14)) = withoutL T p := by
      unfold withoutL
      rw [hT, List.filter_filter, htk]
      congr 1
      funext e
      simp only [inT, List.any_append, List.any_cons, List.any_nil, Bool.or_false]
      rw [show decide (p = e.person) = decide (e.person = p) by simp [eq_comm]]
      cases (G.take k).any (fun x => decide (x = e.person)) <;> cases decide (e.person = p) <;> cases decide (e.kind = 14) <;> rfl
    (conv => whnf)
    refine ⟨a2, ⟨rfl, by omega, by omega⟩, ?_⟩; (conv => whnf)
    refine ⟨.string p, cells_head hce, ?_⟩; (conv => whnf)
    refine (rwithout_spec T p B d w2 hsl (by omega)).mono ?_
    rintro _ w3 ⟨A3, c3, rfl, hs3, hx3⟩
    rw [← hsn] at hs3 ⊢
    generalize hT1 : l.filter (fun e => !inT (G.take (k + 1)) e.person || decide (e.kind = 14)) = T1 at hs3 ⊢
    (conv => whnf)
    refine ⟨((k + 1 : Nat) : Int), wrap_succ (by omega), ?_⟩; (conv => whnf)
    exact ⟨(k + 1, A3, c3, T1), by simp only; omega, ⟨by simp only; omega, hx2.trans hx3, hT1.symm, hs3⟩, ⟨rfl, rfl, rfl, trivial⟩⟩
  · intro hc
    have hc : G.length ≤ k := by simpa using hc
    rw [List.take_of_length_le hc] at hT
    have hT' : T = leftL l := by
      rw [hT]; unfold leftL
      congr 1
      funext e
      unfold keepB
      congr 2
      rw [Bool.eq_iff_iff, inT_iff]
      exact hG e.person
    rw [← hT']
    (conv => whnf)
    exact ⟨B, d, rfl, hsl, hx1.trans hx2⟩
theorem ranew_spec (l : List Ev) (A : Option Addr) (c : Nat) (w : World) (hs : SlE w A l) (hl : l.length < 900000) (hm : ∀ e ∈ l, mayB e = true) :
    Cal Tryz.prog 20 [.slice A l.length c] w fun r w' => ∃ A' c', r = .slice A' (anewL l).length c' ∧ SlE w' A' (anewL l) ∧ Ext w w' := by
  have hol := once_len l
  have hll := (left_sub (onceL l)).length_le
  refine fn_intro Tt_ok Tryz.func20 (by rfl) rfl _ rfl rfl (by rfl) ?_; (conv => whnf)
  refine (once_spec l A c w hs (by omega) (fun e he => may_fok (hm e he) (Nat.lt_trans (may_text (hm e he)) (by decide)))).mono ?_
  rintro _ w1 ⟨A1, c1, rfl, hs1, hx1⟩; (conv => whnf)
  refine (rgleft_spec (onceL l) A1 c1 w1 hs1 (by omega)).mono ?_
  rintro _ w2 ⟨A2, c2, rfl, hs2, hx2⟩; (conv => whnf)
  refine (rsort_spec (leftL (onceL l)) A2 c2 w2 hs2 (by omega)).mono ?_
  rintro _ w3 ⟨A3, c3, z, rfl, hp, hsr, hs3, hx3⟩
  have hz := anew_eq hm hp hsr
  rw [← hz]
  (conv => whnf)
  exact ⟨A3, c3, rfl, hs3, (hx1.trans hx2).trans hx3⟩
end Go.Proofs.YtoancknoinilaaaGreatDoor
