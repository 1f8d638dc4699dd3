/- Several texts in one: Ct, Pl5, Pl6, Sm. -/
import Derived.Test.YtoancknoinilaaaGreatDoorGF
import Derived.Test.YtoancknoinilaaaGreatDoorGC
import Derived.Test.YtoancknoinilaaaGreatDoorGH
set_option linter.unusedVariables false
set_option linter.unusedSimpArgs false

/- The document's catalog: behind, Things, At (as in the price laws). -/
namespace Go.Proofs.YtoancknoinilaaaGreatDoor
open Go.Se Go.RowKit

theorem stN_cut (row : List St) (t : Int) : (stN row t = 0 ∨ ∃ s, row[stN row t - 1]? = some s ∧ s.at_ ≤ t) ∧ (stN row t = row.length ∨ ∃ s, row[stN row t]? = some s ∧ t < s.at_) ∧ stN row t ≤ row.length := by
  unfold stN
  induction row with
  | nil => simp
  | cons a row ih =>
    rw [List.takeWhile_cons]
    by_cases h : a.at_ ≤ t
    · rw [if_pos (by simpa using h)]
      obtain ⟨i1, i2, i3⟩ := ih
      simp only [List.length_cons]
      generalize (row.takeWhile fun s => decide (s.at_ ≤ t)).length = n at *
      refine ⟨.inr ?_, ?_, by omega⟩
      · rcases i1 with rfl | ⟨s, hs, hle⟩
        · exact ⟨a, by simp, h⟩
        · cases n with
          | zero => exact ⟨a, by simp, h⟩
          | succ n => exact ⟨s, by simpa using hs, hle⟩
      · rcases i2 with h2 | ⟨s, hs, hlt⟩
        · exact .inl (by omega)
        · exact .inr ⟨s, by simpa using hs, hlt⟩
    · rw [if_neg (by simpa using h)]
      exact ⟨.inl rfl, .inr ⟨a, rfl, by omega⟩, by simp⟩
def thQ (name : ByteArray) (t : Int) (e : Ev) : Bool := decide (e.item = name) && decide (e.at_ ≤ t)
def stAll (name : ByteArray) (es : List Ev) : St := es.foldl stStep (stInit name)
theorem stAll_snoc (name : ByteArray) (es : List Ev) (e : Ev) : stAll name (es ++ [e]) = stStep (stAll name es) e := by simp [stAll]
def itOf (name : ByteArray) (es : List Ev) : It := if es.isEmpty then zeroIt else (stAll name es).item
theorem takeWhile_all {row : List St} {t : Int} (h : ∀ s ∈ row, s.at_ ≤ t) : stN row t = row.length := by
  unfold stN
  have : row.takeWhile (fun s => decide (s.at_ ≤ t)) = row := by
    have := List.takeWhile_append_of_pos (l₂ := []) (p := fun s : St => decide (s.at_ ≤ t)) (l₁ := row) (fun s hs => by simpa using h s hs)
    simpa using this
  rw [this]
theorem state_def : ∀ (cs : List Ev), Rise cs → ∀ (name : ByteArray) (t : Int),
    (stN (catRows cs name) t = 0 ↔ cs.filter (thQ name t) = []) ∧ (stN (catRows cs name) t ≠ 0 → (catRows cs name)[stN (catRows cs name) t - 1]? = some (stAll name (cs.filter (thQ name t)))) := by
  refine snoc_ind ?_ ?_
  · intro _ name t
    simp [catRows, stN]
  · intro cs e ih h name t
    have h1 : Rise cs := (List.pairwise_append.1 h).1
    have h2 := (List.pairwise_append.1 h).2.2
    obtain ⟨i1, i2⟩ := ih h1 name t
    obtain ⟨r1, r2⟩ := catRows_rise cs h1 name
    rw [catRows_snoc, List.filter_append]
    unfold catStep updR
    by_cases hn : name = e.item
    · rw [if_pos hn]
      subst hn
      generalize hrow : catRows cs e.item = row at *
      have hle : ∀ s ∈ row, s.at_ ≤ e.at_ := fun s hs => by
        obtain ⟨e', he', h3, _⟩ := r2 s hs
        have := less_at (h2 e' he' e (by simp)); omega
      by_cases ht : e.at_ ≤ t
      · have hq : thQ e.item t e = true := by simp [thQ, ht]
        have hall : ∀ s ∈ row ++ [stNext row e], s.at_ ≤ t := fun s hs => by
          rcases List.mem_append.1 hs with hs | hs
          · have := hle s hs; omega
          · simp at hs; subst hs; unfold stNext; rw [stStep_at]; exact ht
        have hN : stN row t = row.length := takeWhile_all fun s hs => hall s (by simp [hs])
        rw [takeWhile_all hall]
        refine ⟨by simp [List.filter_cons, hq], fun _ => ?_⟩
        simp only [List.filter_cons, hq, if_true, List.filter_nil, stAll_snoc]
        rw [List.length_append, List.length_singleton, Nat.add_sub_cancel, List.getElem?_append_right (Nat.le_refl _), Nat.sub_self]
        unfold stNext
        rw [hN] at i1 i2
        congr 2
        by_cases h0 : row.length = 0
        · have h3 := i1.1 h0
          rw [h3, List.length_eq_zero_iff.1 h0]
          rfl
        · rw [List.getLast?_eq_getElem?, i2 h0]; rfl
      · have hq : thQ e.item t e = false := by simp [thQ, ht]
        have hN : stN (row ++ [stNext row e]) t = stN row t := by
          unfold stN
          rw [List.takeWhile_append]
          split
          · rw [List.takeWhile_cons_of_neg (by unfold stNext; rw [stStep_at]; simpa using ht)]
            simp; omega
          · rfl
        rw [hN]
        simp only [List.filter_cons, hq, Bool.false_eq_true, if_false, List.filter_nil, List.append_nil]
        refine ⟨i1, fun h0 => ?_⟩
        have := (stN_cut row t).2.2
        rw [List.getElem?_append_left (by omega)]
        exact i2 h0
    · rw [if_neg hn]
      have hq : thQ name t e = false := by simp [thQ, Ne.symm hn]
      simp only [List.filter_cons, hq, Bool.false_eq_true, if_false, List.filter_nil, List.append_nil]
      exact ⟨i1, i2⟩
theorem catAt_def {cs : List Ev} (h : Rise cs) (name : ByteArray) (t : Int) : catAt cs name t = (itOf name (cs.filter (thQ name t)), !(cs.filter (thQ name t)).isEmpty) := by
  obtain ⟨h1, h2⟩ := state_def cs h name t
  unfold catAt itOf
  by_cases h0 : stN (catRows cs name) t = 0
  · have h3 := h1.1 h0
    rw [h3, h0]
    cases (catRows cs name)[0 - 1]? <;> rfl
  · have h3 : cs.filter (thQ name t) ≠ [] := fun h => h0 (h1.2 h)
    rw [h2 h0]
    simp only [if_neg h0]
    generalize cs.filter (thQ name t) = F at h3
    cases F with
    | nil => exact absurd rfl h3
    | cons a es => rfl

end Go.Proofs.YtoancknoinilaaaGreatDoor


/- Rising lists into which things are put, each once; sessions, as the document counts them. -/
namespace Go.Proofs.YtoancknoinilaaaGreatDoor
open Go.Se Go.RowKit

structure Sto {α : Type} (lt : α → α → Bool) : Prop where
  irrefl : ∀ a, lt a a = false
  trans : ∀ {a b c}, lt a b = true → lt b c = true → lt a c = true
  tri : ∀ {a b}, lt a b = false → lt b a = false → a = b
theorem sto_text : Sto bLt := ⟨bLt_irrefl, bLt_trans, bLt_tri⟩
def SG {α : Type} (lt : α → α → Bool) (l : List α) : Prop := l.Pairwise fun x y => lt x y = true
theorem SG.nodup {α : Type} {lt : α → α → Bool} (O : Sto lt) {l : List α} (h : SG lt l) : l.Nodup := h.imp fun h e => by rw [e, O.irrefl] at h; cases h
theorem sto_asymm {α : Type} {lt : α → α → Bool} (O : Sto lt) {a b : α} (h : lt a b = true) : lt b a = false := by
  cases hb : lt b a with
  | false => rfl
  | true => have := O.trans h hb; rw [O.irrefl] at this; cases this
theorem sg_unique {α : Type} {lt : α → α → Bool} (O : Sto lt) {l m : List α} (h1 : SG lt l) (h2 : SG lt m) (hm : ∀ x, x ∈ l ↔ x ∈ m) : l = m :=
  List.Perm.eq_of_pairwise (le := fun a b => lt b a = false) (fun a b _ _ h1 h2 => O.tri h2 h1) (h1.imp fun h => sto_asymm O h) (h2.imp fun h => sto_asymm O h) (perm_of_subs (h1.nodup O) (h2.nodup O) (fun x hx => (hm x).1 hx) fun x hx => (hm x).2 hx)
section
variable {α : Type} [DecidableEq α] {lt : α → α → Bool}
def insG (lt : α → α → Bool) (l : List α) (a : α) : List α :=
  if (l.dropWhile fun x => lt x a).head? = some a then l else l.takeWhile (fun x => lt x a) ++ a :: l.dropWhile (fun x => lt x a)
theorem insG_nil (a : α) : insG lt [] a = [a] := by simp [insG]
theorem insG_cons (x : α) (l : List α) (a : α) : insG lt (x :: l) a = if lt x a = true then x :: insG lt l a else if x = a then x :: l else a :: x :: l := by
  unfold insG
  rw [List.takeWhile_cons, List.dropWhile_cons]
  cases h : lt x a with
  | true =>
    simp only [if_true]
    split <;> simp
  | false =>
    simp only [Bool.false_eq_true, if_false, List.head?_cons, Option.some.injEq, List.nil_append]
theorem insG_mem {x a : α} : ∀ {l : List α}, x ∈ insG lt l a ↔ x ∈ l ∨ x = a
  | [] => by rw [insG_nil]; simp
  | y :: l => by
    have ih := insG_mem (x := x) (a := a) (l := l)
    rw [insG_cons]
    split
    · rw [List.mem_cons, ih, List.mem_cons]; exact or_assoc.symm
    · split
      · next h =>
        subst h
        constructor
        · exact .inl
        · rintro (h | rfl)
          · exact h
          · simp
      · rw [List.mem_cons]; exact or_comm
theorem insG_sg (O : Sto lt) {a : α} : ∀ {l : List α}, SG lt l → SG lt (insG lt l a)
  | [], _ => by rw [insG_nil]; exact List.pairwise_singleton _ _
  | y :: l, h => by
    have h' := List.pairwise_cons.1 h
    have ih := insG_sg O (a := a) h'.2
    rw [insG_cons]
    split
    · next hy =>
      refine List.pairwise_cons.2 ⟨fun x hx => ?_, ih⟩
      rcases insG_mem.1 hx with hx | rfl
      · exact h'.1 x hx
      · exact hy
    · next hy =>
      split
      · exact h
      · next hne =>
        have hay : lt a y = true := by
          cases hq : lt a y with
          | true => rfl
          | false => exact absurd (O.tri (by simpa using hy) hq) hne
        refine List.pairwise_cons.2 ⟨fun x hx => ?_, h⟩
        rcases List.mem_cons.1 hx with rfl | hx
        · exact hay
        · exact O.trans hay (h'.1 x hx)
def insAll (lt : α → α → Bool) (l : List α) : List α := l.foldl (insG lt) []
theorem insAll_snoc (l : List α) (a : α) : insAll lt (l ++ [a]) = insG lt (insAll lt l) a := by unfold insAll; rw [List.foldl_append]; rfl
theorem insAll_mem {x : α} : ∀ l : List α, x ∈ insAll lt l ↔ x ∈ l := by
  refine snoc_ind (by simp [insAll]) fun l a ih => ?_
  rw [insAll_snoc, insG_mem, ih, List.mem_append, List.mem_singleton]
theorem insAll_sg (O : Sto lt) : ∀ l : List α, SG lt (insAll lt l) := by
  refine snoc_ind List.Pairwise.nil fun l a ih => ?_
  rw [insAll_snoc]
  exact insG_sg O ih
theorem insG_len (a : α) : ∀ l : List α, (insG lt l a).length ≤ l.length + 1
  | [] => by rw [insG_nil]; simp
  | y :: l => by
    have ih := insG_len a l
    rw [insG_cons]
    split
    · simp; omega
    · split <;> simp
theorem insAll_len : ∀ l : List α, (insAll lt l).length ≤ l.length := by
  refine snoc_ind (by simp [insAll]) fun l a ih => ?_
  rw [insAll_snoc]
  have := insG_len (lt := lt) a (insAll lt l)
  simp; omega
end
theorem sortT_strict {l : List ByteArray} (h : l.Nodup) : SG bLt (sortT l) := by
  have h1 := sortT_srt l
  have h2 : (sortT l).Pairwise (· ≠ ·) := List.nodup_iff_pairwise_ne.1 ((sortT_perm l).nodup_iff.2 h)
  refine (List.Pairwise.and h1 h2).imp ?_
  rintro a b ⟨h3, h4⟩
  cases hc : bLt a b with
  | true => rfl
  | false => exact absurd (bLt_tri hc h3) h4
theorem sortI_strict {l : List Int} (h : l.Nodup) : (sortI l).Pairwise (· < ·) := by
  have h1 := sortI_srt l
  have h2 : (sortI l).Pairwise (· ≠ ·) := List.nodup_iff_pairwise_ne.1 ((sortI_perm l).nodup_iff.2 h)
  refine (List.Pairwise.and h1 h2).imp ?_
  rintro a b ⟨h3, h4⟩
  omega
theorem setT_strict (l : List ByteArray) : SG bLt (setT l) := sortT_strict (dedT_nodup l)
theorem ins_setT (l : List ByteArray) (s : ByteArray) : insG bLt (setT l) s = setT (l ++ [s]) :=
  sg_unique sto_text (insG_sg sto_text (setT_strict l)) (setT_strict _) fun x => by rw [insG_mem, setT_mem, setT_mem, List.mem_append, List.mem_singleton]
theorem setT_setT (l : List ByteArray) : setT (setT l) = setT l := setT_congr fun x => setT_mem
abbrev Ad3 := ByteArray × Int × ByteArray
def adE (e : Ev) : Ad3 := (e.person, e.at_, e.item)
def ahB (a b : Ad3) : Bool := if a.1 = b.1 then (if a.2.1 = b.2.1 then bLt a.2.2 b.2.2 else decide (a.2.1 < b.2.1)) else bLt a.1 b.1
theorem ahB_iff {a b : Ad3} : ahB a b = true ↔ bLt a.1 b.1 = true ∨ (a.1 = b.1 ∧ (a.2.1 < b.2.1 ∨ (a.2.1 = b.2.1 ∧ bLt a.2.2 b.2.2 = true))) := by
  unfold ahB
  by_cases h1 : a.1 = b.1
  · have hi : bLt a.1 b.1 = false := by rw [h1]; exact bLt_irrefl _
    rw [if_pos h1]
    by_cases h2 : a.2.1 = b.2.1
    · rw [if_pos h2]
      constructor
      · intro h; exact .inr ⟨h1, .inr ⟨h2, h⟩⟩
      · rintro (h | ⟨_, h | ⟨_, h⟩⟩)
        · rw [hi] at h; cases h
        · omega
        · exact h
    · rw [if_neg h2, decide_eq_true_eq]
      constructor
      · intro h; exact .inr ⟨h1, .inl h⟩
      · rintro (h | ⟨_, h | ⟨h, _⟩⟩)
        · rw [hi] at h; cases h
        · exact h
        · exact absurd h h2
  · rw [if_neg h1]
    constructor
    · exact .inl
    · rintro (h | ⟨h, _⟩)
      · exact h
      · exact absurd h h1
theorem sto_ah : Sto ahB where
  irrefl a := by unfold ahB; rw [if_pos rfl, if_pos rfl]; exact bLt_irrefl _
  trans := by
    intro a b c h k
    rw [ahB_iff] at *
    rcases h with h | ⟨h, h'⟩ <;> rcases k with k | ⟨k, k'⟩
    · exact .inl (bLt_trans h k)
    · exact .inl (k ▸ h)
    · exact .inl (h ▸ k)
    · refine .inr ⟨h.trans k, ?_⟩
      rcases h' with h' | ⟨h', h2⟩ <;> rcases k' with k' | ⟨k', k2⟩
      · exact .inl (by omega)
      · exact .inl (by omega)
      · exact .inl (by omega)
      · exact .inr ⟨by omega, bLt_trans h2 k2⟩
  tri := by
    intro a b h k
    obtain ⟨a1, a2, a3⟩ := a
    obtain ⟨b1, b2, b3⟩ := b
    rw [← Bool.not_eq_true, ahB_iff] at h k
    simp only at h k
    have e1 : a1 = b1 := bLt_tri (by rw [← Bool.not_eq_true]; exact fun x => h (.inl x)) (by rw [← Bool.not_eq_true]; exact fun x => k (.inl x))
    subst e1
    have e2 : a2 = b2 := by
      rcases Int.lt_trichotomy a2 b2 with x | x | x
      · exact absurd (.inr ⟨rfl, .inl x⟩) h
      · exact x
      · exact absurd (.inr ⟨rfl, .inl x⟩) k
    subst e2
    have e3 : a3 = b3 := bLt_tri (by rw [← Bool.not_eq_true]; exact fun x => h (.inr ⟨rfl, .inr ⟨rfl, x⟩⟩)) (by rw [← Bool.not_eq_true]; exact fun x => k (.inr ⟨rfl, .inr ⟨rfl, x⟩⟩))
    rw [e3]
def tks (ss : Ses) (p : ByteArray) : Ticks := (alook ss p).getD []
theorem tks_addS (s : Ses) (P I : ByteArray) (T : Int) (p : ByteArray) : tks (addS s P T I) p = if p = P then aset (tks s P) T (aset ((alook (tks s P) T).getD []) I true) else tks s p := by
  unfold tks addS
  rw [alook_aset]
  split <;> rfl
theorem aset_key_mem {κ β : Type} [DecidableEq κ] {k x : κ} {v : β} {l : List (κ × β)} : x ∈ (aset l k v).map (·.1) ↔ x ∈ l.map (·.1) ∨ x = k := by
  rw [aset_keys]
  split
  · next h =>
    constructor
    · exact .inl
    · rintro (h1 | rfl)
      · exact h1
      · exact h
  · rw [List.mem_append, List.mem_singleton]
theorem tickAt_aset (m : Ticks) (T t : Int) (x : List (ByteArray × Bool)) : tickAt (aset m T x) t = if t = T then x.map (·.1) else tickAt m t := by
  unfold tickAt
  rw [alook_aset]
  split <;> rfl
structure SesIs (ss : Ses) (l : List Ev) : Prop where
  keys : ss.Pairwise (fun x y => x.1 ≠ y.1)
  ticks : ∀ p, (tks ss p).Pairwise (fun x y => x.1 ≠ y.1)
  item : ∀ p t i, i ∈ tickAt (tks ss p) t ↔ ∃ e ∈ l, e.person = p ∧ e.at_ = t ∧ e.item = i
  tick : ∀ p t, t ∈ (tks ss p).map (·.1) ↔ ∃ e ∈ l, e.person = p ∧ e.at_ = t
  person : ∀ p, p ∈ ss.map (·.1) ↔ ∃ e ∈ l, e.person = p
theorem ss_is : ∀ l : List Ev, SesIs (ssOf l) l := by
  refine snoc_ind ⟨List.Pairwise.nil, fun p => List.Pairwise.nil, fun p t i => by simp [ssOf, tks, alook, tickAt], fun p t => by simp [ssOf, tks, alook], fun p => by simp [ssOf]⟩ fun l e ih => ?_
  rw [ss_snoc]
  refine ⟨aset_pairwise ih.keys, fun p => ?_, fun p t i => ?_, fun p t => ?_, fun p => ?_⟩
  · rw [tks_addS]
    split
    · exact aset_pairwise (ih.ticks _)
    · exact ih.ticks p
  · rw [tks_addS]
    have hx : (∃ x ∈ l ++ [e], x.person = p ∧ x.at_ = t ∧ x.item = i) ↔ (∃ x ∈ l, x.person = p ∧ x.at_ = t ∧ x.item = i) ∨ (e.person = p ∧ e.at_ = t ∧ e.item = i) := by
      constructor
      · rintro ⟨x, hx, h⟩
        rcases List.mem_append.1 hx with hx | hx
        · exact .inl ⟨x, hx, h⟩
        · rw [List.mem_singleton] at hx; subst hx; exact .inr h
      · rintro (⟨x, hx, h⟩ | h)
        · exact ⟨x, by simp [hx], h⟩
        · exact ⟨e, by simp, h⟩
    rw [hx, ← ih.item]
    by_cases hp : p = e.person
    · subst hp
      rw [if_pos rfl, tickAt_aset]
      by_cases ht : t = e.at_
      · subst ht
        rw [if_pos rfl, aset_key_mem]
        show (i ∈ tickAt (tks (ssOf l) e.person) e.at_ ∨ i = e.item) ↔ _
        constructor
        · rintro (h | h)
          · exact .inl h
          · exact .inr ⟨rfl, rfl, h.symm⟩
        · rintro (h | ⟨_, _, h⟩)
          · exact .inl h
          · exact .inr h.symm
      · rw [if_neg ht]
        constructor
        · exact .inl
        · rintro (h | ⟨_, h, _⟩)
          · exact h
          · exact absurd h.symm ht
    · rw [if_neg hp]
      constructor
      · exact .inl
      · rintro (h | ⟨h, _⟩)
        · exact h
        · exact absurd h.symm hp
  · rw [tks_addS]
    have hx : (∃ x ∈ l ++ [e], x.person = p ∧ x.at_ = t) ↔ (∃ x ∈ l, x.person = p ∧ x.at_ = t) ∨ (e.person = p ∧ e.at_ = t) := by
      constructor
      · rintro ⟨x, hx, h⟩
        rcases List.mem_append.1 hx with hx | hx
        · exact .inl ⟨x, hx, h⟩
        · rw [List.mem_singleton] at hx; subst hx; exact .inr h
      · rintro (⟨x, hx, h⟩ | h)
        · exact ⟨x, by simp [hx], h⟩
        · exact ⟨e, by simp, h⟩
    rw [hx, ← ih.tick]
    by_cases hp : p = e.person
    · subst hp
      rw [if_pos rfl, aset_key_mem]
      constructor
      · rintro (h | h)
        · exact .inl h
        · exact .inr ⟨rfl, h.symm⟩
      · rintro (h | ⟨_, h⟩)
        · exact .inl h
        · exact .inr h.symm
    · rw [if_neg hp]
      constructor
      · exact .inl
      · rintro (h | ⟨h, _⟩)
        · exact h
        · exact absurd h.symm hp
  · show p ∈ (aset _ _ _).map (·.1) ↔ _
    rw [aset_key_mem, ih.person]
    constructor
    · rintro (⟨x, hx, h⟩ | rfl)
      · exact ⟨x, by simp [hx], h⟩
      · exact ⟨e, by simp, rfl⟩
    · rintro ⟨x, hx, h⟩
      rcases List.mem_append.1 hx with hx | hx
      · exact .inl ⟨x, hx, h⟩
      · rw [List.mem_singleton] at hx; subst hx; exact .inr h.symm
def flatT (p : ByteArray) (k : Ticks) (t : Int) : List Ad3 := (setT (tickAt k t)).map fun i => (p, t, i)
def flatP (ss : Ses) (p : ByteArray) : List Ad3 := (sortI ((tks ss p).map (·.1))).flatMap (flatT p (tks ss p))
def flatS (ss : Ses) : List Ad3 := (sortT (ss.map (·.1))).flatMap (flatP ss)
theorem keysI_nodup {β : Type} {L : List (Int × β)} (h : L.Pairwise (fun x y => x.1 ≠ y.1)) : (L.map (·.1)).Nodup := by
  rw [List.nodup_iff_pairwise_ne, List.pairwise_map]; exact h
theorem flatT_sg (p : ByteArray) (k : Ticks) (t : Int) : SG ahB (flatT p k t) := by
  unfold SG flatT
  rw [List.pairwise_map]
  refine List.Pairwise.imp ?_ (setT_strict (tickAt k t))
  intro a b h
  exact ahB_iff.2 (.inr ⟨rfl, .inr ⟨rfl, h⟩⟩)
theorem flatT_mem {p : ByteArray} {k : Ticks} {t : Int} {x : Ad3} : x ∈ flatT p k t ↔ x.1 = p ∧ x.2.1 = t ∧ x.2.2 ∈ tickAt k t := by
  unfold flatT
  rw [List.mem_map]
  constructor
  · rintro ⟨i, hi, rfl⟩; exact ⟨rfl, rfl, setT_mem.1 hi⟩
  · rintro ⟨h1, h2, h3⟩; exact ⟨x.2.2, setT_mem.2 h3, by rw [← h1, ← h2]⟩
theorem flatP_sg {ss : Ses} {l : List Ev} (h : SesIs ss l) (p : ByteArray) : SG ahB (flatP ss p) := by
  unfold SG flatP
  rw [List.pairwise_flatMap]
  refine ⟨fun t _ => flatT_sg _ _ _, (sortI_strict (keysI_nodup (h.ticks p))).imp fun hlt x hx y hy => ?_⟩
  obtain ⟨x1, x2, _⟩ := flatT_mem.1 hx
  obtain ⟨y1, y2, _⟩ := flatT_mem.1 hy
  exact ahB_iff.2 (.inr ⟨x1.trans y1.symm, .inl (by omega)⟩)
theorem flatP_mem {ss : Ses} {l : List Ev} (h : SesIs ss l) {p : ByteArray} {x : Ad3} : x ∈ flatP ss p ↔ x.1 = p ∧ ∃ e ∈ l, adE e = x := by
  unfold flatP
  rw [List.mem_flatMap]
  constructor
  · rintro ⟨t, _, hx⟩
    obtain ⟨h1, h2, h3⟩ := flatT_mem.1 hx
    obtain ⟨e, he, e1, e2, e3⟩ := (h.item _ _ _).1 h3
    exact ⟨h1, e, he, by unfold adE; rw [e1, e2, e3, ← h1, ← h2]⟩
  · rintro ⟨h1, e, he, rfl⟩
    refine ⟨e.at_, sortI_mem.2 ((h.tick _ _).2 ⟨e, he, h1, rfl⟩), flatT_mem.2 ⟨h1, rfl, (h.item _ _ _).2 ⟨e, he, h1, rfl, rfl⟩⟩⟩
theorem flatS_is (l : List Ev) : flatS (ssOf l) = insAll ahB (l.map adE) := by
  have h := ss_is l
  refine sg_unique sto_ah ?_ (insAll_sg sto_ah _) fun x => ?_
  · unfold SG flatS
    rw [List.pairwise_flatMap]
    refine ⟨fun p _ => flatP_sg h p, (sortT_strict (keys_nodup h.keys)).imp fun hlt x hx y hy => ?_⟩
    have h1 := ((flatP_mem h).1 hx).1
    have h2 := ((flatP_mem h).1 hy).1
    exact ahB_iff.2 (.inl (by rw [h1, h2]; exact hlt))
  · rw [insAll_mem]
    unfold flatS
    rw [List.mem_flatMap, List.mem_map]
    constructor
    · rintro ⟨p, _, hx⟩
      exact ((flatP_mem h).1 hx).2
    · rintro ⟨e, he, rfl⟩
      exact ⟨e.person, sortT_mem.2 ((h.person _).2 ⟨e, he, rfl⟩), (flatP_mem h).2 ⟨rfl, e, he, rfl⟩⟩
def allStep (gap : Int) (acc : List Sn) (a : Ad3) : List Sn :=
  match acc.getLast? with
  | some g => if g.person = a.1 ∧ a.2.1 - g.to_ ≤ gap then acc.dropLast ++ [⟨a.1, g.from_, a.2.1, insG bLt g.items a.2.2⟩] else acc ++ [⟨a.1, a.2.1, a.2.1, [a.2.2]⟩]
  | none => acc ++ [⟨a.1, a.2.1, a.2.1, [a.2.2]⟩]
theorem allStep_last (gap : Int) (acc : List Sn) (g : Sn) (a : Ad3) : allStep gap (acc ++ [g]) a = if g.person = a.1 ∧ a.2.1 - g.to_ ≤ gap then acc ++ [⟨a.1, g.from_, a.2.1, insG bLt g.items a.2.2⟩] else (acc ++ [g]) ++ [⟨a.1, a.2.1, a.2.1, [a.2.2]⟩] := by
  unfold allStep
  rw [List.getLast?_append, List.getLast?_singleton, Option.some_or, List.dropLast_concat]
def allL (gap : Int) (L : List Ad3) : List Sn := L.foldl (allStep gap) []
theorem all_same (gap : Int) (hg : 0 ≤ gap) (p : ByteArray) (t : Int) : ∀ (its : List ByteArray) (acc : List Sn) (f : Int) (X : List ByteArray), (its.map fun i => ((p, t, i) : Ad3)).foldl (allStep gap) (acc ++ [⟨p, f, t, setT X⟩]) = acc ++ [⟨p, f, t, setT (X ++ its)⟩]
  | [], acc, f, X => by simp
  | i :: its, acc, f, X => by
    have ih := all_same gap hg p t its acc f (X ++ [i])
    rw [List.map_cons, List.foldl_cons, allStep_last, if_pos ⟨rfl, by simp only; omega⟩, ins_setT, ih]
    simp
theorem setT_one (i : ByteArray) : setT [i] = [i] := by simp [setT, dedT, sortT]
theorem all_tick (gap : Int) (hg : 0 ≤ gap) (p : ByteArray) (k : Ticks) (t : Int) (hne : tickAt k t ≠ []) :
    (∀ (acc : List Sn), (∀ g, acc.getLast? = some g → g.person ≠ p ∨ gap < t - g.to_) → (flatT p k t).foldl (allStep gap) acc = acc ++ [⟨p, t, t, setT (tickAt k t)⟩]) ∧
    (∀ (acc : List Sn) (f u : Int) (X : List ByteArray), t - u ≤ gap → (flatT p k t).foldl (allStep gap) (acc ++ [⟨p, f, u, setT X⟩]) = acc ++ [⟨p, f, t, setT (X ++ tickAt k t)⟩]) := by
  have hex : setT (tickAt k t) ≠ [] := by
    intro h
    cases hq : tickAt k t with
    | nil => exact hne hq
    | cons y l =>
      have : y ∈ setT (tickAt k t) := setT_mem.2 (by rw [hq]; simp)
      rw [h] at this
      simp at this
  unfold flatT
  cases hs : setT (tickAt k t) with
  | nil => exact absurd hs hex
  | cons i its =>
    have hss : setT (i :: its) = setT (tickAt k t) := by rw [← hs, setT_setT]
    refine ⟨fun acc hacc => ?_, fun acc f u X hu => ?_⟩
    · have h1 : allStep gap acc (p, t, i) = acc ++ [⟨p, t, t, setT [i]⟩] := by
        unfold allStep
        rw [setT_one]
        cases hl : acc.getLast? with
        | none => rfl
        | some g =>
          simp only
          rw [if_neg]
          rintro ⟨h2, h3⟩
          rcases hacc g hl with h | h
          · exact h h2
          · have h3 : t - g.to_ ≤ gap := h3
            omega
      rw [List.map_cons, List.foldl_cons, h1, all_same gap hg]
      rw [show [i] ++ its = i :: its from rfl, hss, hs]
    · rw [List.map_cons, List.foldl_cons, allStep_last, if_pos ⟨rfl, hu⟩, ins_setT, all_same gap hg]
      have : setT (X ++ [i] ++ its) = setT (X ++ tickAt k t) := setT_congr fun x => by
        have hx : x ∈ i :: its ↔ x ∈ tickAt k t := by rw [← hs]; exact setT_mem
        have h4 : x ∈ X ++ [i] ++ its ↔ x ∈ X ∨ x ∈ i :: its := by simp [or_assoc]
        rw [h4, hx, List.mem_append]
      rw [this]
theorem all_person (gap : Int) (hg : 0 ≤ gap) (p : ByteArray) (k : Ticks) (acc : List Sn) (hacc : ∀ g, acc.getLast? = some g → g.person ≠ p) : ∀ ts : List Int, (∀ t ∈ ts, tickAt k t ≠ []) → (ts.flatMap (flatT p k)).foldl (allStep gap) acc = acc ++ (grpsL gap k ts).map (snOf p) := by
  refine snoc_ind (fun _ => by simp [grpsL]) fun ts t ih h => ?_
  have ih := ih fun x hx => h x (by simp [hx])
  obtain ⟨hA, hB⟩ := all_tick gap hg p k t (h t (by simp))
  rw [List.flatMap_append, List.foldl_append, ih, grpsL_snoc]
  simp only [List.flatMap_cons, List.flatMap_nil, List.append_nil]
  generalize grpsL gap k ts = G
  clear ih
  unfold grpStep
  cases hG : G.getLast? with
  | none =>
    have : G = [] := by simpa using hG
    subst this
    simp only [List.map_nil, List.append_nil, List.map_cons]
    rw [hA acc fun g hl => .inl (hacc g hl)]
    rfl
  | some g =>
    obtain ⟨G', rfl⟩ : ∃ G', G = G' ++ [g] := by
      have := List.getLast?_eq_some_iff.1 hG
      obtain ⟨ys, h⟩ := this
      exact ⟨ys, h⟩
    simp only [List.dropLast_concat]
    by_cases hc : gap < t - g.2.1
    · rw [if_pos hc, hA _ fun g' hl => ?_]
      · simp [snOf]
      · rw [List.map_append, ← List.append_assoc, List.map_cons, List.map_nil, List.getLast?_append, List.getLast?_singleton, Option.some_or] at hl
        injection hl with hl
        subst hl
        exact .inr hc
    · rw [if_neg hc, List.map_append, ← List.append_assoc, List.map_cons, List.map_nil]
      rw [show snOf p g = ⟨p, g.1, g.2.1, setT g.2.2⟩ from rfl, hB _ _ _ _ (by omega), List.map_append, List.append_assoc]
      rfl
theorem sn_person {gap : Int} {ss : Ses} {p : ByteArray} {x : Sn} (h : x ∈ snsOf gap ss p) : x.person = p := by
  unfold snsOf at h
  obtain ⟨g, _, rfl⟩ := List.mem_map.1 h
  rfl
theorem all_people (gap : Int) (hg : 0 ≤ gap) (ss : Ses) (hne : ∀ p t, t ∈ (tks ss p).map (·.1) → tickAt (tks ss p) t ≠ []) : ∀ (ps : List ByteArray) (acc : List Sn), ps.Nodup → (∀ g, acc.getLast? = some g → g.person ∉ ps) → (ps.flatMap (flatP ss)).foldl (allStep gap) acc = acc ++ ps.flatMap (snsOf gap ss)
  | [], acc, _, _ => by simp
  | p :: ps, acc, hn, hl => by
    rw [List.nodup_cons] at hn
    rw [List.flatMap_cons, List.foldl_append, List.flatMap_cons]
    have h1 : (flatP ss p).foldl (allStep gap) acc = acc ++ snsOf gap ss p := all_person gap hg p (tks ss p) acc (fun g hg he => hl g hg (by rw [he]; simp)) _ fun t ht => hne p t (sortI_mem.1 ht)
    rw [h1, all_people gap hg ss hne ps _ hn.2 ?_, List.append_assoc]
    intro g hgl
    rw [List.getLast?_append] at hgl
    cases hq : (snsOf gap ss p).getLast? with
    | none =>
      rw [hq, Option.none_or] at hgl
      exact fun hm => hl g hgl (by simp [hm])
    | some x =>
      rw [hq, Option.some_or] at hgl
      injection hgl with hgl
      subst hgl
      rw [sn_person (List.mem_of_getLast? hq)]
      exact hn.1
theorem sns_all (gap : Int) (hg : 0 ≤ gap) (l : List Ev) : allL gap (insAll ahB (l.map adE)) = snsAll gap (ssOf l) := by
  have h := ss_is l
  rw [← flatS_is]
  unfold allL flatS snsAll
  rw [all_people gap hg (ssOf l) (fun p t ht hne => ?_) _ [] ((sortT_perm _).nodup_iff.2 (keys_nodup h.keys)) (by simp), List.nil_append]
  obtain ⟨e, he, e1, e2⟩ := (h.tick p t).1 ht
  have := (h.item p t e.item).2 ⟨e, he, e1, e2, rfl⟩
  rw [hne] at this
  simp at this
end Go.Proofs.YtoancknoinilaaaGreatDoor


/- What the score's reference tells, in plain words. -/
namespace Go.Proofs.YtoancknoinilaaaGreatDoor
open Go.Se Go.RowKit

theorem weight_neg {age half : Int} (h : age < 0) : weightF age half = 0 := by unfold weightF; rw [if_pos h]
theorem rest_semi (r : ByteArray) : restOf (semi r) = r := by
  have hl : (semi r).data.toList = 59 :: r.data.toList := by unfold semi; simp
  have hp : placeN (semi r) = some 0 := by unfold placeN; rw [hl]; rfl
  unfold restOf
  rw [hp]
  simp only
  apply ba_list
  have h2 : ∀ s : ByteArray, s.toList = s.data.toList := fun s => by rw [ByteArray.toList_eq]
  rw [h2, h2, extract_list, hl]
  have : (semi r).size = r.size + 1 := by
    have := congrArg List.length hl
    simpa using this
  rw [this]
  simp
  exact List.take_of_length_le (by simp)
theorem tags_semi (s : ByteArray) : tagsOf (semi (restOf s)) = tagsOf s := by rw [rest_tags, rest_semi, rest_tags s]
theorem tags_semi0 : tagsOf (semi ⟨#[]⟩) = [] := by rw [rest_tags, rest_semi, if_pos rfl]
def TgOk (l : List ByteArray) : Prop := (∀ t ∈ l, isName t = true) ∧ SG bLt l ∧ l.length ≤ 8
theorem tgOk_of {l : List ByteArray} (h : tagsOk l = true) (h8 : l.length ≤ 8) : TgOk l := by
  unfold tagsOk at h
  rw [List.all_eq_true] at h
  have hk : ∀ i (hi : i < l.length), isName l[i] = true ∧ (i = 0 ∨ bLt (l.getD (i - 1) .empty) l[i] = true) := fun i hi => by
    have := h i (List.mem_range.2 hi)
    unfold tagOk at this
    rw [getD_lt hi] at this
    simpa using this
  refine ⟨fun t ht => ?_, ?_, h8⟩
  · obtain ⟨i, hi, rfl⟩ := List.getElem_of_mem ht
    exact (hk i hi).1
  · have hs : ∀ d i (hi : i + d + 1 < l.length), bLt (l[i]'(by omega)) (l[i + d + 1]'hi) = true := by
      intro d
      induction d with
      | zero =>
        intro i hi
        have := (hk (i + 1) hi).2
        rw [Nat.add_sub_cancel, getD_lt (by omega)] at this
        rcases this with h | h
        · omega
        · exact h
      | succ d ih =>
        intro i hi
        have h1 := ih i (by omega)
        have := (hk (i + (d + 1) + 1) hi).2
        rw [show i + (d + 1) + 1 - 1 = i + d + 1 by omega, getD_lt (by omega)] at this
        rcases this with h | h
        · omega
        · exact bLt_trans h1 h
    unfold SG
    rw [List.pairwise_iff_getElem]
    intro i j hi hj hij
    have := hs (j - i - 1) i (by omega)
    have e : i + (j - i - 1) + 1 = j := by omega
    simp only [e] at this
    exact this
theorem st_tags (name : ByteArray) : ∀ es : List Ev, (∀ e ∈ es, mayB e = true) → TgOk (tagsOf (semi (stAll name es).item.tags)) := by
  refine snoc_ind (fun _ => ?_) fun es e ih h => ?_
  · show TgOk (tagsOf (semi ⟨#[]⟩))
    rw [tags_semi0]
    exact ⟨by simp, List.Pairwise.nil, by simp⟩
  · have ih := ih fun x hx => h x (by simp [hx])
    have he := h e (by simp)
    rw [stAll_snoc]
    unfold stStep
    split
    · next hk =>
      show TgOk (tagsOf (semi (restOf e.text)))
      rw [tags_semi]
      have hl : labelB e.text = true := by
        rcases kind_cases (may_iff.1 he).kind with hq | hq | hq | hq | hq | hq | hq
        all_goals first | (exfalso; omega) | exact hq.2.2.2.1
      unfold labelB at hl
      simp only [Bool.and_eq_true] at hl
      exact tgOk_of hl.2.1 (by simpa using hl.2.2)
    · split
      · exact ih
      · exact ih
theorem it_tags (name : ByteArray) (es : List Ev) (h : ∀ e ∈ es, mayB e = true) : TgOk (tagsOf (semi (itOf name es).tags)) := by
  unfold itOf
  split
  · show TgOk (tagsOf (semi ⟨#[]⟩))
    rw [tags_semi0]
    exact ⟨by simp, List.Pairwise.nil, by simp⟩
  · exact st_tags name es h
def tagsR (cs : List Ev) (e : Ev) : List ByteArray := if e.item = ⟨#[]⟩ then [] else tagsOf (semi (itOf e.item (cs.filter (thQ e.item e.at_))).tags)
def rowsS (z : List Ev) : List Ev × List Row := z.foldl (fun s e => (s.1 ++ [e], s.2 ++ if peB e = true then [(e, tagsR (thingsE s.1) e)] else [])) ([], [])
def rowsR (z : List Ev) : List Row := (rowsS z).2
theorem rowsS_1 : ∀ z : List Ev, (rowsS z).1 = z := by
  refine snoc_ind rfl fun z e ih => ?_
  unfold rowsS at *
  rw [List.foldl_append]
  simp only [List.foldl_cons, List.foldl_nil]
  rw [ih]
theorem rowsR_snoc (z : List Ev) (e : Ev) : rowsR (z ++ [e]) = rowsR z ++ if peB e = true then [(e, tagsR (thingsE z) e)] else [] := by
  have h := rowsS_1 z
  unfold rowsR rowsS at *
  rw [List.foldl_append]
  simp only [List.foldl_cons, List.foldl_nil]
  rw [h]
theorem tagStep_mem {l : List ByteArray} {t x : ByteArray} : x ∈ tagStep l t ↔ x ∈ l ∨ (x = t ∧ isName t = true) := by
  unfold tagStep
  split
  · next h =>
    rw [List.mem_append, List.mem_singleton]
    have hn : isName t = true := by simp at h; exact h.1
    simp [hn]
  · next h =>
    constructor
    · exact .inl
    · rintro (h1 | ⟨rfl, h2⟩)
      · exact h1
      · rw [h2, Bool.true_and, Bool.not_eq_true, Bool.not_eq_false', Lib.containsS_iff] at h
        exact h
theorem tagsD_mem {x : ByteArray} (tg : List ByteArray) : x ∈ tagsD tg ↔ x ∈ tg ∧ isName x = true := by
  have : ∀ (tg l : List ByteArray), x ∈ tg.foldl tagStep l ↔ x ∈ l ∨ (x ∈ tg ∧ isName x = true) := by
    intro tg
    induction tg with
    | nil => intro l; simp
    | cons t tg ih =>
      intro l
      rw [List.foldl_cons, ih, tagStep_mem, List.mem_cons]
      constructor
      · rintro ((h | ⟨rfl, h⟩) | ⟨h1, h2⟩)
        · exact .inl h
        · exact .inr ⟨.inl rfl, h⟩
        · exact .inr ⟨.inr h1, h2⟩
      · rintro (h | ⟨rfl | h1, h2⟩)
        · exact .inl (.inl h)
        · exact .inl (.inr ⟨rfl, h2⟩)
        · exact .inr ⟨h1, h2⟩
  unfold tagsD
  rw [this]
  simp
theorem tagsD_nodup (tg : List ByteArray) : (tagsD tg).Nodup := by
  have : ∀ (tg l : List ByteArray), l.Nodup → (tg.foldl tagStep l).Nodup := by
    intro tg
    induction tg with
    | nil => intro l h; exact h
    | cons t tg ih =>
      intro l h
      rw [List.foldl_cons]
      refine ih _ ?_
      unfold tagStep
      split
      · next hc =>
        have hn : t ∉ l := by
          intro hm
          have := (Lib.containsS_iff _ _).2 hm
          rw [this] at hc
          simp at hc
        rw [List.nodup_append]
        refine ⟨h, by simp, ?_⟩
        intro a ha b hb
        rw [List.mem_singleton] at hb
        subst hb
        exact fun e => hn (e ▸ ha)
      · exact h
  exact this tg [] List.nodup_nil
theorem thing_may {z : List Ev} (h : ∀ e ∈ z, mayB e = true) : ∀ e ∈ thingsE z, mayB e = true := fun e he => h e (List.mem_filter.1 he).1
theorem thing_rise {z : List Ev} (h : Rise z) : Rise (thingsE z) := h.sublist List.filter_sublist
theorem tags_same {cs : List Ev} (hr : Rise cs) (hm : ∀ e ∈ cs, mayB e = true) (ht : ∀ e ∈ cs, thB e = true) (e : Ev) (x : ByteArray) : x ∈ tagsD (tagsAt cs e) ↔ x ∈ tagsR cs e := by
  have hsub : ∀ y ∈ cs.filter (thQ e.item e.at_), mayB y = true := fun y hy => hm y (List.mem_filter.1 hy).1
  have htg := it_tags e.item (cs.filter (thQ e.item e.at_)) hsub
  rw [tagsD_mem]
  unfold tagsAt tagsR
  rw [catAt_def hr]
  simp only
  by_cases h0 : cs.filter (thQ e.item e.at_) = []
  · rw [h0]
    simp only [List.isEmpty_nil, Bool.not_true, Bool.false_eq_true, if_false, List.not_mem_nil, false_and]
    have : tagsOf (semi (itOf e.item []).tags) = [] := tags_semi0
    rw [this]
    simp
  · have h1 : (cs.filter (thQ e.item e.at_)).isEmpty = false := by simpa using h0
    rw [h1]
    simp only [Bool.not_false, if_true]
    have h2 : e.item ≠ ⟨#[]⟩ := by
      intro hi
      cases hq : cs.filter (thQ e.item e.at_) with
      | nil => exact h0 hq
      | cons y l =>
        have hy : y ∈ cs.filter (thQ e.item e.at_) := by rw [hq]; simp
        have hyc := List.mem_filter.1 hy
        have hyi : y.item = e.item := by
          have := hyc.2
          unfold thQ at this
          simp at this
          exact this.1
        have hyn : isName y.item = true := by
          have hk := ht y hyc.1
          unfold thB at hk
          simp only [decide_eq_true_eq] at hk
          rcases kind_cases (may_iff.1 (hm y hyc.1)).kind with hq | hq | hq | hq | hq | hq | hq
          all_goals first | (exfalso; omega) | exact hq.2.2.1
        rw [hyi, hi] at hyn
        exact absurd hyn (by decide)
    rw [if_neg h2]
    constructor
    · exact fun h => h.1
    · exact fun h => ⟨h, htg.1 x h⟩
def tstE (half now : Int) (R : List Row) (t : ByteArray) : Int := ((R.filter fun r => decide (t ∈ r.2)).map fun r => tstN half now r.1).sum
theorem tstE_snoc (half now : Int) (R : List Row) (r : Row) (t : ByteArray) : tstE half now (R ++ [r]) t = tstE half now R t + if t ∈ r.2 then tstN half now r.1 else 0 := by
  unfold tstE
  rw [List.filter_append, List.map_append, List.sum_append]
  by_cases h : t ∈ r.2 <;> simp [h]
theorem rowsOf_snoc (R : List Row) (r : Row) (person : ByteArray) : rowsOf (R ++ [r]) person = rowsOf R person ++ if r.1.person = person then [r] else [] := by
  unfold rowsOf
  rw [List.filter_append]
  by_cases h : r.1.person = person <;> simp [h]
theorem count_rs (width : Int) (z : List Ev) (e : Ev) : (countAll width (z ++ [e])).rs = (countAll width z).rs ++ if peB e = true then [(e, tagsD (tagsAt (thingsE z) e))] else [] := by
  have hc := (count_parts width z).1
  rw [countAll_snoc]
  unfold countW peB thB
  by_cases h1 : e.kind = 11 ∨ e.kind = 12 ∨ e.kind = 13
  · simp [h1]
  · rw [if_neg h1]
    by_cases h2 : e.kind = 14
    · simp [h2]
    · rw [if_neg h2, ← hc]
      simp only [h1, h2, decide_false, Bool.not_false, Bool.and_self, if_true]
      split <;> rfl
theorem tst_same (width half now : Int) (person t : ByteArray) : ∀ z : List Ev, Rise z → (∀ e ∈ z, mayB e = true) → tstS half now (rowsOf (countAll width z).rs person) t = tstE half now (rowsOf (rowsR z) person) t := by
  refine snoc_ind (fun _ _ => by simp [countAll, Cts0, rowsOf, tstS, tstE, rowsR, rowsS]) fun z e ih hr hm => ?_
  have hr1 : Rise z := (List.pairwise_append.1 hr).1
  have hm1 : ∀ x ∈ z, mayB x = true := fun x hx => hm x (by simp [hx])
  have ih := ih hr1 hm1
  rw [count_rs, rowsR_snoc]
  cases hp : peB e with
  | false => simpa using ih
  | true =>
    rw [if_pos rfl, if_pos rfl, rowsOf_snoc, rowsOf_snoc]
    simp only
    by_cases hq : e.person = person
    · rw [if_pos hq, if_pos hq, tstE_snoc, ← ih]
      have hs := tags_same (thing_rise hr1) (thing_may hm1) (fun x hx => (List.mem_filter.1 hx).2) e t
      unfold tstS
      rw [List.filter_append, List.map_append, List.sum_append]
      congr 1
      by_cases h1 : t ∈ tagsR (thingsE z) e
      · rw [if_pos h1]
        by_cases h2 : e.at_ ≤ now
        · simp [h2, hs.2 h1]
        · have : tstN half now e = 0 := by
            unfold tstN
            rw [weight_neg (by omega)]
            simp
          simp [h2, this]
      · rw [if_neg h1]
        have h3 : ¬ t ∈ tagsD (tagsAt (thingsE z) e) := fun h => h1 (hs.1 h)
        simp [h3]
    · rw [if_neg hq, if_neg hq, List.append_nil, List.append_nil, ih]
theorem count_rs_ok (width : Int) : ∀ z : List Ev, Rise z → (∀ e ∈ z, mayB e = true) → ∀ r ∈ (countAll width z).rs, mayB r.1 = true ∧ r.2.Nodup ∧ r.2.length ≤ 8 := by
  refine snoc_ind (fun _ _ r hr => by simp [countAll, Cts0] at hr) fun z e ih hR hm => ?_
  have hr1 : Rise z := (List.pairwise_append.1 hR).1
  have hm1 : ∀ x ∈ z, mayB x = true := fun x hx => hm x (by simp [hx])
  have ih := ih hr1 hm1
  rw [count_rs]
  intro r hr
  rcases List.mem_append.1 hr with hr | hr
  · exact ih r hr
  · split at hr
    · rw [List.mem_singleton] at hr
      subst hr
      refine ⟨hm e (by simp), tagsD_nodup _, Nat.le_trans (tagsD_len _) ?_⟩
      unfold tagsAt
      split
      · rw [catAt_def (thing_rise hr1)]
        exact (it_tags e.item _ fun y hy => thing_may hm1 y (List.mem_filter.1 hy).1).2.2
      · simp
    · simp at hr
def tasteV (f : ByteArray → Int) (tags : List ByteArray) : Int := (tags.map f).sum
theorem sum_ite (x : ByteArray) (n : Int) : ∀ tags : List ByteArray, tags.Nodup → (tags.map fun t => if t = x then n else 0).sum = if x ∈ tags then n else 0
  | [], _ => by simp
  | a :: tags, h => by
    rw [List.nodup_cons] at h
    have ih := sum_ite x n tags h.2
    rw [List.map_cons, List.sum_cons, ih]
    by_cases hx : a = x
    · subst hx
      rw [if_pos rfl, if_neg h.1, if_pos (by simp)]; omega
    · rw [if_neg hx]
      by_cases h2 : x ∈ tags
      · rw [if_pos h2, if_pos (by simp [h2])]; omega
      · rw [if_neg h2, if_neg (by simp [h2]; exact fun e => hx e.symm)]; omega
theorem sum_add {α : Type} (f g : α → Int) : ∀ l : List α, (l.map fun x => f x + g x).sum = (l.map f).sum + (l.map g).sum
  | [] => rfl
  | x :: l => by
    have := sum_add f g l
    simp only [List.map_cons, List.sum_cons]
    omega
theorem sum_keys {tags : List ByteArray} (ht : tags.Nodup) : ∀ L : List (ByteArray × Int), L.Pairwise (fun x y => x.1 ≠ y.1) → ((L.filter fun x => decide (x.1 ∈ tags)).map (·.2)).sum = (tags.map fun t => (alook L t).getD 0).sum
  | [], _ => by
    have : (tags.map fun t => (alook ([] : List (ByteArray × Int)) t).getD 0).sum = 0 := sum_map_zero _ fun x _ => rfl
    rw [this]; rfl
  | x :: L, h => by
    rw [List.pairwise_cons] at h
    have ih := sum_keys ht L h.2
    have h0 : alook L x.1 = none := alook_none.2 fun y hy e => h.1 y hy e.symm
    have hs : (tags.map fun t => (alook (x :: L) t).getD 0) = tags.map fun t => (if t = x.1 then x.2 else 0) + (alook L t).getD 0 := by
      apply List.map_congr_left
      intro t _
      rw [alook_cons]
      by_cases hx : t = x.1
      · rw [if_pos hx, if_pos hx, hx, h0]; simp
      · rw [if_neg hx, if_neg hx]; omega
    rw [hs, sum_add, sum_ite _ _ _ ht, ← ih, List.filter_cons]
    by_cases hx : x.1 ∈ tags
    · rw [if_pos (by simp [hx]), if_pos hx, List.map_cons, List.sum_cons]
    · rw [if_neg (by simp [hx]), if_neg hx]; omega
theorem alook_filter {L : List (ByteArray × Int)} (h : L.Pairwise (fun x y => x.1 ≠ y.1)) (hp : ∀ t, 0 ≤ (alook L t).getD 0) (t : ByteArray) : (alook (L.filter fun x => decide (0 < x.2)) t).getD 0 = (alook L t).getD 0 := by
  induction L with
  | nil => rfl
  | cons x L ih =>
    rw [List.pairwise_cons] at h
    have h0 : alook L x.1 = none := alook_none.2 fun y hy e => h.1 y hy e.symm
    have hp' : ∀ t, 0 ≤ (alook L t).getD 0 := fun t => by
      by_cases hx : t = x.1
      · rw [hx, h0]; simp
      · have := hp t
        rw [alook_cons, if_neg hx] at this
        exact this
    have ih := ih h.2 hp'
    have hx0 : 0 ≤ x.2 := by
      have := hp x.1
      rw [alook_cons, if_pos rfl] at this
      exact this
    rw [List.filter_cons]
    by_cases h1 : 0 < x.2
    · rw [if_pos (by simpa using h1), alook_cons, alook_cons]
      split
      · rfl
      · exact ih
    · rw [if_neg (by simpa using h1), ih, alook_cons]
      split
      · next hx =>
        rw [hx, h0]
        simp
        omega
      · rfl
theorem taste_sum {half now : Int} {rows : List Row} (hr : ∀ r ∈ rows, mayB r.1 = true ∧ r.2.Nodup) (hl : rows.length < 1000000) {tags : List ByteArray} (ht : tags.Nodup) {F : List (ByteArray × Int)} (hF : F.Perm (tstL half now rows)) :
    ((F.filter fun x => decide (x.1 ∈ tags)).map (·.2)).sum = tasteV (tstS half now rows) tags := by
  rw [perm_sum ((hF.filter _).map _)]
  have hk := tstM_keys half now rows
  have hk2 : (tstL half now rows).Pairwise (fun x y => x.1 ≠ y.1) := hk.sublist List.filter_sublist
  rw [sum_keys ht _ hk2]
  unfold tasteV
  congr 1
  apply List.map_congr_left
  intro t _
  have hg := fun t => tst_get half now t rows hr hl
  unfold tstL
  rw [alook_filter hk fun t => by rw [(hg t).1]; exact (hg t).2.1]
  exact (hg t).1
def riseV (c : Cfg) (fresh old : Int) : Int := if fresh = 0 ∨ fresh < c.floor then 0 else min (fresh * 1048576 / (old + 1)) 1099511627776
end Go.Proofs.YtoancknoinilaaaGreatDoor


/- Small things that several texts use. -/
namespace Go.Proofs.YtoancknoinilaaaGreatDoor
open Go.Se Go.RowKit

abbrev Ct := ByteArray × Int
def cntC (x : Ct) : List Value := [.string x.1, .int .i64 x.2]
theorem cntC_len (x : Ct) : (cntC x).length = 2 := rfl
theorem cntC_one (x : Ct) : ∀ u ∈ cntC x, u.oneCell' = true := by simp [cntC, Value.oneCell']
theorem rowCt : RowT Tryz.prog 163 166 cntC 2 24 := ⟨by kernel_rfl, ⟨_, ty166_ok, rfl, rfl⟩, by166, by decide, by decide, cntC_len, cntC_one⟩
theorem wp_may {z : List Ev} (h : ∀ e ∈ z, mayB e = true) : ∀ e ∈ z.filter wpB, mayB e = true := fun e he => h e (List.mem_filter.1 he).1
theorem may_at {e : Ev} (h : mayB e = true) : 0 ≤ e.at_ ∧ e.at_ ≤ 1099511627776 := by
  have := (may_iff.1 h).at_
  exact this
theorem cfg_is {c : Cfg} (h : cfgB c = true) : (1 ≤ c.half ∧ c.half ≤ 1099511627776) ∧ (1 ≤ c.width ∧ c.width ≤ 1099511627776) ∧ (1 ≤ c.span ∧ c.span ≤ 1099511627776) ∧ c.span.tmod c.width = 0 ∧ (0 ≤ c.gap ∧ c.gap ≤ 1099511627776) ∧ (0 ≤ c.floor ∧ c.floor ≤ 1048576) ∧ (0 ≤ c.crowd ∧ c.crowd ≤ 1048576) := by
  unfold cfgB inB at h
  simp only [Bool.and_eq_true, decide_eq_true_eq] at h
  obtain ⟨⟨⟨⟨⟨⟨h1, h2⟩, h3⟩, h4⟩, h5⟩, h6⟩, h7⟩ := h
  exact ⟨h1, h2, h3, h4, h5, h6, h7⟩
theorem half_id {n : Int} (h : 1 ≤ n ∧ n ≤ 1099511627776) : halfN n = n := by unfold halfN; omega
theorem div_small {t width : Int} (hw : 1 ≤ width) (h : -4398046511104 ≤ t ∧ t ≤ 4398046511104) : -4398046511104 ≤ t / width ∧ t / width ≤ 4398046511104 := by
  constructor
  · rw [Int.le_ediv_iff_mul_le (by omega)]
    have : -4398046511104 * width ≤ -4398046511104 * 1 := Int.mul_le_mul_of_nonpos_left (by omega) (by omega)
    omega
  · rcases Int.lt_or_le t 0 with h1 | h1
    · have := Int.ediv_neg_of_neg_of_pos h1 (show 0 < width by omega)
      omega
    · have := Int.ediv_le_self width h1
      omega
theorem tags_filter {w : World} {T : Nat → Prop} (person : ByteArray) : ∀ {D : List (Ev × SV)} {rs : List Row}, TagsOk w T D rs → TagsOk w T (deedsOf D person) (rowsOf rs person)
  | [], rs, h => by
    have : rs = [] := by have := h.len; simpa using this.symm
    subst this
    exact h
  | d :: D, [], h => by have := h.len; simp at this
  | d :: D, r :: rs, h => by
    have h0 := h.ev 0 d r rfl rfl
    have hT : TagsOk w T D rs := ⟨by have := h.len; simpa using this, fun i d r hd hr => h.ev (i + 1) d r hd hr⟩
    have ih := tags_filter person hT
    unfold deedsOf rowsOf at *
    simp only [List.filter_cons, h0.1]
    split
    · refine ⟨by simp [ih.len], fun i d' r' hd hr => ?_⟩
      cases i with
      | zero =>
        simp at hd hr
        subst hd; subst hr
        exact h0
      | succ i => exact ih.ev i d' r' (by simpa using hd) (by simpa using hr)
    · exact ih
theorem TagsOk.ext {w w1 : World} {T : Nat → Prop} {D : List (Ev × SV)} {rs : List Row} (h : TagsOk w T D rs) (hT : ∀ k, T k → k < w.heap.size) (hx : Ext w w1) : TagsOk w1 T D rs :=
  ⟨h.len, fun i d r hd hr => by
    obtain ⟨h1, h2, h3, h4⟩ := h.ev i d r hd hr
    exact ⟨h1, h2, h3.ext hx, h4⟩⟩
theorem ext_mod {w w1 w2 : World} {T : Nat → Prop} (hx : Ext w w1) (hT : ∀ k, T k → w.heap.size ≤ k) (hM : Mod T w1 w2) : Ext w w2 :=
  (mod_trans_grow (Mod.of_ext (S := fun _ => False) hx) (hM.mono fun k _ hk => .inr (hT k hk))).ext fun _ _ h => h
def snsE (c : Cfg) (z : List Ev) : List Sn := snsAll (gapN c.gap) (ssOf (z.filter wpB))
def kinF (c : Cfg) (z : List Ev) (person item : ByteArray) : Int := 1048576 * (bestF (snsE c z) item (histE z person)).1 / (bestF (snsE c z) item (histE z person)).2
def itAt (z : List Ev) (item : ByteArray) (now : Int) : It := itOf item ((thingsE z).filter (thQ item now))
def paneB (c : Cfg) (now : Int) : Int := now - now.tmod (halfN c.width)
end Go.Proofs.YtoancknoinilaaaGreatDoor
