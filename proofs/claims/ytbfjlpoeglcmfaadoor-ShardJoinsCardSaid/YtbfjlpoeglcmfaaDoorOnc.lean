
/- Of each identity the event that counts, with no program in sight: its text tells an event; what is joined hangs on no order. -/
import Derived.Test.YtbfjlpoeglcmfaaDoorTxt
import Derived.Test.YtbfjlpoeglcmfaaDoorSo6
set_option linter.unusedVariables false
set_option linter.unusedSimpArgs false
namespace Go.Proofs.YtbfjlpoeglcmfaaDoor
open Go.Se

/-! ### The text of an event tells it -/
def valD (l : List UInt8) : Nat := l.foldl (fun a c => 10 * a + (c.toNat - 48)) 0
theorem dig_nat (m : Nat) : (UInt8.ofNat (48 + m % 10)).toNat = 48 + m % 10 := by
  rw [UInt8.toNat_ofNat']; omega
theorem dec_small {m : Nat} (h : ¬ 9 < m) : Lib.decDigits m = [UInt8.ofNat (48 + m % 10)] := by
  rw [Lib.decDigits_one (by omega), Nat.mod_eq_of_lt (by omega)]
theorem valD_dec (m : Nat) : valD (Lib.decDigits m) = m := by
  induction m using Nat.strongRecOn with
  | ind m ih =>
    by_cases h : 9 < m
    · rw [dec_step h]
      have := ih (m / 10) (by omega)
      unfold valD at this ⊢
      rw [List.foldl_append, this]
      simp only [List.foldl_cons, List.foldl_nil, dig_nat]
      omega
    · rw [dec_small h]
      unfold valD
      simp only [List.foldl_cons, List.foldl_nil, dig_nat]
      omega
theorem dec_inj {a b : Nat} (h : Lib.decDigits a = Lib.decDigits b) : a = b := by rw [← valD_dec a, ← valD_dec b, h]
theorem dec_range (m : Nat) : ∀ c ∈ Lib.decDigits m, 48 ≤ c.toNat ∧ c.toNat ≤ 57 := by
  induction m using Nat.strongRecOn with
  | ind m ih =>
    intro c hc
    by_cases h : 9 < m
    · rw [dec_step h, List.mem_append] at hc
      rcases hc with hc | hc
      · exact ih (m / 10) (by omega) c hc
      · simp only [List.mem_singleton] at hc
        rw [hc, dig_nat]; omega
    · rw [dec_small h] at hc
      simp only [List.mem_singleton] at hc
      rw [hc, dig_nat]; omega

theorem sp_split : ∀ {a b r s : List UInt8}, (∀ x ∈ a, x ≠ 32) → (∀ x ∈ b, x ≠ 32) → a ++ 32 :: r = b ++ 32 :: s → a = b ∧ r = s
  | [], [], r, s, _, _, h => ⟨rfl, by simpa using h⟩
  | [], y :: b, r, s, _, hb, h => by
    simp only [List.nil_append, List.cons_append, List.cons.injEq] at h
    exact absurd h.1.symm (hb y (by simp))
  | x :: a, [], r, s, ha, _, h => by
    simp only [List.nil_append, List.cons_append, List.cons.injEq] at h
    exact absurd h.1 (ha x (by simp))
  | x :: a, y :: b, r, s, ha, hb, h => by
    simp only [List.cons_append, List.cons.injEq] at h
    obtain ⟨h1, h2⟩ := sp_split (fun z hz => ha z (by simp [hz])) (fun z hz => hb z (by simp [hz])) h.2
    exact ⟨by rw [h.1, h1], h2⟩

theorem name_sp {s : ByteArray} (h : isName s = true) : ∀ x ∈ s.data.toList, x ≠ 32 := by
  unfold isName at h
  simp only [Bool.and_eq_true] at h
  intro x hx e
  have := List.all_eq_true.1 h.2 x hx
  rw [e] at this
  exact absurd this (by decide)
def dotB : ByteArray := ⟨#[46]⟩
theorem name_dot {s : ByteArray} (h : isName s = true) : s ≠ dotB := by
  rintro rfl
  exact absurd h (by decide)
theorem label_dot {s : ByteArray} (h : labelB s = true) : s ≠ dotB := by
  rintro rfl
  unfold labelB at h
  simp only [Bool.and_eq_true] at h
  exact absurd h.1.1 (by decide)
theorem empty_dot : (⟨#[]⟩ : ByteArray) ≠ dotB := by
  intro h
  have := congrArg ByteArray.size h
  exact absurd this (by decide)
theorem some_inj {s t : ByteArray} (hs : s ≠ dotB) (ht : t ≠ dotB) (h : someB s = someB t) : s = t := by
  unfold someB at h
  by_cases h1 : s = ⟨#[]⟩ <;> by_cases h2 : t = ⟨#[]⟩ <;> simp only [h1, h2, decide_true, decide_false, cond_true, cond_false] at h
  · rw [h1, h2]
  · exact absurd h.symm ht
  · exact absurd h hs
  · exact h
theorem some_sp {s : ByteArray} (h : s = ⟨#[]⟩ ∨ isName s = true) : ∀ x ∈ (someB s).data.toList, x ≠ 32 := by
  rcases h with rfl | h
  · decide
  · unfold someB
    by_cases h1 : s = ⟨#[]⟩
    · rw [h1] at h; exact absurd h (by decide)
    · simp only [h1, decide_false, cond_false]; exact name_sp h
theorem kn_sp : ∀ k, k < 15 → ∀ x ∈ (kindNames.getD k .empty).data.toList, x ≠ 32 := by decide +kernel
theorem kn_inj : ∀ k, k < 15 → ∀ j, j < 15 → (kindNames.getD k .empty).data.toList = (kindNames.getD j .empty).data.toList → k = j := by decide +kernel

/-- The parts of what may be. -/
theorem may_parts {e : Ev} (h : mayB e = true) : (e.person = ⟨#[]⟩ ∨ isName e.person = true) ∧ (e.item = ⟨#[]⟩ ∨ isName e.item = true) ∧ e.text ≠ dotB ∧ 0 ≤ e.val ∧ 0 ≤ e.kind ∧ e.kind < 15 := by
  rcases kind_cases (may_iff.1 h).kind with ⟨hk, h1, h2, h3, h4⟩ | ⟨hk, h1, h2, h3, h4⟩ | ⟨hk, h1, h2, h3, h4⟩ | ⟨hk, h1, h2, h3, h4⟩ | ⟨hk, h1, h2, h3, h4⟩ | ⟨hk, h1, h2, h3, h4⟩ | ⟨hk, h1, h2, h3, h4⟩
  · exact ⟨.inr h1, .inr h2, h3 ▸ empty_dot, by omega, by omega, by omega⟩
  · exact ⟨.inr h1, .inr h2, h3 ▸ empty_dot, by omega, by omega, by omega⟩
  · exact ⟨.inr h1, .inl h2, name_dot h3, by omega, by omega, by omega⟩
  · exact ⟨.inl h1, .inr h2, label_dot h3, by omega, by omega, by omega⟩
  · exact ⟨.inl h1, .inr h2, h3 ▸ empty_dot, by omega, by omega, by omega⟩
  · exact ⟨.inl h1, .inr h2, h3 ▸ empty_dot, by omega, by omega, by omega⟩
  · exact ⟨.inr h1, .inl h2, h3 ▸ empty_dot, by omega, by omega, by omega⟩
theorem nameEmpty_dot {s : ByteArray} (h : s = ⟨#[]⟩ ∨ isName s = true) : s ≠ dotB := by
  rcases h with rfl | h
  · exact empty_dot
  · exact name_dot h

theorem fmt_list (e : Ev) : (fmtB e).data.toList = (e.src.data.toList ++ 32 :: (Lib.decDigits e.num.toNat ++ 32 :: (Lib.decDigits e.at_.toNat ++ [32]))) ++
    ((knB e).data.toList ++ 32 :: ((someB e.person).data.toList ++ 32 :: ((someB e.item).data.toList ++ 32 :: (Lib.decDigits e.val.toNat ++ 32 :: (someB e.text).data.toList)))) := by
  unfold fmtB digB bytesOf spB
  simp
theorem data_inj {a b : ByteArray} (h : a.data.toList = b.data.toList) : a = b := ByteArray.ext (Array.ext' h)
theorem fmt_inj {a b : Ev} (ha : mayB a = true) (hb : mayB b = true) (h1 : a.src = b.src) (h2 : a.num = b.num) (h3 : a.at_ = b.at_) (h : fmtB a = fmtB b) : a = b := by
  have h' := congrArg (fun x : ByteArray => x.data.toList) h
  simp only [fmt_list] at h'
  rw [h1, h2, h3] at h'
  have h' := List.append_cancel_left h'
  obtain ⟨p1, p2, p3, p4, p5, p6⟩ := may_parts ha
  obtain ⟨q1, q2, q3, q4, q5, q6⟩ := may_parts hb
  obtain ⟨e1, h'⟩ := sp_split (kn_sp _ (by omega)) (kn_sp _ (by omega)) h'
  obtain ⟨e2, h'⟩ := sp_split (some_sp p1) (some_sp q1) h'
  obtain ⟨e3, h'⟩ := sp_split (some_sp p2) (some_sp q2) h'
  obtain ⟨e4, h'⟩ := sp_split (fun x hx e => by have := dec_range _ x hx; rw [e] at this; exact absurd this (by decide)) (fun x hx e => by have := dec_range _ x hx; rw [e] at this; exact absurd this (by decide)) h'
  have k1 := kn_inj _ (by omega) _ (by omega) e1
  have k2 := some_inj (nameEmpty_dot p1) (nameEmpty_dot q1) (data_inj e2)
  have k3 := some_inj (nameEmpty_dot p2) (nameEmpty_dot q2) (data_inj e3)
  have k4 := dec_inj e4
  have k5 := some_inj p3 q3 (data_inj h')
  apply Ev.ext <;> first | assumption | omega

/-! ### Which of two counts -/
theorem better_iff (a b : Ev) : betterB a b = true ↔ lessB a b = true ∨ (lessB b a = false ∧ bLt (fmtB a) (fmtB b) = true) := by
  unfold betterB
  cases h1 : lessB a b <;> cases h2 : lessB b a <;> simp
theorem better_irrefl (a : Ev) : betterB a a = false := by
  rw [← Bool.not_eq_true, better_iff]
  rintro (h | ⟨_, h⟩)
  · rw [less_swo.irrefl] at h; cases h
  · rw [bLt_irrefl] at h; cases h
theorem less_neg {a b c : Ev} (h1 : lessB a b = false) (h2 : lessB b c = false) : lessB a c = false := less_swo.trans c b a h2 h1
theorem less_neg_right {a b c : Ev} (h1 : lessB a b = true) (h2 : lessB c b = false) : lessB a c = true := by
  cases h : lessB a c
  · have := less_neg h h2; rw [h1] at this; cases this
  · rfl
theorem less_neg_left {a b c : Ev} (h1 : lessB b a = false) (h2 : lessB b c = true) : lessB a c = true := by
  cases h : lessB a c
  · have := less_neg h1 h; rw [h2] at this; cases this
  · rfl
theorem better_trans {a b c : Ev} (h1 : betterB a b = true) (h2 : betterB b c = true) : betterB a c = true := by
  rw [better_iff] at h1 h2 ⊢
  rcases h1 with h1 | ⟨h1, f1⟩ <;> rcases h2 with h2 | ⟨h2, f2⟩
  · exact .inl (less_neg_right h1 (less_swo.asymm _ _ h2))
  · exact .inl (less_neg_right h1 h2)
  · exact .inl (less_neg_left h1 h2)
  · exact .inr ⟨less_neg h2 h1, bLt_trans f1 f2⟩
theorem better_total {a b : Ev} (ha : mayB a = true) (hb : mayB b = true) (h1 : betterB a b = false) (h2 : betterB b a = false) : a = b := by
  rw [← Bool.not_eq_true, better_iff, not_or] at h1 h2
  have l1 : lessB a b = false := by simpa using h1.1
  have l2 : lessB b a = false := by simpa using h2.1
  obtain ⟨e1, e2, e3⟩ := less_total l1 l2
  refine fmt_inj ha hb e2 e3 e1 (bLt_tri ?_ ?_)
  · cases h : bLt (fmtB a) (fmtB b)
    · rfl
    · exact absurd ⟨l2, h⟩ h1.2
  · cases h : bLt (fmtB b) (fmtB a)
    · rfl
    · exact absurd ⟨l1, h⟩ h2.2

/-! ### Of each identity one -/
def idE (e : Ev) : ByteArray × Int := (e.src, e.num)
theorem sameId_iff {e x : Ev} : sameId e x = true ↔ idE x = idE e := by simp [sameId, idE]
structure IsOnce (l z : List Ev) : Prop where
  ids : z.Pairwise (fun a b => idE a ≠ idE b)
  all : ∀ y ∈ l, ∃ x ∈ z, idE x = idE y
  mem : ∀ x, x ∈ z ↔ x ∈ l ∧ ∀ y ∈ l, idE y = idE x → betterB y x = false
theorem ids_eq {z : List Ev} (h : z.Pairwise (fun a b => idE a ≠ idE b)) {x y : Ev} (hx : x ∈ z) (hy : y ∈ z) (he : idE x = idE y) : x = y := by
  induction z with
  | nil => cases hx
  | cons u z ih =>
    rw [List.pairwise_cons] at h
    rcases List.mem_cons.1 hx with h1 | h1 <;> rcases List.mem_cons.1 hy with h2 | h2
    · rw [h1, h2]
    · rw [h1] at he; exact absurd he (h.1 y h2)
    · rw [h2] at he; exact absurd he.symm (h.1 x h1)
    · exact ih h.2 h1 h2
theorem ids_set {z : List Ev} {k : Nat} {e : Ev} (hk : k < z.length) (he : idE z[k] = idE e) (h : z.Pairwise (fun a b => idE a ≠ idE b)) : (z.set k e).Pairwise (fun a b => idE a ≠ idE b) := by
  have h1 : (z.set k e).map idE = z.map idE := by
    rw [List.map_set, ← he]
    apply List.ext_getElem?
    intro i
    rw [List.getElem?_set]
    by_cases hi : k = i
    · subst hi; simp [hk]
    · simp [hi]
  have h2 : (z.map idE).Pairwise (· ≠ ·) := by rw [List.pairwise_map]; exact h
  rw [← h1, List.pairwise_map] at h2
  exact h2
theorem mem_set_ids {z : List Ev} {k : Nat} {e : Ev} (hk : k < z.length) (he : idE z[k] = idE e) (h : z.Pairwise (fun a b => idE a ≠ idE b)) (x : Ev) : x ∈ z.set k e ↔ x = e ∨ (x ∈ z ∧ idE x ≠ idE e) := by
  constructor
  · intro hx
    rcases List.mem_or_eq_of_mem_set hx with h1 | h1
    · by_cases hid : idE x = idE e
      · refine .inl (ids_eq (ids_set hk he h) hx (List.mem_set hk e) hid)
      · exact .inr ⟨h1, hid⟩
    · exact .inl h1
  · rintro (rfl | ⟨hx, hid⟩)
    · exact List.mem_set hk x
    · obtain ⟨i, hi, rfl⟩ := List.getElem_of_mem hx
      have hne : k ≠ i := by rintro rfl; exact hid he
      rw [List.mem_iff_getElem?]
      exact ⟨i, by rw [List.getElem?_set_ne hne]; exact List.getElem?_eq_getElem hi⟩
theorem IsOnce.step {l z : List Ev} (h : IsOnce l z) {e : Ev} (hl : ∀ x ∈ l, mayB x = true) (hm : mayB e = true) : IsOnce (l ++ [e]) (onceStep z e) := by
  have inl : ∀ {x}, x ∈ z → x ∈ l := fun hx => ((h.mem _).1 hx).1
  unfold onceStep
  cases hf : z.findIdx? (sameId e) with
  | none =>
    have hn : ∀ x ∈ z, idE x ≠ idE e := fun x hx => by
      have := List.findIdx?_eq_none_iff.1 hf x hx
      intro e'
      rw [sameId_iff.2 e'] at this; cases this
    have hn' : ∀ y ∈ l, idE y ≠ idE e := fun y hy e' => by
      obtain ⟨x, hx, hid⟩ := h.all y hy
      exact hn x hx (hid.trans e')
    simp only
    refine ⟨?_, ?_, fun x => ?_⟩
    · rw [List.pairwise_append]
      refine ⟨h.ids, by simp, fun a ha b hb => ?_⟩
      rw [List.mem_singleton.1 hb]; exact hn a ha
    · intro y hy
      rcases List.mem_append.1 hy with hy | hy
      · obtain ⟨x, hx, hid⟩ := h.all y hy
        exact ⟨x, by simp [hx], hid⟩
      · exact ⟨e, by simp, by rw [List.mem_singleton.1 hy]⟩
    · simp only [List.mem_append, List.mem_singleton]
      constructor
      · rintro (hx | rfl)
        · refine ⟨.inl (inl hx), fun y hy hid => ?_⟩
          rcases hy with hy | rfl
          · exact ((h.mem x).1 hx).2 y hy hid
          · exact absurd hid.symm (hn x hx)
        · refine ⟨.inr rfl, fun y hy hid => ?_⟩
          rcases hy with hy | rfl
          · exact absurd hid (hn' y hy)
          · exact better_irrefl _
      · rintro ⟨hx | rfl, hy⟩
        · exact .inl ((h.mem x).2 ⟨hx, fun y hyl => hy y (.inl hyl)⟩)
        · exact .inr rfl
  | some k =>
    obtain ⟨hk, hs, _⟩ := List.findIdx?_eq_some_iff_getElem.1 hf
    have hid := sameId_iff.1 hs
    have hold : z[k] ∈ z := List.getElem_mem hk
    have hmo : mayB z[k] = true := hl _ (inl hold)
    simp only
    rw [getD_lt hk]
    cases hb : betterB e z[k] with
    | false =>
      simp only [cond_false]
      refine ⟨h.ids, ?_, fun x => ?_⟩
      · intro y hy
        rcases List.mem_append.1 hy with hy | hy
        · exact h.all y hy
        · rw [List.mem_singleton.1 hy]; exact ⟨_, hold, hid⟩
      · simp only [List.mem_append, List.mem_singleton]
        constructor
        · intro hx
          refine ⟨.inl (inl hx), fun y hy he => ?_⟩
          rcases hy with hy | rfl
          · exact ((h.mem x).1 hx).2 y hy he
          · rw [ids_eq h.ids hx hold (he.symm.trans hid.symm)]; exact hb
        · rintro ⟨hx | rfl, hy⟩
          · exact (h.mem x).2 ⟨hx, fun y hyl => hy y (.inl hyl)⟩
          · rw [better_total hm hmo hb (hy _ (.inl (inl hold)) hid)]; exact hold
    | true =>
      simp only [cond_true]
      refine ⟨ids_set hk hid h.ids, ?_, fun x => ?_⟩
      · intro y hy
        by_cases he : idE y = idE e
        · exact ⟨e, List.mem_set hk e, he.symm⟩
        · rcases List.mem_append.1 hy with hy | hy
          · obtain ⟨x, hx, hxy⟩ := h.all y hy
            exact ⟨x, (mem_set_ids hk hid h.ids x).2 (.inr ⟨hx, fun e' => he (hxy.symm.trans e')⟩), hxy⟩
          · exact absurd (by rw [List.mem_singleton.1 hy]) he
      · rw [mem_set_ids hk hid h.ids x]
        simp only [List.mem_append, List.mem_singleton]
        constructor
        · rintro (rfl | ⟨hx, hne⟩)
          · refine ⟨.inr rfl, fun y hy he => ?_⟩
            rcases hy with hy | rfl
            · cases hc : betterB y x
              · rfl
              · have h1 := better_trans hc hb
                rw [((h.mem _).1 hold).2 y hy (he.trans hid.symm)] at h1; cases h1
            · exact better_irrefl _
          · refine ⟨.inl (inl hx), fun y hy he => ?_⟩
            rcases hy with hy | rfl
            · exact ((h.mem x).1 hx).2 y hy he
            · exact absurd he.symm hne
        · rintro ⟨hx | rfl, hy⟩
          · have hz := (h.mem x).2 ⟨hx, fun y hyl => hy y (.inl hyl)⟩
            refine .inr ⟨hz, fun he => ?_⟩
            have h1 := hy e (.inr rfl) he.symm
            rw [ids_eq h.ids hz hold (he.trans hid.symm), hb] at h1; cases h1
          · exact .inl rfl
theorem once_fold {l2 : List Ev} : ∀ {l z : List Ev}, IsOnce l z → (∀ x ∈ l, mayB x = true) → (∀ x ∈ l2, mayB x = true) → IsOnce (l ++ l2) (l2.foldl onceStep z) := by
  induction l2 with
  | nil => intro l z h _ _; simpa using h
  | cons e l2 ih =>
    intro l z h hl hl2
    have := ih (h.step hl (hl2 e (by simp))) (fun x hx => by
      rcases List.mem_append.1 hx with hx | hx
      · exact hl x hx
      · rw [List.mem_singleton.1 hx]; exact hl2 e (by simp)) (fun x hx => hl2 x (by simp [hx]))
    simpa using this
theorem once_is {l : List Ev} (h : ∀ x ∈ l, mayB x = true) : IsOnce l (onceL l) := by
  have := once_fold (l2 := l) (l := []) (z := []) ⟨by simp, by simp, by simp⟩ (by simp) h
  simpa [onceL] using this
theorem ids_nodup {z : List Ev} (h : z.Pairwise (fun a b => idE a ≠ idE b)) : z.Nodup := h.imp fun hne e => hne (by rw [e])
theorem IsOnce.perm {l l' z z' : List Ev} (h : IsOnce l z) (h' : IsOnce l' z') (hl : ∀ x, x ∈ l ↔ x ∈ l') : z.Perm z' := by
  refine perm_of_subs (ids_nodup h.ids) (ids_nodup h'.ids) (fun x hx => ?_) (fun x hx => ?_)
  · rw [h.mem] at hx
    rw [h'.mem]
    exact ⟨(hl x).1 hx.1, fun y hy => hx.2 y ((hl y).2 hy)⟩
  · rw [h'.mem] at hx
    rw [h.mem]
    exact ⟨(hl x).2 hx.1, fun y hy => hx.2 y ((hl y).1 hy)⟩
/-- Sorted events of unlike identities are told by what they are. -/
theorem sorted_ids {z z' : List Ev} (hp : z.Perm z') (hi : z.Pairwise (fun a b => idE a ≠ idE b)) (hs : Srt lessB z) (hs' : Srt lessB z') : z = z' :=
  srt_unique hp hs hs' fun x hx y hy h1 h2 => by
    obtain ⟨_, e2, e3⟩ := less_total h1 h2
    exact ids_eq hi hx hy (by unfold idE; rw [e2, e3])
theorem ids_perm {z z' : List Ev} (hp : z.Perm z') (hi : z'.Pairwise (fun a b => idE a ≠ idE b)) : z.Pairwise (fun a b => idE a ≠ idE b) :=
  (hp.pairwise_iff (fun h e => h e.symm)).2 hi
theorem join_unique {l l' z z' : List Ev} (hl : ∀ x, x ∈ l ↔ x ∈ l') (hm : ∀ x ∈ l, mayB x = true) (hp : z.Perm (onceL l)) (hs : Srt lessB z) (hp' : z'.Perm (onceL l')) (hs' : Srt lessB z') : z = z' := by
  have h1 := once_is hm
  have h2 := once_is (l := l') fun x hx => hm x ((hl x).2 hx)
  exact sorted_ids (hp.trans ((h1.perm h2 hl).trans hp'.symm)) (ids_perm hp h1.ids) hs hs'
end Go.Proofs.YtbfjlpoeglcmfaaDoor
