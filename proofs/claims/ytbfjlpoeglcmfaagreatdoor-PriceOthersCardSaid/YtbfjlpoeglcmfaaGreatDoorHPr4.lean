import Derived.Test.YtbfjlpoeglcmfaaGreatDoorHPr3

/- The document's catalog: behind, Things, At. -/
set_option linter.unusedVariables false
set_option linter.unusedSimpArgs false
namespace Go.Proofs.YtbfjlpoeglcmfaaGreatDoor
open Go.Se Go.RowKit

theorem rbehind_spec (s : ByteArray) (w : World) (hs : s.size < 1000000000000000000) : Cal Tryz.prog 120 [.string s] w fun r w' => r = .string (restOf s) ∧ w' = w := by
  refine fn_intro Tt_ok Tryz.func120 (by rfl) rfl _ rfl rfl (by rfl) ?_; (conv => whnf)
  refine loop_rule Tt_ok (fun (k : Nat) w' => k ≤ s.size ∧ w' = w ∧ ∀ i (hi : i < s.data.toList.length), i < k → (s.data.toList[i] == 59) = false)
    (fun k => [(0, .string s), (3, .int .i64 k)]) (fun k => s.size - k) 0 ⟨by omega, rfl, fun i _ h => by omega⟩ ⟨rfl, rfl, trivial⟩ ?_
  rintro k w1 ⟨hk, rfl, hall⟩
  (conv => whnf)
  constructor
  · intro hlt
    have hlt : k < s.size := by simpa using hlt
    have hlt' : k < s.data.toList.length := by simpa using hlt
    (conv => whnf)
    refine ⟨s.data.toList[k], ⟨by omega, bytes_at s k hlt⟩, ?_⟩; (conv => whnf)
    rw [byte59]
    refine ⟨fun hc => ?_, fun hc => ?_⟩
    · have hp : placeN s = some k := by
        unfold placeN
        rw [List.findIdx?_eq_some_iff_getElem]
        exact ⟨hlt', hc, fun j hj => by rw [hall j (by omega) hj]; simp⟩
      have hr : restOf s = s.extract (k + 1) s.size := by unfold restOf; rw [hp]
      rw [hr]
      (conv => whnf)
      refine ⟨((k + 1 : Nat) : Int), wrap_succ (by omega), ?_⟩; (conv => whnf)
      refine ⟨⟨by omega, by omega⟩, ?_⟩; (conv => whnf)
      exact ⟨rfl, rfl⟩
    · (conv => whnf)
      refine ⟨((k + 1 : Nat) : Int), wrap_succ (by omega), ?_⟩; (conv => whnf)
      refine ⟨k + 1, by omega, ⟨by omega, rfl, fun i hi hik => ?_⟩, ⟨rfl, rfl, trivial⟩⟩
      by_cases e : i = k
      · subst e; exact hc
      · exact hall i hi (by omega)
  · intro hge
    have hge : s.size ≤ k := by simpa using hge
    have hp : placeN s = none := by
      unfold placeN
      rw [List.findIdx?_eq_none_iff]
      intro x hx
      obtain ⟨i, hi, rfl⟩ := List.getElem_of_mem hx
      exact hall i hi (by have : i < s.size := by simpa using hi
                          omega)
    have hr : restOf s = ⟨#[]⟩ := by unfold restOf; rw [hp]
    rw [hr]
    (conv => whnf)
    exact ⟨rfl, rfl⟩

theorem rthings_spec (l : List Ev) (A : Option Addr) (c : Nat) (w : World) (hs : SlE w A l) (hl : l.length < 1000000) :
    Cal Tryz.prog 87 [.slice A l.length c] w fun r w' => ∃ A' c', r = .slice A' (thingsE l).length c' ∧ SlE w' A' (thingsE l) ∧ Ext w w' := by
  refine fn_intro Tt_ok Tryz.func87 (by rfl) rfl _ rfl rfl (by rfl) ?_; (conv => whnf)
  intro b1 w1 hn1; (conv => whnf)
  have o1 := rowEv.made (base := w.heap.size) hn1 (Nat.le_refl _)
  refine loop_rule Tt_ok (fun (k : Nat × Option Addr × Nat × List Ev) w' => k.1 ≤ l.length ∧ Ext w w' ∧ k.2.2.2 = thingsE (l.take k.1) ∧ Own evC 8 47 w.heap.size w' k.2.1 k.2.2.1 k.2.2.2)
    (fun | (k, B, d, T) => [(0, .slice A l.length c), (3, .slice B T.length d), (4, .int .i64 k)]) (fun k => l.length - k.1) (0, some ⟨b1, 0, none⟩, 0, []) ⟨by simp, hn1.ext, rfl, o1⟩ ⟨rfl, rfl, rfl, trivial⟩ ?_
  rintro ⟨k, B, d, T⟩ w2 ⟨hk, hx2, hT, hown⟩
  simp only at hk hT hown
  have hTl : T.length ≤ k := by
    rw [hT]
    have := List.length_filter_le thB (l.take k)
    rw [List.length_take] at this
    unfold thingsE; omega
  (conv => whnf)
  constructor
  · intro hc
    have hc : k < l.length := by simpa using hc
    obtain ⟨a2, rfl, hce⟩ := (hs.ext hx2).get hc
    have htk := take_next l k hc
    generalize l[k] = e at hce htk
    have hsn : thingsE (l.take (k + 1)) = T ++ if thB e then [e] else [] := by
      rw [htk, hT]; unfold thingsE; rw [List.filter_append]
      cases h : thB e <;> simp [List.filter_cons, h]
    (conv => whnf)
    repeat (refine seq_go Tt_ok ?_; (conv => whnf))
    refine ⟨a2, ⟨rfl, by omega, by omega⟩, ?_⟩; (conv => whnf)
    refine ⟨_, cells_at hce (k := 3) rfl, ?_⟩; (conv => whnf)
    refine ⟨a2, fun _ => ⟨rfl, by omega, by omega⟩, ?_⟩; (conv => whnf)
    refine ⟨_, fun _ => cells_at hce (k := 3) rfl, ?_⟩; (conv => whnf)
    refine ⟨a2, fun _ => ⟨rfl, by omega, by omega⟩, ?_⟩; (conv => whnf)
    refine ⟨_, fun _ => cells_at hce (k := 3) rfl, ?_⟩; (conv => whnf)
    constructor
    · intro hq
      have hq : thB e = true := by unfold thB; simp at hq ⊢; omega
      rw [hq, if_pos rfl] at hsn
      (conv => whnf)
      refine ⟨a2, ⟨rfl, by omega, by omega⟩, ?_⟩; (conv => whnf)
      refine ⟨evC e, ⟨rfl, hce⟩, ?_⟩; (conv => whnf)
      intro b3 w3 hn3; (conv => whnf)
      refine append_row rowEv (l := T) (news := [e]) rfl (hown.ext hn3.ext) rfl (rowEv.new1 (x := e) hn3) (by simp; omega) ((hx2.trans hn3.ext).size) fun A' c' w4 hown4 hg4 hA4 => ?_
      have hx4 := ext_grown (hx2.trans hn3.ext) hg4 (own_ge hown)
      generalize hT1 : T ++ [e] = T1 at hown4 hsn ⊢
      (conv => whnf)
      refine ⟨((k + 1 : Nat) : Int), wrap_succ (by omega), ?_⟩; (conv => whnf)
      exact ⟨(k + 1, A', c', T1), by simp only; omega, ⟨by simp only; omega, hx4, hsn.symm, hown4⟩, ⟨rfl, rfl, rfl, trivial⟩⟩
    · intro hq
      have hq : thB e = false := by unfold thB; simp at hq ⊢; omega
      rw [hq] at hsn
      simp only [Bool.false_eq_true, if_false, List.append_nil] at hsn
      (conv => whnf)
      refine ⟨((k + 1 : Nat) : Int), wrap_succ (by omega), ?_⟩; (conv => whnf)
      exact ⟨(k + 1, B, d, T), by simp only; omega, ⟨by simp only; omega, hx2, hsn.symm, hown⟩, ⟨rfl, rfl, rfl, trivial⟩⟩
  · intro hc
    have hc : l.length ≤ k := by simpa using hc
    rw [List.take_of_length_le hc] at hT
    rw [← hT]
    (conv => whnf)
    exact ⟨B, d, rfl, hown.sl evC_len, hx2⟩

/-! ### A thing, by definition -/
def thQ (name : ByteArray) (t : Int) (e : Ev) : Bool := decide (e.item = name) && decide (e.at_ ≤ t)
def stAll (name : ByteArray) (es : List Ev) : St := es.foldl stStep (stInit name)
theorem stAll_snoc (name : ByteArray) (es : List Ev) (e : Ev) : stAll name (es ++ [e]) = stStep (stAll name es) e := by simp [stAll]
theorem stStep_name (s : St) (e : Ev) : (stStep s e).item.name = s.item.name := by unfold stStep; split <;> (try split) <;> rfl
theorem stAll_name (name : ByteArray) (es : List Ev) : (stAll name es).item.name = name := by
  induction es using snoc_ind with
  | h0 => rfl
  | h1 l a ih => rw [stAll_snoc, stStep_name, ih]
def itOf (name : ByteArray) (es : List Ev) : It := if es.isEmpty then zeroIt else (stAll name es).item
theorem itOf_name (name : ByteArray) (es : List Ev) : { itOf name es with name := name } = (stAll name es).item := by
  unfold itOf
  have h := stAll_name name es
  cases es with
  | nil => rfl
  | cons a es =>
    simp only [List.isEmpty_cons, Bool.false_eq_true, if_false]
    generalize (stAll name (a :: es)).item = i at h ⊢
    subst h
    rfl
theorem takeWhile_all {row : List St} {t : Int} (h : ∀ s ∈ row, s.at_ ≤ t) : stN row t = row.length := by
  unfold stN
  have : row.takeWhile (fun s => decide (s.at_ ≤ t)) = row := by
    have := List.takeWhile_append_of_pos (l₂ := []) (p := fun s : St => decide (s.at_ ≤ t)) (l₁ := row) (fun s hs => by simpa using h s hs)
    simpa using this
  rw [this]
/-- The state at a tick is what all events up to it make. -/
theorem state_def : ∀ (cs : List Ev), Rise cs → ∀ (name : ByteArray) (t : Int),
    (stN (catRows cs name) t = 0 ↔ cs.filter (thQ name t) = []) ∧ (stN (catRows cs name) t ≠ 0 → (catRows cs name)[stN (catRows cs name) t - 1]? = some (stAll name (cs.filter (thQ name t)))) := by
  refine snoc_ind ?_ ?_
  · intro _ name t
    simp [catRows, stN]
  · intro cs e ih h name t
    have h1 : Rise cs := (List.pairwise_append.1 h).1
    have h2 := (List.pairwise_append.1 h).2.2
    obtain ⟨i1, i2⟩ := ih h1 name t
    obtain ⟨r1, r2⟩ := catRows_rise cs h1 name
    rw [catRows_snoc, List.filter_append]
    unfold catStep updR
    by_cases hn : name = e.item
    · rw [if_pos hn]
      subst hn
      generalize hrow : catRows cs e.item = row at *
      have hle : ∀ s ∈ row, s.at_ ≤ e.at_ := fun s hs => by
        obtain ⟨e', he', h3, _⟩ := r2 s hs
        have := less_at (h2 e' he' e (by simp)); omega
      by_cases ht : e.at_ ≤ t
      · have hq : thQ e.item t e = true := by simp [thQ, ht]
        have hall : ∀ s ∈ row ++ [stNext row e], s.at_ ≤ t := fun s hs => by
          rcases List.mem_append.1 hs with hs | hs
          · have := hle s hs; omega
          · simp at hs; subst hs; unfold stNext; rw [stStep_at]; exact ht
        have hN : stN row t = row.length := takeWhile_all fun s hs => hall s (by simp [hs])
        rw [takeWhile_all hall]
        refine ⟨by simp [List.filter_cons, hq], fun _ => ?_⟩
        simp only [List.filter_cons, hq, if_true, List.filter_nil, stAll_snoc]
        rw [List.length_append, List.length_singleton, Nat.add_sub_cancel, List.getElem?_append_right (Nat.le_refl _), Nat.sub_self]
        unfold stNext
        rw [hN] at i1 i2
        congr 2
        by_cases h0 : row.length = 0
        · have h3 := i1.1 h0
          rw [h3, List.length_eq_zero_iff.1 h0]
          rfl
        · rw [List.getLast?_eq_getElem?, i2 h0]; rfl
      · have hq : thQ e.item t e = false := by simp [thQ, ht]
        have hN : stN (row ++ [stNext row e]) t = stN row t := by
          unfold stN
          rw [List.takeWhile_append]
          split
          · rw [List.takeWhile_cons_of_neg (by unfold stNext; rw [stStep_at]; simpa using ht)]
            simp; omega
          · rfl
        rw [hN]
        simp only [List.filter_cons, hq, Bool.false_eq_true, if_false, List.filter_nil, List.append_nil]
        refine ⟨i1, fun h0 => ?_⟩
        have := (stN_cut row t).2.2
        rw [List.getElem?_append_left (by omega)]
        exact i2 h0
    · rw [if_neg hn]
      have hq : thQ name t e = false := by simp [thQ, Ne.symm hn]
      simp only [List.filter_cons, hq, Bool.false_eq_true, if_false, List.filter_nil, List.append_nil]
      exact ⟨i1, i2⟩
theorem catAt_def {cs : List Ev} (h : Rise cs) (name : ByteArray) (t : Int) : catAt cs name t = (itOf name (cs.filter (thQ name t)), !(cs.filter (thQ name t)).isEmpty) := by
  obtain ⟨h1, h2⟩ := state_def cs h name t
  unfold catAt itOf
  by_cases h0 : stN (catRows cs name) t = 0
  · have h3 := h1.1 h0
    rw [h3, h0]
    cases (catRows cs name)[0 - 1]? <;> rfl
  · have h3 : cs.filter (thQ name t) ≠ [] := fun h => h0 (h1.2 h)
    rw [h2 h0]
    simp only [if_neg h0]
    generalize cs.filter (thQ name t) = F at h3
    cases F with
    | nil => exact absurd rfl h3
    | cons a es => rfl

theorem ne_of_new {w w1 : World} {b k : Nat} {o : Obj} (h : New w w1 b o) (hk : k < w.heap.size) : k ≠ b := by rw [h.block]; omega
theorem rat_spec (cs : List Ev) (name : ByteArray) (t : Int) (A : Option Addr) (c : Nat) (w : World) (hs : SlE w A cs) (hl : cs.length < 1000000) (hk : ∀ e ∈ cs, thB e = true) (hm : ∀ e ∈ cs, mayB e = true) :
    Cal Tryz.prog 86 [.slice A cs.length c, .string name, .int .i64 t] w fun r w' => r = .tuple #[.agg (itC (itOf name (cs.filter (thQ name t)))).toArray, .bool (!(cs.filter (thQ name t)).isEmpty)] ∧ Ext w w' := by
  refine fn_intro Tt_ok Tryz.func86 (by rfl) rfl _ rfl rfl (by rfl) ?_; (conv => whnf)
  intro b1 w1 hn1; (conv => whnf)
  intro b2 w2 hn2; (conv => whnf)
  have e1 := hn1.block
  have e2 := hn2.block
  have s1 := hn1.size
  have s2 := hn2.size
  refine store_ptr Tt_ok (e := ty139) rfl hn2.At rfl rfl rfl (by simp [cellsL, Value.oneCell']) fun w3 h3 ho3 => ?_
  have h3 : At w3 b2 _ (itC zeroIt) := h3
  have s3 := ho3.size
  have hx3 : Ext w w3 := ho3.ext (hn1.ext.trans hn2.ext) (by omega)
  have h31 : At w3 b1 _ (itC zeroIt) := ho3.at_ (hn1.At.ext hn2.ext) (by omega)
  clear hn1 hn2 ho3
  (conv => whnf)
  refine loop_rule Tt_ok (fun (k : Nat × List Ev) w' => k.1 ≤ cs.length ∧ Ext w w' ∧ w3.heap.size ≤ w'.heap.size ∧ k.2 = (cs.take k.1).filter (thQ name t) ∧ At w' b1 139 (itC zeroIt) ∧ At w' b2 139 (itC (itOf name k.2)))
    (fun | (k, F) => [(0, .slice A cs.length c), (1, .string name), (2, .int .i64 t), (6, .pointer (some ⟨b1, 0, none⟩)), (8, .pointer (some ⟨b2, 0, none⟩)), (9, .bool (!F.isEmpty)), (10, .bool (stAll name F).born), (11, .int .i64 k)]) (fun k => cs.length - k.1) (0, []) ⟨by simp, hx3, Nat.le_refl _, rfl, h31, h3⟩ ⟨rfl, rfl, rfl, rfl, rfl, rfl, rfl, rfl, trivial⟩ ?_
  clear h31 h3 hx3
  rintro ⟨k, F⟩ w4 ⟨hkl, hx4, hz4, hF, h41, h42⟩
  simp only at hkl hF h42
  (conv => whnf)
  constructor
  · intro hc
    have hc : k < cs.length := by simpa using hc
    obtain ⟨a2, rfl, hce⟩ := (hs.ext hx4).get hc
    have htk := take_next cs k hc
    have hke := hk cs[k] (List.getElem_mem hc)
    have hme := hm cs[k] (List.getElem_mem hc)
    generalize cs[k] = e at hce htk hke hme
    have htx := may_text hme
    have hsn : (cs.take (k + 1)).filter (thQ name t) = F ++ if thQ name t e then [e] else [] := by
      rw [htk, hF]; rw [List.filter_append]
      cases h : thQ name t e <;> simp [List.filter_cons, h]
    (conv => whnf)
    repeat (refine seq_go Tt_ok ?_; (conv => whnf))
    refine ⟨a2, ⟨rfl, by omega, by omega⟩, ?_⟩; (conv => whnf)
    refine ⟨evC e, ⟨rfl, hce⟩, ?_⟩; (conv => whnf)
    intro b5 w5 hn5; (conv => whnf)
    have e5 := hn5.block
    have s5 := hn5.size
    refine store_ptr Tt_ok (e := ty47) rfl hn5.At rfl rfl rfl (by simp [cellsL, evC, Value.oneCell']) fun w6 h6 ho6 => ?_
    have h6 : At w6 b5 _ (evC e) := h6
    have s6 := ho6.size
    have hx46 : Ext w4 w6 := ho6.ext hn5.ext (by omega)
    have hx6 := hx4.trans hx46
    have h61 := h41.ext hx46
    have h62 := h42.ext hx46
    have b2l := h42.lt
    have b1l := h41.lt
    clear hn5 ho6 hce h41 h42 hx46 hx4
    (conv => whnf)
    refine ⟨_, h6.one rfl, ?_⟩; (conv => whnf)
    refine ⟨_, fun _ => h6.one rfl, ?_⟩; (conv => whnf)
    constructor
    · intro hq
      have hq : thQ name t e = false := by
        revert hq; unfold thQ
        by_cases k1 : e.item = name <;> by_cases k2 : e.at_ ≤ t <;> simp [k1, k2] <;> omega
      rw [hq] at hsn
      simp only [Bool.false_eq_true, if_false, List.append_nil] at hsn
      (conv => whnf)
      refine ⟨((k + 1 : Nat) : Int), wrap_succ (by omega), ?_⟩; (conv => whnf)
      exact ⟨(k + 1, F), by simp only; omega, ⟨by simp only; omega, hx6, by omega, hsn.symm, h61, h62⟩, ⟨rfl, rfl, rfl, rfl, rfl, rfl, rfl, rfl, trivial⟩⟩
    · intro hq
      have hq : thQ name t e = true := by
        revert hq; unfold thQ
        by_cases k1 : e.item = name <;> by_cases k2 : e.at_ ≤ t <;> simp [k1, k2] <;> omega
      rw [hq, if_pos rfl] at hsn
      have hF1 : (!(F ++ [e]).isEmpty) = true := by cases F <;> rfl
      have hit : itOf name (F ++ [e]) = (stStep (stAll name F) e).item := by
        unfold itOf
        rw [stAll_snoc, if_neg (by simp)]
      have hst := stAll_snoc name F e
      have hnm := itOf_name name F
      generalize hT1 : F ++ [e] = F1 at hsn hF1 hit hst
      generalize itOf name F = i0 at h62 hnm
      generalize hs0 : stAll name F = s0 at hnm hit hst ⊢
      generalize hs1 : stAll name F1 = s1 at hst
      subst hst
      have hfin : ∀ w', Ext w w' → w4.heap.size ≤ w'.heap.size → At w' b1 139 (itC zeroIt) → At w' b2 139 (itC (stStep s0 e).item) → k + 1 ≤ cs.length ∧ Ext w w' ∧ w3.heap.size ≤ w'.heap.size ∧ F1 = (cs.take (k + 1)).filter (thQ name t) ∧ At w' b1 139 (itC zeroIt) ∧ At w' b2 139 (itC (itOf name F1)) :=
        fun w' q1 q2 q3 q4 => ⟨by omega, q1, by omega, hsn.symm, q3, by rw [hit]; exact q4⟩
      (conv => whnf)
      refine store_ptr Tt_ok (e := ty9) rfl h62 rfl rfl rfl (by simp [cellsL, Value.oneCell']) fun w7 h7 ho7 => ?_
      have h7 : At w7 b2 _ (itC { i0 with name := name }) := h7
      rw [hnm] at h7
      have s7 := ho7.size
      have hx7 := ho7.ext hx6 (by omega)
      have h71 := ho7.at_ h61 (by omega)
      have h75 := ho7.at_ h6 (by omega)
      clear h62 h61 h6 ho7 hx6 hnm
      (conv => whnf)
      refine ⟨_, h75.one rfl, ?_⟩; (conv => whnf)
      refine ⟨fun k1 => ?_, fun k1 => ?_⟩
      · have k1 : e.kind = 11 := by simpa using k1
        (conv => whnf)
        refine draw_rule (.mods (fun k => k = b2)) [0, 1, 3, 4, 6, 7, 8, 2, 5, 9, 10, 11, 12, 13, 14] [15] Tt_ok mixed (by kernel_rfl) (by first | (intro h; cases h; done) | (intro _; rfl)) ?_; (conv => whnf)
        replace h75 : At w7.drew b5 _ _ := h75
        replace h71 : At w7.drew b1 _ _ := h71
        replace h7 : At w7.drew b2 _ _ := h7
        replace hx7 := hx7.drew
        replace s7 : w7.drew.heap.size = w6.heap.size := s7
        generalize w7.drew = w8 at h75 h71 h7 hx7 s7 ⊢
        have hne : b5 ≠ b2 := by omega
        refine ⟨_, ⟨h75.one rfl, by rw [add_block]; exact hne⟩, ?_⟩; (conv => whnf)
        refine ⟨_, ⟨h75.one rfl, by rw [add_block]; exact hne⟩, ?_⟩; (conv => whnf)
        refine ⟨_, ⟨h75.one rfl, by rw [add_block]; exact hne⟩, ?_⟩; (conv => whnf)
        refine (rmaker_spec e.text w8 (by omega)).mono ?_
        rintro _ _ ⟨rfl, rfl⟩
        refine ⟨Mod.refl _ _, ?_⟩; (conv => whnf)
        refine (rbehind_spec e.text _ (by omega)).mono ?_
        rintro _ _ ⟨rfl, rfl⟩
        refine ⟨Mod.refl _ _, ?_⟩; (conv => whnf)
        refine store_ptr Tt_ok (e := ty4) rfl h7 rfl rfl rfl (by simp [cellsL, Value.oneCell']) fun w9 h9 ho9 => ?_
        refine ⟨mod_only ho9 rfl, ?_⟩; (conv => whnf)
        refine store_ptr Tt_ok (e := ty9) rfl h9 rfl rfl rfl (by simp [cellsL, Value.oneCell']) fun w10 h10 ho10 => ?_
        refine ⟨mod_only ho10 rfl, ?_⟩; (conv => whnf)
        refine store_ptr Tt_ok (e := ty9) rfl h10 rfl rfl rfl (by simp [cellsL, Value.oneCell']) fun w11 h11 ho11 => ?_
        refine ⟨mod_only ho11 rfl, ?_⟩; (conv => whnf)
        refine store_ptr Tt_ok (e := ty3) rfl h11 rfl rfl rfl (by simp [cellsL, Value.oneCell']) fun w12 h12 ho12 => ?_
        have h12 : At w12 b2 _ (itC { s0.item with listed := true, maker := makerOf e.text, tags := restOf e.text, price := e.val }) := h12
        have t9 := ho9.size
        have t10 := ho10.size
        have t11 := ho11.size
        have t12 := ho12.size
        have hx12 := ho12.ext (ho11.ext (ho10.ext (ho9.ext hx7 (by omega)) (by omega)) (by omega)) (by omega)
        have h121 := ho12.at_ (ho11.at_ (ho10.at_ (ho9.at_ h71 (by omega)) (by omega)) (by omega)) (by omega)
        have h125 := ho12.at_ (ho11.at_ (ho10.at_ (ho9.at_ h75 (by omega)) (by omega)) (by omega)) (by omega)
        clear h7 h71 h75 h9 h10 h11 ho9 ho10 ho11 ho12 hx7
        (conv => whnf)
        constructor
        · intro hb
          have hb : s0.born = false := by rw [← hs0]; simpa using hb
          (conv => whnf)
          refine ⟨_, h125.one rfl, ?_⟩; (conv => whnf)
          refine store_ptr Tt_ok (e := ty3) rfl h12 rfl rfl rfl (by simp [cellsL, Value.oneCell']) fun w13 h13 ho13 => ?_
          have s13 := ho13.size
          (conv => whnf)
          refine ⟨((k + 1 : Nat) : Int), wrap_succ (by omega), ?_⟩; (conv => whnf)
          refine ⟨(k + 1, F1), by simp only; omega, hfin _ (ho13.ext hx12 (by omega)) (by omega) (ho13.at_ h121 (by omega)) ?_, ⟨rfl, rfl, rfl, rfl, rfl, by rw [hF1]; rfl, ?_, rfl, trivial⟩⟩
          · unfold stStep
            rw [if_pos k1, hb]
            exact h13
          · show some (Value.bool true) = some (Value.bool (stAll name F1).born)
            rw [hs1]; unfold stStep; rw [if_pos k1]
        · intro hb
          have hb : s0.born = true := by rw [← hs0]; simpa using hb
          (conv => whnf)
          refine ⟨((k + 1 : Nat) : Int), wrap_succ (by omega), ?_⟩; (conv => whnf)
          refine ⟨(k + 1, F1), by simp only; omega, hfin _ hx12 (by omega) h121 ?_, ⟨rfl, rfl, rfl, rfl, rfl, by rw [hF1]; rfl, ?_, rfl, trivial⟩⟩
          · unfold stStep
            rw [if_pos k1, hb]
            exact h12
          · show some (Value.bool (stAll name F).born) = some (Value.bool (stAll name F1).born)
            rw [hs1, hs0]; unfold stStep; rw [if_pos k1, hb]
      · have k1 : ¬ e.kind = 11 := by simpa using k1
        (conv => whnf)
        constructor
        · intro k2
          have k2 : e.kind = 13 := by simpa using k2
          (conv => whnf)
          refine store_ptr Tt_ok (e := ty4) rfl h7 rfl rfl rfl (by simp [cellsL, Value.oneCell']) fun w13 h13 ho13 => ?_
          have s13 := ho13.size
          (conv => whnf)
          refine ⟨((k + 1 : Nat) : Int), wrap_succ (by omega), ?_⟩; (conv => whnf)
          refine ⟨(k + 1, F1), by simp only; omega, hfin _ (ho13.ext hx7 (by omega)) (by omega) (ho13.at_ h71 (by omega)) ?_, ⟨rfl, rfl, rfl, rfl, rfl, by rw [hF1]; rfl, ?_, rfl, trivial⟩⟩
          · unfold stStep
            rw [if_neg k1, if_neg (by omega)]
            exact h13
          · show some (Value.bool (stAll name F).born) = some (Value.bool (stAll name F1).born)
            rw [hs1, hs0]; unfold stStep; rw [if_neg k1, if_neg (by omega)]
        · intro k2
          have k2 : ¬ e.kind = 13 := by simpa using k2
          have k3 : e.kind = 12 := by unfold thB at hke; simp at hke; omega
          (conv => whnf)
          refine ⟨fun _ => ?_, fun h => (by simp at h; omega)⟩
          (conv => whnf)
          refine ⟨_, h75.one rfl, ?_⟩; (conv => whnf)
          refine store_ptr Tt_ok (e := ty3) rfl h7 rfl rfl rfl (by simp [cellsL, Value.oneCell']) fun w13 h13 ho13 => ?_
          have s13 := ho13.size
          (conv => whnf)
          refine ⟨((k + 1 : Nat) : Int), wrap_succ (by omega), ?_⟩; (conv => whnf)
          refine ⟨(k + 1, F1), by simp only; omega, hfin _ (ho13.ext hx7 (by omega)) (by omega) (ho13.at_ h71 (by omega)) ?_, ⟨rfl, rfl, rfl, rfl, rfl, by rw [hF1]; rfl, ?_, rfl, trivial⟩⟩
          · unfold stStep
            rw [if_neg k1, if_pos k3]
            exact h13
          · show some (Value.bool (stAll name F).born) = some (Value.bool (stAll name F1).born)
            rw [hs1, hs0]; unfold stStep; rw [if_neg k1, if_pos k3]
  · intro hc
    have hc : cs.length ≤ k := by simpa using hc
    rw [List.take_of_length_le hc] at hF
    rw [← hF]
    have b1l := h41.lt
    (conv => whnf)
    refine ⟨_, ⟨rfl, h42.all⟩, ?_⟩; (conv => whnf)
    refine store_ptr Tt_ok (e := ty139) rfl h41 rfl rfl rfl (by simp [cellsL, itC, Value.oneCell']) fun w6 h6 ho6 => ?_
    have h6 : At w6 b1 _ (itC (itOf name F)) := h6
    (conv => whnf)
    refine ⟨_, ⟨rfl, h6.all⟩, ?_⟩; (conv => whnf)
    exact ⟨rfl, ho6.ext hx4 (by omega)⟩
end Go.Proofs.YtbfjlpoeglcmfaaGreatDoor
