import Derived.Test.YtbfjlpoeglcmfaaGreatDoorHPr5

/- The document's prices: At, Look, Then, Least. -/
set_option linter.unusedVariables false
set_option linter.unusedSimpArgs false
namespace Go.Proofs.YtbfjlpoeglcmfaaGreatDoor
open Go.Se Go.RowKit

/-- Events that are counted. -/
structure ZOk (z : List Ev) : Prop where
  may : ∀ e ∈ z, mayB e = true
  rise : Rise z
  len : z.length < 900000
theorem price_def {z : List Ev} (h : Rise z) (item : ByteArray) (t : Int) : priceAt z item t = if (itOf item ((thingsE z).filter (thQ item t))).listed then some (itOf item ((thingsE z).filter (thQ item t))).price else none := by
  unfold priceAt itemIs itemAt
  rw [catAt_def (things_rise h)]
  cases hF : (thingsE z).filter (thQ item t) with
  | nil => simp [itOf, zeroIt]
  | cons a es => simp
theorem r39At_spec {z : List Ev} (hz : ZOk z) (item : ByteArray) (t : Int) (A : Option Addr) (c : Nat) (w : World) (hs : SlE w A z) :
    Cal Tryz.prog 60 [.slice A z.length c, .string item, .int .i64 t] w fun r w' => r = optV (priceAt z item t) ∧ Ext w w' := by
  have hl := hz.len
  have htl := List.length_filter_le thB z
  rw [price_def hz.rise]
  refine fn_intro Tt_ok Tryz.func60 (by rfl) rfl _ rfl rfl (by rfl) ?_; (conv => whnf)
  refine (rthings_spec z A c w hs (by omega)).mono ?_
  rintro _ w1 ⟨A1, c1, rfl, hs1, hx1⟩; (conv => whnf)
  refine (rat_spec (thingsE z) item t A1 c1 w1 hs1 (by unfold thingsE; omega) (fun e he => (List.mem_filter.1 he).2) (fun e he => hz.may e (List.mem_filter.1 he).1)).mono ?_
  rintro _ w2 ⟨rfl, hx2⟩
  generalize itOf item ((thingsE z).filter (thQ item t)) = i
  generalize (!((thingsE z).filter (thQ item t)).isEmpty) = b
  have hx := hx1.trans hx2
  (conv => whnf)
  intro b3 w3 hn3; (conv => whnf)
  have e3 := hn3.block
  refine store_ptr Tt_ok (e := ty139) rfl hn3.At rfl rfl rfl (by simp [cellsL, itC, Value.oneCell']) fun w4 h4 ho4 => ?_
  have h4 : At w4 b3 _ (itC i) := h4
  have hx4 := ho4.ext (hx.trans hn3.ext) (by have := hx.size; omega)
  (conv => whnf)
  refine ⟨_, h4.one rfl, ?_⟩; (conv => whnf)
  constructor
  · intro hc
    have hc : i.listed = false := by simpa using hc
    rw [hc]
    (conv => whnf)
    exact ⟨rfl, hx4⟩
  · intro hc
    have hc : i.listed = true := by simpa using hc
    rw [hc]
    (conv => whnf)
    refine ⟨_, h4.one rfl, ?_⟩; (conv => whnf)
    exact ⟨rfl, hx4⟩
def lookF (person item : ByteArray) (now : Int) (e : Ev) : Bool := decide (e.person = person) && decide (e.item = item) && (decide (e.kind = 0) || decide (e.kind = 1)) && decide (e.at_ ≤ now)
theorem look_def (z : List Ev) (person item : ByteArray) (now : Int) : lookAt z person item now = ((z.filter (lookF person item now)).getLast?).map (·.at_) := by
  unfold lookAt looksM
  rw [lookM_look]
  congr 2
  unfold histE hist peopleE
  rw [List.filter_filter, List.filter_filter, List.filter_filter]
  congr 1
  funext e
  unfold lookF lookQ peB thB
  by_cases k0 : e.kind = 0
  · cases decide (e.person = person) <;> cases decide (e.item = item) <;> cases decide (e.at_ ≤ now) <;> simp [k0]
  · by_cases k1 : e.kind = 1
    · cases decide (e.person = person) <;> cases decide (e.item = item) <;> cases decide (e.at_ ≤ now) <;> simp [k1]
    · simp [k0, k1]
def lookI (person item : ByteArray) (now : Int) (l : List Ev) : Int := (((l.filter (lookF person item now)).getLast?).map (·.at_)).getD (-1)
theorem lookI_eq (z : List Ev) (person item : ByteArray) (now : Int) : lookI person item now z = (lookAt z person item now).getD (-1) := by rw [look_def]; rfl
theorem lookI_snoc (person item : ByteArray) (now : Int) (l : List Ev) (e : Ev) : lookI person item now (l ++ [e]) = if lookF person item now e then e.at_ else lookI person item now l := by
  unfold lookI
  rw [List.filter_append]
  cases h : lookF person item now e <;> simp [List.filter_cons, h]
theorem r39Look_spec {z : List Ev} (hz : ZOk z) (person item : ByteArray) (now : Int) (A : Option Addr) (c : Nat) (w : World) (hs : SlE w A z) :
    Cal Tryz.prog 59 [.slice A z.length c, .string person, .string item, .int .i64 now] w fun r w' => r = vi ((lookAt z person item now).getD (-1)) ∧ Ext w w' := by
  have hl := hz.len
  rw [← lookI_eq]
  refine fn_intro Tt_ok Tryz.func59 (by rfl) rfl _ rfl rfl (by rfl) ?_; (conv => whnf)
  refine loop_rule Tt_ok (fun (k : Nat) w' => k ≤ z.length ∧ Ext w w')
    (fun k => [(0, .slice A z.length c), (1, .string person), (2, .string item), (3, .int .i64 now), (9, .int .i64 (lookI person item now (z.take k))), (10, .int .i64 k)]) (fun k => z.length - k) 0 ⟨by omega, Ext.refl _⟩ ⟨rfl, rfl, rfl, rfl, rfl, rfl, trivial⟩ ?_
  rintro k w1 ⟨hk, hx1⟩
  (conv => whnf)
  constructor
  · intro hc
    have hc : k < z.length := by simpa using hc
    obtain ⟨a2, rfl, hce⟩ := (hs.ext hx1).get hc
    have htk := take_next z k hc
    generalize z[k] = e at hce htk
    have hsn := lookI_snoc person item now (z.take k) e
    obtain ⟨n1, hn1⟩ : ∃ n1, n1 = lookI person item now (z.take (k + 1)) := ⟨_, rfl⟩
    rw [← htk, ← hn1] at hsn
    generalize lookI person item now (z.take k) = n0 at hsn
    (conv => whnf)
    repeat (refine seq_go Tt_ok ?_; (conv => whnf))
    refine ⟨a2, ⟨rfl, by omega, by omega⟩, ?_⟩; (conv => whnf)
    refine ⟨evC e, ⟨rfl, hce⟩, ?_⟩; (conv => whnf)
    intro b7 w7 hn7; (conv => whnf)
    have e7 := hn7.block
    refine store_ptr Tt_ok (e := ty47) rfl hn7.At rfl rfl rfl (by simp [cellsL, evC, Value.oneCell']) fun w8 h8 ho8 => ?_
    have h8 : At w8 b7 _ (evC e) := h8
    have hx8 : Ext w w8 := ho8.ext (hx1.trans hn7.ext) (by have := hx1.size; omega)
    clear hn7 ho8 hce
    (conv => whnf)
    refine ⟨_, h8.one rfl, ?_⟩; (conv => whnf)
    refine ⟨_, fun _ => h8.one rfl, ?_⟩; (conv => whnf)
    refine ⟨_, fun _ => h8.one rfl, ?_⟩; (conv => whnf)
    refine ⟨_, fun _ _ => h8.one rfl, ?_⟩; (conv => whnf)
    refine ⟨_, fun _ => h8.one rfl, ?_⟩; (conv => whnf)
    constructor
    · intro hq
      have hq : lookF person item now e = true := hq
      rw [hq, if_pos rfl] at hsn
      (conv => whnf)
      refine ⟨_, h8.one rfl, ?_⟩; (conv => whnf)
      refine ⟨((k + 1 : Nat) : Int), wrap_succ (by omega), ?_⟩; (conv => whnf)
      exact ⟨k + 1, by omega, ⟨by omega, hx8⟩, ⟨rfl, rfl, rfl, rfl, by rw [← hn1, hsn]; rfl, rfl, trivial⟩⟩
    · intro hq
      have hq : lookF person item now e = false := hq
      rw [hq] at hsn
      simp only [Bool.false_eq_true, if_false] at hsn
      (conv => whnf)
      refine ⟨((k + 1 : Nat) : Int), wrap_succ (by omega), ?_⟩; (conv => whnf)
      exact ⟨k + 1, by omega, ⟨by omega, hx8⟩, ⟨rfl, rfl, rfl, rfl, by rw [← hn1, hsn]; rfl, rfl, trivial⟩⟩
  · intro hc
    have hc : z.length ≤ k := by simpa using hc
    rw [List.take_of_length_le hc]
    (conv => whnf)
    exact ⟨rfl, hx1⟩
theorem look_nonneg {z : List Ev} (hz : ∀ e ∈ z, mayB e = true) {person item : ByteArray} {now t : Int} (h : lookAt z person item now = some t) : 0 ≤ t ∧ t ≤ now := by
  rw [look_def, Option.map_eq_some_iff] at h
  obtain ⟨e, he, rfl⟩ := h
  have := List.mem_filter.1 (List.mem_of_getLast? he)
  have h1 := (may_iff.1 (hz e this.1)).at_
  have h2 := this.2
  unfold lookF at h2
  simp at h2
  omega
theorem r39Then_spec {z : List Ev} (hz : ZOk z) (person item : ByteArray) (now : Int) (A : Option Addr) (c : Nat) (w : World) (hs : SlE w A z) :
    Cal Tryz.prog 32 [.slice A z.length c, .string person, .string item, .int .i64 now] w fun r w' => r = optV (thenAt z person item now) ∧ Ext w w' := by
  refine fn_intro Tt_ok Tryz.func32 (by rfl) rfl _ rfl rfl (by rfl) ?_; (conv => whnf)
  refine (r39Look_spec hz person item now A c w hs).mono ?_
  rintro _ w1 ⟨rfl, hx1⟩
  have hnn := fun t h => look_nonneg (t := t) hz.may (person := person) (item := item) (now := now) h
  unfold thenAt
  generalize lookAt z person item now = o at hnn
  have hkey : (!tickB now || decide (o.getD (-1) < 0)) = (!tickB now || o.isNone) := by
    cases o with
    | none => simp
    | some t => have := (hnn t rfl).1; simp; omega
  (conv => whnf)
  constructor
  · intro hc
    have hr : (if tickB now = true then o.bind (priceAt z item) else none) = none := by
      have : (!tickB now || o.isNone) = true := by
        rw [← hkey]; unfold tickB inB
        revert hc
        simp
      cases o with
      | none => simp
      | some t => simp at this; simp [this]
    rw [hr]
    (conv => whnf)
    exact ⟨rfl, hx1⟩
  · intro hc
    have hr : ∃ t, o = some t ∧ tickB now = true := by
      have : (!tickB now || o.isNone) = false := by
        rw [← hkey]; unfold tickB inB
        revert hc
        simp
      cases o with
      | none => simp at this
      | some t => simp at this; exact ⟨t, rfl, this⟩
    obtain ⟨t, rfl, ht⟩ := hr
    rw [ht]
    (conv => whnf)
    refine (r39At_spec hz item t A c w1 (hs.ext hx1)).mono ?_
    rintro _ w2 ⟨rfl, hx2⟩; (conv => whnf)
    exact ⟨rfl, hx1.trans hx2⟩

theorem r39Least_spec {z : List Ev} (hz : ZOk z) (item : ByteArray) (a b : Int) (A : Option Addr) (c : Nat) (w : World) (hs : SlE w A z) :
    Cal Tryz.prog 39 [.slice A z.length c, .string item, .int .i64 a, .int .i64 b] w fun r w' => ∃ o, r = optV o ∧ (if leastOk a b then LeastIs (priceAt z item) a b o else o = none) ∧ Ext w w' := by
  have hzl := hz.len
  refine fn_intro Tt_ok Tryz.func39 (by rfl) rfl _ rfl rfl (by rfl) ?_; (conv => whnf)
  constructor
  · intro hc
    have hok : leastOk a b = false := by
      unfold leastOk tickB inB
      simp at hc ⊢
      omega
    (conv => whnf)
    exact ⟨none, rfl, by rw [hok]; simp, Ext.refl _⟩
  · intro hc
    have hok : leastOk a b = true := by
      unfold leastOk tickB inB
      simp at hc ⊢
      omega
    have hab : a ≤ b := by unfold leastOk at hok; simp at hok; exact hok.2
    have hres : LeastIs (priceAt z item) a b (leastO ((a :: (z.map (·.at_)).filter fun t => decide (a < t ∧ t ≤ b)).map (priceAt z item))) := by
      refine least_ticks hz.rise item hab (fun t ht => by have := (List.mem_filter.1 ht).2; simpa using this) (fun t ht h1 h2 => List.mem_filter.2 ⟨?_, by simp; omega⟩)
      obtain ⟨s, hs1, rfl⟩ := List.mem_map.1 ht
      obtain ⟨e, he, h3, _⟩ := (catRows_rise (thingsE z) (things_rise hz.rise) item).2 s hs1
      exact List.mem_map.2 ⟨e, (List.mem_filter.1 he).1, h3.symm⟩
    clear hc
    (conv => whnf)
    intro b1 w1 hn1; (conv => whnf)
    have e1 := hn1.block
    have o1 : Own intC 1 3 w.heap.size w1 (some ⟨b1, 0, none⟩) 1 [a] := ⟨rfl, .inr ⟨b1, 1, #[.int .i64 a], rfl, by omega, hn1.at_, by simp, by simp [maxLen], rfl, rfl⟩⟩
    refine loop_rule Tt_ok (fun (k : Nat × Option Addr × Nat × List Int) w' => k.1 ≤ z.length ∧ Ext w w' ∧ k.2.2.2 = a :: ((z.take k.1).map (·.at_)).filter (fun t => decide (a < t ∧ t ≤ b)) ∧ Own intC 1 3 w.heap.size w' k.2.1 k.2.2.1 k.2.2.2)
      (fun | (k, B, d, T) => [(0, .slice A z.length c), (1, .string item), (2, .int .i64 a), (3, .int .i64 b), (10, .slice B T.length d), (11, .int .i64 k)]) (fun k => z.length - k.1) (0, some ⟨b1, 0, none⟩, 1, [a]) ⟨by simp, hn1.ext, rfl, o1⟩ ⟨rfl, rfl, rfl, rfl, rfl, rfl, trivial⟩ ?_
    rintro ⟨k, B, d, T⟩ w2 ⟨hk, hx2, hT, hown⟩
    simp only at hk hT hown
    have hTl : T.length ≤ k + 1 := by
      rw [hT, List.length_cons]
      have := List.length_filter_le (fun t => decide (a < t ∧ t ≤ b)) ((z.take k).map (·.at_))
      rw [List.length_map, List.length_take] at this
      omega
    (conv => whnf)
    constructor
    · intro hc
      have hc : k < z.length := by simpa using hc
      obtain ⟨a2, rfl, hce⟩ := (hs.ext hx2).get hc
      have htk := take_next z k hc
      generalize z[k] = e at hce htk
      have hsn : a :: ((z.take (k + 1)).map (·.at_)).filter (fun t => decide (a < t ∧ t ≤ b)) = T ++ if a < e.at_ ∧ e.at_ ≤ b then [e.at_] else [] := by
        rw [htk, hT, List.map_append, List.filter_append]
        by_cases h : a < e.at_ ∧ e.at_ ≤ b
        · simp [List.filter_cons, h]
        · simp [List.filter_cons, h]
      (conv => whnf)
      repeat (refine seq_go Tt_ok ?_; (conv => whnf))
      refine ⟨a2, ⟨rfl, by omega, by omega⟩, ?_⟩; (conv => whnf)
      refine ⟨_, cells_at hce (k := 2) rfl, ?_⟩; (conv => whnf)
      refine ⟨a2, fun _ => ⟨rfl, by omega, by omega⟩, ?_⟩; (conv => whnf)
      refine ⟨_, fun _ => cells_at hce (k := 2) rfl, ?_⟩; (conv => whnf)
      constructor
      · intro hq
        have hq : a < e.at_ ∧ e.at_ ≤ b := by simpa using hq
        rw [if_pos hq] at hsn
        (conv => whnf)
        refine ⟨a2, ⟨rfl, by omega, by omega⟩, ?_⟩; (conv => whnf)
        refine ⟨_, cells_at hce (k := 2) rfl, ?_⟩; (conv => whnf)
        intro b3 w3 hn3; (conv => whnf)
        refine append_row rowInt (l := T) (news := [e.at_]) rfl (hown.ext hn3.ext) rfl (rowInt.new1 (x := e.at_) hn3) (by simp; omega) ((hx2.trans hn3.ext).size) fun A' c' w4 hown4 hg4 hA4 => ?_
        have hx4 := ext_grown (hx2.trans hn3.ext) hg4 (own_ge hown)
        generalize hT1 : T ++ [e.at_] = T1 at hown4 hsn ⊢
        (conv => whnf)
        refine ⟨((k + 1 : Nat) : Int), wrap_succ (by omega), ?_⟩; (conv => whnf)
        exact ⟨(k + 1, A', c', T1), by simp only; omega, ⟨by simp only; omega, hx4, hsn.symm, hown4⟩, ⟨rfl, rfl, rfl, rfl, rfl, rfl, trivial⟩⟩
      · intro hq
        have hq : ¬ (a < e.at_ ∧ e.at_ ≤ b) := by simp at hq; omega
        rw [if_neg hq, List.append_nil] at hsn
        (conv => whnf)
        refine ⟨((k + 1 : Nat) : Int), wrap_succ (by omega), ?_⟩; (conv => whnf)
        exact ⟨(k + 1, B, d, T), by simp only; omega, ⟨by simp only; omega, hx2, hsn.symm, hown⟩, ⟨rfl, rfl, rfl, rfl, rfl, rfl, trivial⟩⟩
    · intro hc
      have hc : z.length ≤ k := by simpa using hc
      rw [List.take_of_length_le hc] at hT
      rw [← hT] at hres
      have hsT : SlI w2 B T := hown.sl intC_len
      clear hown hT
      generalize hf : priceAt z item = f at hres
      (conv => whnf)
      refine loop_rule Tt_ok (fun (j : Nat) w' => j ≤ T.length ∧ Ext w2 w')
        (fun j => [(0, .slice A z.length c), (1, .string item), (10, .slice B T.length d), (14, .int .i64 j), (12, .int .i64 ((leastO ((T.take j).map f)).getD 0)), (13, .bool ((leastO ((T.take j).map f)).isSome))]) (fun j => T.length - j) 0 ⟨by omega, Ext.refl _⟩ ⟨rfl, rfl, rfl, rfl, rfl, rfl, trivial⟩ ?_
      rintro j w6 ⟨hj, hx6⟩
      (conv => whnf)
      constructor
      · intro hc
        have hc : j < T.length := by simpa using hc
        obtain ⟨a2, rfl, hce⟩ := (hsT.ext hx6).get hc
        have htk := take_next T j hc
        generalize T[j] = t at hce htk
        have hsn : leastO ((T.take (j + 1)).map f) = lesser (leastO ((T.take j).map f)) (f t) := by
          rw [htk, List.map_append, List.map_cons, List.map_nil, leastO_snoc]
        obtain ⟨o1, ho1⟩ : ∃ o1, o1 = leastO ((T.take (j + 1)).map f) := ⟨_, rfl⟩
        rw [← ho1] at hsn
        generalize leastO ((T.take j).map f) = o at hsn ⊢
        (conv => whnf)
        repeat (refine seq_go Tt_ok ?_; (conv => whnf))
        refine ⟨a2, ⟨rfl, by omega, by omega⟩, ?_⟩; (conv => whnf)
        refine ⟨.int .i64 t, cells_head hce, ?_⟩; (conv => whnf)
        refine (r39At_spec hz item t A c w6 (hs.ext (hx2.trans hx6))).mono ?_
        rintro _ w7 ⟨rfl, hx7⟩
        rw [hf]
        rw [less_take] at hsn
        generalize f t = q at hsn ⊢
        (conv => whnf)
        constructor
        · intro hq2
          rw [if_pos hq2] at hsn
          have hqs : q.isSome = true := by revert hq2; cases q <;> simp
          (conv => whnf)
          refine ⟨((j + 1 : Nat) : Int), wrap_succ (by omega), ?_⟩; (conv => whnf)
          exact ⟨j + 1, by omega, ⟨by omega, hx6.trans hx7⟩, ⟨rfl, rfl, rfl, rfl, by rw [← ho1, hsn]; rfl, by rw [← ho1, hsn, hqs]; rfl, trivial⟩⟩
        · intro hq2
          have hq2 : ¬ (q.isSome && (!o.isSome || decide (q.getD 0 < o.getD 0))) = true := by rw [hq2]; simp
          rw [if_neg hq2] at hsn
          (conv => whnf)
          refine ⟨((j + 1 : Nat) : Int), wrap_succ (by omega), ?_⟩; (conv => whnf)
          exact ⟨j + 1, by omega, ⟨by omega, hx6.trans hx7⟩, ⟨rfl, rfl, rfl, rfl, by rw [← ho1, hsn]; rfl, by rw [← ho1, hsn]; rfl, trivial⟩⟩
      · intro hc
        have hc : T.length ≤ j := by simpa using hc
        rw [List.take_of_length_le hc]
        (conv => whnf)
        exact ⟨_, rfl, by rw [if_pos hok]; exact hres, hx2.trans hx6⟩
end Go.Proofs.YtbfjlpoeglcmfaaGreatDoor
