import Derived.Test.YtoancknoinilaaaGreatDoorGM
import Derived.Test.YtoancknoinilaaaGreatDoorGK
import Derived.Test.YtoancknoinilaaaGreatDoorGL

/- The laws of the score: what is gone through; somebody new (ScoreStrangers). -/
set_option linter.unusedVariables false
set_option linter.unusedSimpArgs false
namespace Go.Proofs.YtoancknoinilaaaGreatDoor
open Go.Se Go.RowKit

/-- Is there more than is gone through? -/
def hvB (n : Nat) (c : Cfg) (l : List Ev) (person item : ByteArray) : Bool := (((((decide ((n : Int) < l.length)) || l.any (bigB 300)) || !l.all mayB) || !cfgB c) || decide ((100 : Int) < person.size)) || decide ((100 : Int) < item.size)
theorem hv_not {n : Nat} {c : Cfg} {l : List Ev} {person item : ByteArray} (h : hvB n c l person item = false) : l.length ≤ n ∧ (∀ e ∈ l, mayB e = true) ∧ cfgB c = true := by
  unfold hvB at h
  simp only [Bool.or_eq_false_iff, Bool.not_eq_false', decide_eq_false_iff_not, List.all_eq_true] at h
  obtain ⟨⟨⟨⟨⟨h1, h2⟩, h3⟩, h4⟩, h5⟩, h6⟩ := h
  exact ⟨by omega, h3, h4⟩
theorem any_big' {l : List Ev} (h : l.any (bigB 300) = false) : ∀ e ∈ l, e.text.size < 1000000000000 := fun e he => by
  have := (List.any_eq_false.1 h) e he
  simp [bigB] at this
  omega
theorem heavy_spec (n : Nat) (hn : n < 1000) (c : Cfg) (l : List Ev) (A : Option Addr) (cap : Nat) (person item : ByteArray) (w : World) (hs : SlE w A l) :
    Cal Tryz.prog 16 [cfgV c, .slice A l.length cap, .int .i64 (n : Nat), .string person, .string item] w fun r w' => r = .bool (hvB n c l person item) ∧ Ext w w' := by
  refine fn_intro Tt_ok Tryz.func16 (by rfl) rfl _ rfl rfl (by rfl) ?_; (conv => whnf)
  intro b1 w1 hn1; (conv => whnf)
  have h1 := hn1.At
  refine ⟨Unit, fun _ => (.bool (l.any (bigB 300))), fun _ w' => Ext w1 w', (), fun hg => ((some_spec l A cap 300 w1 (hs.ext hn1.ext) (by simp at hg; omega))).mono fun r w' h => ⟨(), h.1, h.2⟩, ?_⟩
  intro _ w2 h2
  have hx2 : Ext w1 w2 := by
    rcases h2 with ⟨_, h⟩ | ⟨_, h⟩
    · exact h
    · rw [h]; exact Ext.refl _
  clear h2
  (conv => whnf)
  refine ⟨Unit, fun _ => (.bool (l.all mayB)), fun _ w' => Ext w2 w', (), fun hg => ((all_spec l A cap w2 ((hs.ext hn1.ext).ext hx2) (by have := (Bool.or_eq_false_iff.1 hg).1; simp at this; omega) (any_big' (Bool.or_eq_false_iff.1 hg).2))).mono fun r w' h => ⟨(), h.1, h.2⟩, ?_⟩
  intro _ w3 h2
  have hx3 : Ext w2 w3 := by
    rcases h2 with ⟨_, h⟩ | ⟨_, h⟩
    · exact h
    · rw [h]; exact Ext.refl _
  clear h2
  (conv => whnf)
  replace h1 := (h1.ext hx2).ext hx3
  refine ⟨cfgC c, fun _ => ⟨rfl, h1.all⟩, ?_⟩; (conv => whnf)
  refine ⟨Unit, fun _ => (.bool (cfgB c)), fun _ w' => Ext w3 w', (), fun hg => ((rconfig_spec c w3)).mono fun r w' h => ⟨(), h.1, h.2⟩, ?_⟩
  intro _ w4 h2
  have hx4 : Ext w3 w4 := by
    rcases h2 with ⟨_, h⟩ | ⟨_, h⟩
    · exact h
    · rw [h]; exact Ext.refl _
  clear h2
  (conv => whnf)
  exact ⟨rfl, ((hn1.ext.trans hx2).trans hx3).trans hx4⟩
/-! ### People -/
def peopleL (z : List Ev) : List ByteArray := z.foldl (fun out e => if e.kind < 11 then putL out e.person else out) []
theorem peopleL_snoc (z : List Ev) (e : Ev) : peopleL (z ++ [e]) = if e.kind < 11 then putL (peopleL z) e.person else peopleL z := by unfold peopleL; rw [List.foldl_append]; rfl
theorem peopleL_len : ∀ z : List Ev, (peopleL z).length ≤ z.length := by
  refine snoc_ind (by simp [peopleL]) fun z e ih => ?_
  rw [peopleL_snoc]
  have := put_len (peopleL z) e.person
  split <;> simp <;> omega
theorem peopleL_mem (x : ByteArray) : ∀ z : List Ev, x ∈ peopleL z ↔ ∃ e ∈ z, e.kind < 11 ∧ e.person = x := by
  refine snoc_ind (by simp [peopleL]) fun z e ih => ?_
  have hsplit : (∃ y ∈ z ++ [e], y.kind < 11 ∧ y.person = x) ↔ (∃ y ∈ z, y.kind < 11 ∧ y.person = x) ∨ (e.kind < 11 ∧ e.person = x) := by
    constructor
    · rintro ⟨y, hy, h⟩
      rcases List.mem_append.1 hy with hy | hy
      · exact .inl ⟨y, hy, h⟩
      · rw [List.mem_singleton] at hy; subst hy; exact .inr h
    · rintro (⟨y, hy, h⟩ | h)
      · exact ⟨y, by simp [hy], h⟩
      · exact ⟨e, by simp, h⟩
  rw [peopleL_snoc, hsplit, ← ih]
  split
  · next hk =>
    rw [put_mem]
    constructor
    · rintro (h | h)
      · exact .inl h
      · exact .inr ⟨hk, h.symm⟩
    · rintro (h | ⟨_, h⟩)
      · exact .inl h
      · exact .inr h.symm
  · next hk =>
    constructor
    · exact .inl
    · rintro (h | ⟨h, _⟩)
      · exact h
      · exact absurd h hk
theorem rpeople_spec (l : List Ev) (A : Option Addr) (c : Nat) (w : World) (hs : SlE w A l) (hl : l.length < 1000000) :
    Cal Tryz.prog 25 [.slice A l.length c] w fun r w' => ∃ A' c', r = .slice A' (peopleL l).length c' ∧ SlT w' A' (peopleL l) ∧ Ext w w' := by
  refine fn_intro Tt_ok Tryz.func25 (by rfl) rfl _ rfl rfl (by rfl) ?_; (conv => whnf)
  intro b1 w1 hn1; (conv => whnf)
  have o1 : Sl strE 1 w1 (some ⟨b1, 0, none⟩) [] := Sl.nil
  refine loop_rule Tt_ok (fun (k : Nat × Option Addr × Nat × List ByteArray) w' => k.1 ≤ l.length ∧ Ext w w' ∧ k.2.2.2 = peopleL (l.take k.1) ∧ k.2.2.2.length ≤ k.2.2.1 ∧ Sl strE 1 w' k.2.1 k.2.2.2)
    (fun | (k, B, d, T) => [(0, .slice A l.length c), (3, .slice B T.length d), (4, .int .i64 k)]) (fun k => l.length - k.1) (0, some ⟨b1, 0, none⟩, 0, []) ⟨by simp, hn1.ext, rfl, Nat.le_refl _, o1⟩ ⟨rfl, rfl, rfl, trivial⟩ ?_
  rintro ⟨k, B, d, T⟩ w2 ⟨hk, hx2, hT, hd, hT2⟩
  simp only at hk hT hd hT2
  have hTl : T.length ≤ k := by
    rw [hT]
    have := peopleL_len (l.take k)
    rw [List.length_take] at this
    omega
  (conv => whnf)
  constructor
  · intro hc
    have hc : k < l.length := by simpa using hc
    obtain ⟨a2, rfl, hce⟩ := (hs.ext hx2).get hc
    have htk := take_next l k hc
    have hsn : peopleL (l.take (k + 1)) = if (l[k]).kind < 11 then putL T (l[k]).person else T := by rw [htk, peopleL_snoc, ← hT]
    generalize l[k] = e at hce hsn
    (conv => whnf); repeat (refine seq_go Tt_ok ?_; (conv => whnf))
    refine ⟨a2, ⟨rfl, by omega, by omega⟩, ?_⟩; (conv => whnf); repeat (refine seq_go Tt_ok ?_; (conv => whnf))
    refine ⟨.int .i64 e.kind, cells_at hce (k := 3) rfl, ?_⟩; (conv => whnf); repeat (refine seq_go Tt_ok ?_; (conv => whnf))
    constructor
    · intro hq
      have hq : e.kind < 11 := by simpa using hq
      rw [if_pos hq] at hsn
      (conv => whnf); repeat (refine seq_go Tt_ok ?_; (conv => whnf))
      refine ⟨a2, ⟨rfl, by omega, by omega⟩, ?_⟩; (conv => whnf); repeat (refine seq_go Tt_ok ?_; (conv => whnf))
      refine ⟨.string e.person, cells_at hce (k := 4) rfl, ?_⟩; (conv => whnf); repeat (refine seq_go Tt_ok ?_; (conv => whnf))
      refine (rput_spec T e.person B d w2 hT2 (by omega) hd).mono ?_
      rintro _ w3 ⟨B3, d3, rfl, hd3, hs3, hx3⟩
      generalize putL T e.person = T3 at hd3 hs3 hsn
      (conv => whnf); repeat (refine seq_go Tt_ok ?_; (conv => whnf))
      refine ⟨((k + 1 : Nat) : Int), wrap_succ (by omega), ?_⟩; (conv => whnf); repeat (refine seq_go Tt_ok ?_; (conv => whnf))
      exact ⟨(k + 1, B3, d3, T3), by simp only; omega, ⟨by simp only; omega, hx2.trans hx3, hsn.symm, hd3, hs3⟩, ⟨rfl, rfl, rfl, trivial⟩⟩
    · intro hq
      have hq : ¬ e.kind < 11 := by simpa using hq
      rw [if_neg hq] at hsn
      (conv => whnf); repeat (refine seq_go Tt_ok ?_; (conv => whnf))
      refine ⟨((k + 1 : Nat) : Int), wrap_succ (by omega), ?_⟩; (conv => whnf); repeat (refine seq_go Tt_ok ?_; (conv => whnf))
      exact ⟨(k + 1, B, d, T), by simp only; omega, ⟨by simp only; omega, hx2, hsn.symm, hd, hT2⟩, ⟨rfl, rfl, rfl, trivial⟩⟩
  · intro hc
    have hc : l.length ≤ k := by simpa using hc
    rw [List.take_of_length_le hc] at hT
    rw [← hT]
    (conv => whnf)
    exact ⟨B, d, rfl, hT2, hx2⟩
/-! ### Worlds that go on -/
/-- A change of blocks that are all new. -/
theorem ext_mod {w w1 w2 : World} {T : Nat → Prop} (hx : Ext w w1) (hT : ∀ k, T k → w.heap.size ≤ k) (hM : Mod T w1 w2) : Ext w w2 :=
  (mod_trans_grow (Mod.of_ext (S := fun _ => False) hx) (hM.mono fun k _ hk => .inr (hT k hk))).ext fun _ _ h => h
theorem pe_kind {e : Ev} (hm : mayB e = true) (h : peB e = true) : e.kind < 11 := by
  have hk := may_kind hm
  unfold peB thB at h
  simp only [Bool.and_eq_true, Bool.not_eq_true', decide_eq_false_iff_not] at h
  omega
theorem rawX_of (c : Cfg) (z : List Ev) (p q item : ByteArray) (now : Int) (k : Nat) (h : k = 0 ∨ k = 3 ∨ k = 5) : rawX c z p item now k = rawX c z q item now k := by
  unfold rawX
  rw [Int.toNat_natCast, raw_all c z p q item now k h]
theorem rawX_nobody (c : Cfg) (z : List Ev) (p item : ByteArray) (now : Int) (hp : ∀ e ∈ z, peB e = true → e.person ≠ p) (k : Nat) (h : k = 1 ∨ k = 2 ∨ k = 4) : rawX c z p item now k = 0 := by
  unfold rawX
  rw [Int.toNat_natCast, raw_nobody c z p item now hp k h]
  split <;> rfl
set_option maxHeartbeats 1000000 in
theorem scoreStrangers_spec (c : Cfg) (l : List Ev) (person other item : ByteArray) (now : Int) (A : Option Addr) (cap : Nat) (w : World) (hg0 : Gl w) (hs : SlE w A l) :
    Cal Tryz.prog 6 [cfgV c, .slice A l.length cap, .string person, .string other, .string item, .int .i64 now] w fun r w' => r = .bool true ∧ Ext w w' := by
  refine fn_intro Tt_ok Tryz.func6 (by rfl) rfl _ rfl rfl (by rfl) ?_; (conv => whnf)
  intro b1 w1 hn1; (conv => whnf)
  refine (slives_spec w1 (hg0.ext hn1.ext)).mono ?_
  rintro _ w2 ⟨rfl, hx2⟩; (conv => whnf)
  refine ⟨fun h => (by simp at h), fun _ => ?_⟩
  have hx := hn1.ext.trans hx2
  have hc1 : At w2 b1 _ (cfgC c) := hn1.At.ext hx2
  clear hn1 hx2
  (conv => whnf)
  refine ⟨cfgC c, ⟨rfl, hc1.all⟩, ?_⟩; (conv => whnf)
  refine (heavy_spec 20 (by omega) c l A cap person item w2 (hs.ext hx)).mono ?_
  rintro _ w3 ⟨rfl, hx3⟩
  replace hx := hx.trans hx3
  replace hc1 := hc1.ext hx3
  clear hx3
  generalize hq : hvB 20 c l person item = q
  (conv => whnf)
  constructor
  · intro _; (conv => whnf); exact ⟨rfl, hx⟩
  intro hc
  have hq0 : q = false := by
    have hc : (q || decide ((100 : Int) < other.size)) = false := hc
    exact (Bool.or_eq_false_iff.1 hc).1
  subst hq0
  obtain ⟨hl, hm, hcf⟩ := hv_not hq
  clear hc hq
  (conv => whnf)
  refine ⟨cfgC c, ⟨rfl, hc1.all⟩, ?_⟩; (conv => whnf)
  refine (made_spec c hcf l A cap w3 (hg0.ext hx) (hs.ext hx) (by omega) hm).mono ?_
  rintro _ w4 ⟨p, rfl, hW, hx4⟩
  have hb3 := hx.size
  replace hx := hx.trans hx4
  obtain ⟨T, hWT, hTb⟩ := hW.t
  have hTw : ∀ k, T k → w.heap.size ≤ k := fun k hk => Nat.le_trans hb3 (hTb k hk)
  have hzm := hW.may
  have hzl := anew_len l
  clear hW hx4 hTb hb3 hc1
  (conv => whnf)
  refine ⟨fun h => (by simp at h), fun _ => ?_⟩
  (conv => whnf)
  refine (ranew_spec l A cap w4 (hs.ext hx) (by omega) hm).mono ?_
  rintro _ w5 ⟨A5, c5, rfl, hs5, hx5⟩
  replace hWT := hWT.ext hx5
  replace hx := hx.trans hx5
  clear hx5
  have hnb : inT (peopleL (anewL l)) other = false → ∀ e ∈ anewL l, peB e = true → e.person ≠ other := fun h e he hp heq => by
    rw [inT_not] at h
    exact h ((peopleL_mem other _).2 ⟨e, he, pe_kind (hzm e he) hp, heq⟩)
  generalize anewL l = z at hWT hzm hzl hs5 hnb
  (conv => whnf)
  refine (rpeople_spec z A5 c5 w5 hs5 (by omega)).mono ?_
  rintro _ w6 ⟨A6, c6, rfl, hs6, hx6⟩
  replace hWT := hWT.ext hx6
  replace hx := hx.trans hx6
  clear hx6 hs5
  have hpl := peopleL_len z
  generalize peopleL z = P at hs6 hnb hpl
  (conv => whnf)
  refine (rin_spec P other A6 c6 w6 hs6 (by omega)).mono ?_
  rintro _ w7 ⟨rfl, hw7⟩
  subst hw7
  generalize inT P other = nb at hnb
  clear hs6
  have hok : ScOk c z := ⟨hcf, by omega⟩
  (conv => whnf)
  refine loop_rule Tt_ok (fun (k : Nat) w' => k ≤ 6 ∧ Ext w w' ∧ ∃ T, WT w' T p c z ∧ ∀ b, T b → w.heap.size ≤ b)
    (fun k => [(2, .string person), (3, .string other), (4, .string item), (5, .int .i64 now), (13, .pointer (some ⟨p, 0, none⟩)), (15, .bool (!nb)), (16, .int .i64 (k : Nat))]) (fun k => 6 - k) 0 ⟨by omega, hx, T, hWT, hTw⟩ ⟨rfl, rfl, rfl, rfl, rfl, rfl, rfl, trivial⟩ ?_
  clear hx hWT hTw
  rintro k w8 ⟨hk, hx8, T8, hW8, hT8⟩
  (conv => whnf)
  constructor
  · intro hlt
    have hlt : k < 6 := by
      have : (k : Int) < 6 := by simpa using hlt
      omega
    (conv => whnf); repeat (refine seq_go Tt_ok ?_; (conv => whnf))
    refine (sraw_spec hW8 hok (hg0.ext hx8) person item now k).mono ?_
    rintro _ w9 ⟨rfl, hM9, T9, hW9, hT9⟩
    have hx9 := ext_mod hx8 hT8 hM9
    have hT9' : ∀ b, T9 b → w.heap.size ≤ b := fun b hb => (hT9 b hb).elim (hT8 b) fun h => Nat.le_trans hx8.size h
    (conv => whnf); repeat (refine seq_go Tt_ok ?_; (conv => whnf))
    refine (sraw_spec hW9 hok (hg0.ext hx9) other item now k).mono ?_
    rintro _ w10 ⟨rfl, hM10, T10, hW10, hT10⟩
    have hx10 := ext_mod hx9 hT9' hM10
    have hT10' : ∀ b, T10 b → w.heap.size ≤ b := fun b hb => (hT10 b hb).elim (hT9' b) fun h => Nat.le_trans hx9.size h
    have hA := rawX_of c z person other item now k
    have hB : nb = false → (k = 1 ∨ k = 2 ∨ k = 4) → rawX c z other item now k = 0 := fun h hk => rawX_nobody c z other item now (hnb h) k hk
    generalize rawX c z person item now k = ra at hA
    generalize rawX c z other item now k = rb at hA hB
    (conv => whnf); repeat (refine seq_go Tt_ok ?_; (conv => whnf))
    constructor
    · intro hc
      exfalso
      simp at hc
      rcases hc with ⟨h1, h2⟩ | ⟨⟨h1, h2⟩, h3⟩
      · exact h2 (hA (by omega))
      · exact h3 (hB h1 (by omega))
    · intro _
      (conv => whnf); repeat (refine seq_go Tt_ok ?_; (conv => whnf))
      refine ⟨((k + 1 : Nat) : Int), wrap_succ (by omega), ?_⟩; (conv => whnf); repeat (refine seq_go Tt_ok ?_; (conv => whnf))
      exact ⟨k + 1, by omega, ⟨by omega, hx10, T10, hW10, hT10'⟩, ⟨rfl, rfl, rfl, rfl, rfl, rfl, rfl, trivial⟩⟩
  · intro _
    (conv => whnf)
    exact ⟨rfl, hx8⟩
end Go.Proofs.YtoancknoinilaaaGreatDoor
