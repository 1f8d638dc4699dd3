
/- The document's Join; the law 'ShardJoins'. -/
import Derived.Test.YtbfjlpoeglcmfaaDoorJo3
import Derived.Test.YtbfjlpoeglcmfaaDoorShard5
set_option linter.unusedVariables false
set_option linter.unusedSimpArgs false
namespace Go.Proofs.YtbfjlpoeglcmfaaDoor
open Go.Se Go.RowKit

theorem rjoin_spec (l : List Ev) (A : Option Addr) (c : Nat) (w : World) (hs : SlE w A l) (hl : l.length < 1000000) (hf : ∀ e ∈ l, FOk e) :
    Cal Tryd.prog 7 [.slice A l.length c] w fun r w' => ∃ A' c' z, r = .slice A' z.length c' ∧ z.Perm (onceL l) ∧ Srt lessB z ∧ SlE w' A' z ∧ Ext w w' := by
  refine fn_intro Tt_ok Tryd.func7 (by rfl) rfl _ rfl rfl (by rfl) ?_; (conv => whnf)
  refine (once_spec l A c w hs hl hf).mono ?_
  rintro _ w1 ⟨A1, c1, rfl, hs1, hx1⟩; (conv => whnf)
  refine (rsort_spec (onceL l) A1 c1 w1 hs1 (by have := once_len l; omega)).mono ?_
  rintro _ w2 ⟨A2, c2, z, rfl, hp, hz, hs2, hx2⟩; (conv => whnf)
  exact ⟨A2, c2, z, rfl, hp, hz, hs2, hx1.trans hx2⟩

/-- Parts that are told one by one. -/
theorem parts_at {w : World} {b : Nat} {t : TypeId} {vs : List (Option Addr × Nat)} {ps : List (List Ev)} (h : At w b t (List.zipWith (fun (v : Option Addr × Nat) (l : List Ev) => Value.slice v.1 l.length v.2) vs ps)) (hl : vs.length = ps.length)
    (hs : ∀ (i : Nat) (v : Option Addr × Nat) (l : List Ev), vs[i]? = some v → ps[i]? = some l → SlE w v.1 l) : SlParts w (some ⟨b, 0, none⟩) ps := ⟨fun i l hi => by
  have hlt : i < ps.length := (List.getElem?_eq_some_iff.1 hi).1
  have hv : vs[i]? = some (vs[i]'(by omega)) := List.getElem?_eq_getElem (by omega)
  refine ⟨⟨b, 0, none⟩, (vs[i]'(by omega)).1, (vs[i]'(by omega)).2, rfl, ?_, hs i _ l hv hi⟩
  rw [add_zero_addr, h.cell, Nat.mul_one, List.getElem?_zipWith, hv, hi]⟩
theorem any_big {l : List Ev} (h : l.any (bigB 300) = false) : ∀ e ∈ l, e.text.size < 1000000000000 := fun e he => by
  have := (List.any_eq_false.1 h) e he
  simp [bigB] at this
  omega
theorem mem_parts (l : List Ev) (n : Nat) (hn : 1 ≤ n) (x : Ev) : x ∈ ((List.range n).map fun k => partL l n (k : Nat)).flatten ↔ x ∈ l := by
  rw [List.mem_flatten]
  constructor
  · rintro ⟨p, hp, hx⟩
    obtain ⟨k, _, rfl⟩ := List.mem_map.1 hp
    exact (List.mem_filter.1 hx).1
  · intro hx
    have hb := below_bounds (hashN x.person) n (hashN_lt x.person)
    have h2 := hb.2 (by omega)
    refine ⟨partL l n (shardOf x.person n), List.mem_map.2 ⟨(shardOf x.person n).toNat, ?_, ?_⟩, ?_⟩
    · rw [List.mem_range]; unfold shardOf; omega
    · rw [Int.toNat_of_nonneg (by unfold shardOf; exact hb.1)]
    · unfold partL
      rw [List.mem_filter]
      exact ⟨hx, by simp [inPart]⟩
theorem pl_parts {base : Nat} {w : World} {pb n : Nat} {A : Nat → Option Addr} {c : Nat → Nat} {f : Nat → List Ev} (h : PL base w pb n A c f) : SlParts w (some ⟨pb, 0, none⟩) ((List.range n).map f) := ⟨fun i l hi => by
  rw [List.getElem?_map] at hi
  have hlt : i < n := by
    rcases Nat.lt_or_ge i n with h | h
    · exact h
    · rw [List.getElem?_eq_none (by simpa using h)] at hi; simp at hi
  rw [List.getElem?_eq_getElem (by simpa using hlt)] at hi
  obtain rfl : f i = l := by simpa using hi
  exact ⟨_, A i, c i, rfl, h.cell hlt, (h.own i hlt).sl evC_len⟩⟩
theorem flat_len_le {ps : List (List Ev)} {m : Nat} (h : ∀ p ∈ ps, p.length ≤ m) : ps.flatten.length ≤ ps.length * m := by
  induction ps with
  | nil => simp
  | cons p ps ih =>
    have h1 := h p (by simp)
    have h2 := ih fun q hq => h q (by simp [hq])
    rw [List.flatten_cons, List.length_append, List.length_cons, Nat.succ_mul]
    omega
theorem partL_le (l : List Ev) (n k : Int) : (partL l n k).length ≤ l.length := List.length_filter_le _ _

/-- Events of unlike identities: all of them count. -/
theorem once_same {z : List Ev} (hm : ∀ x ∈ z, mayB x = true) (hi : z.Pairwise (fun a b => idE a ≠ idE b)) : (onceL z).Perm z := by
  have h1 := once_is hm
  refine h1.perm (l' := z) (z' := z) ⟨hi, fun y hy => ⟨y, hy, rfl⟩, fun x => ⟨fun hx => ⟨hx, fun y hy he => ?_⟩, fun h => h.1⟩⟩ (fun x => Iff.rfl)
  rw [ids_eq hi hy hx he]
  exact better_irrefl x
theorem joins_spec (n : Int) (l : List Ev) (at_ : Int) (A : Option Addr) (c : Nat) (w : World) (hg0 : Gl w) (hs : SlE w A l) (hlc : l.length ≤ c) (hn : n < 9223372036854775808) :
    Cal Tryd.prog 3 [.int .i64 n, .slice A l.length c, .int .i64 at_] w fun r w' => r = .bool true ∧ Ext w w' := by
  refine fn_intro Tt_ok Tryd.func3 (by rfl) rfl _ rfl rfl (by rfl) ?_; (conv => whnf)
  refine (lives_spec w).mono ?_
  rintro r w1 ⟨rfl, hx1⟩
  (conv => whnf)
  refine ⟨fun h => by simp at h, fun _ => ?_⟩
  (conv => whnf)
  refine ⟨Unit, fun _ => (.bool (l.any (bigB 300))), fun _ w' => Ext w1 w', (), fun hg => ((some_spec l A c 300 w1 (hs.ext hx1) (by simp at hg; omega))).mono fun r w' h => ⟨(), h.1, h.2⟩, ?_⟩
  intro _ w2 h2
  have hx2 : Ext w1 w2 := by
    rcases h2 with ⟨_, h⟩ | ⟨_, h⟩
    · exact h
    · rw [h]; exact Ext.refl _
  clear h2
  (conv => whnf)
  refine ⟨Unit, fun _ => (.bool (l.all mayB)), fun _ w' => Ext w2 w', (), fun hg => ((all_spec l A c w2 ((hs.ext hx1).ext hx2) (by simp at hg; omega) (any_big (Bool.or_eq_false_iff.1 hg).2))).mono fun r w' h => ⟨(), h.1, h.2⟩, ?_⟩
  intro _ w3 h2
  have hx3 : Ext w2 w3 := by
    rcases h2 with ⟨_, h⟩ | ⟨_, h⟩
    · exact h
    · rw [h]; exact Ext.refl _
  clear h2
  (conv => whnf)
  have hx : Ext w w3 := (hx1.trans hx2).trans hx3
  clear hx1 hx2 hx3
  constructor
  · intro _; (conv => whnf); exact ⟨rfl, hx⟩
  intro hcond
  have hcond : ((((decide (n < 1) || decide (8 < n)) || decide ((30 : Int) < l.length)) || l.any (bigB 300)) || !l.all mayB || decide (at_ < 0) || decide ((l.length : Int) < at_)) = false := hcond
  simp only [Bool.or_eq_false_iff, decide_eq_false_iff_not, Bool.not_eq_false'] at hcond
  obtain ⟨⟨⟨⟨⟨⟨hc1, hc2⟩, hc3⟩, hc4⟩, hc5⟩, hc6⟩, hc7⟩ := hcond
  have hmay : ∀ e ∈ l, mayB e = true := List.all_eq_true.1 hc5
  have hfok : ∀ e ∈ l, FOk e := fun e he => may_fok (hmay e he) (Nat.lt_trans (may_text (hmay e he)) (by decide))
  obtain ⟨m, rfl⟩ : ∃ m : Nat, n = m := ⟨n.toNat, by omega⟩
  obtain ⟨k, rfl⟩ : ∃ k : Nat, at_ = k := ⟨at_.toNat, by omega⟩
  have hk : k ≤ l.length := by omega
  have hl : l.length ≤ 30 := by omega
  replace hs := hs.ext hx
  replace hg0 := hg0.ext hx
  (conv => whnf)
  refine (rjoin_spec l A c w3 hs (by omega) hfok).mono ?_
  rintro _ w4 ⟨AW, cW, zw, rfl, hpw, hsw, hslw, hx4⟩; (conv => whnf)
  have hzl : zw.length ≤ 30 := by have := hpw.length_eq; have := once_len l; omega
  replace hs := hs.ext hx4
  replace hg0 := hg0.ext hx4
  replace hx := hx.trans hx4
  clear hx4
  refine draw_rule .same [0, 1, 2, 3, 4, 5, 6, 7, 8] [9, 10, 11] Tt_ok mixed (by kernel_rfl) (by first | (intro h; cases h; done) | (intro _; rfl)) ?_; (conv => whnf)
  replace hs := hs.ext (Ext.refl w4).drew
  replace hg0 := hg0.ext (Ext.refl w4).drew
  replace hslw := hslw.ext (Ext.refl w4).drew
  replace hx := hx.drew
  generalize w4.drew = w5 at hs hg0 hslw hx ⊢
  refine ⟨⟨by omega, by omega, by omega, by omega⟩, ?_⟩; (conv => whnf)
  refine ⟨⟨by omega, by omega, by omega, by omega⟩, ?_⟩; (conv => whnf)
  refine ⟨⟨by omega, by omega, by omega, by omega⟩, ?_⟩; (conv => whnf)
  intro b6 w6 hn6; (conv => whnf)
  have hs6 := hs.ext hn6.ext
  have hst : SlE w6 (if c = 0 then A else A.map (·.add (0 * 8))) (l.take k) := sl_drop_if (sl_take hs6 k) 0 c (by rw [List.length_take]; omega)
  have hsd : SlE w6 (if c = k then A else A.map (·.add (k * 8))) (l.drop k) := sl_drop_if hs6 k c (by omega)
  have htl : (l.take k).length = k := by rw [List.length_take]; omega
  have hdl : (l.drop k).length = l.length - k := List.length_drop
  have hP : SlParts w6 (some ⟨b6, 0, none⟩) [l.take k, [], l.drop k, l.take k] := by
    refine parts_at (t := 22) (vs := [(if c = 0 then A else A.map (·.add (0 * 8)), c), (none, 0), (if c = k then A else A.map (·.add (k * 8)), c - k), (if c = 0 then A else A.map (·.add (0 * 8)), c)]) ?_ rfl ?_
    · have := hn6.At
      simp only [List.zipWith_cons_cons, List.zipWith_nil_left, htl, hdl]
      exact this
    · intro i v p h1 h2
      match i, h1, h2 with
      | 0, h1, h2 => simp at h1 h2; subst h1 h2; exact hst
      | 1, h1, h2 => simp at h1 h2; subst h1 h2; exact Sl.nil
      | 2, h1, h2 => simp at h1 h2; subst h1 h2; exact hsd
      | 3, h1, h2 => simp at h1 h2; subst h1 h2; exact hst
      | i + 4, h1, h2 => simp at h1
  have hflat : ([l.take k, [], l.drop k, l.take k] : List (List Ev)).flatten.length < 1000000 := by simp; omega
  have hmp : ∀ p ∈ ([l.take k, [], l.drop k, l.take k] : List (List Ev)), ∀ e ∈ p, mayB e = true := by
    intro p hp e he
    simp only [List.mem_cons, List.not_mem_nil, or_false] at hp
    rcases hp with rfl | rfl | rfl | rfl
    · exact hmay e (List.mem_of_mem_take he)
    · cases he
    · exact hmay e (List.mem_of_mem_drop he)
    · exact hmay e (List.mem_of_mem_take he)
  have hmem : ∀ x, x ∈ ([l.take k, [], l.drop k, l.take k] : List (List Ev)).flatten ↔ x ∈ l := by
    intro x
    conv => rhs; rw [← List.take_append_drop k l]
    simp only [List.flatten_cons, List.flatten_nil, List.mem_append, List.not_mem_nil, or_false, false_or]
    constructor
    · rintro (h | h | h)
      · exact .inl h
      · exact .inr h
      · exact .inl h
    · rintro (h | h)
      · exact .inl h
      · exact .inr (.inl h)
  refine (join_spec [l.take k, [], l.drop k, l.take k] (some ⟨b6, 0, none⟩) 4 w6 (hg0.ext hn6.ext) hP hflat (by simp) hmp).mono ?_
  rintro _ w7 ⟨A7, z7, rfl, hp7, hs7, hsl7, hx7⟩; (conv => whnf)
  have hz7 : z7 = zw := join_unique hmem (fun x hx => hmay x ((hmem x).1 hx)) hp7 hs7 hpw hsw
  subst hz7
  have hxx := (hn6.ext.trans hx7)
  replace hs := hs.ext hxx
  replace hg0 := hg0.ext hxx
  replace hslw := hslw.ext hxx
  replace hx := hx.trans hxx
  refine (same_spec z7 z7 A7 AW z7.length cW w7 hsl7 hslw (by omega)).mono ?_
  rintro _ w8 ⟨rfl, hx8⟩
  rw [decide_eq_true rfl]
  (conv => whnf)
  replace hs := hs.ext hx8
  replace hg0 := hg0.ext hx8
  replace hslw := hslw.ext hx8
  replace hsl7 := hsl7.ext hx8
  replace hx := hx.trans hx8
  refine ⟨Nat, fun pb => .slice (some ⟨pb, 0, none⟩) m m, fun pb w' => ∃ A' c', PL w8.heap.size w' pb m A' c' (fun k => partL l m (k : Nat)) ∧ Ext w8 w', 0, fun _ => (split_yes l A c m w8 (by omega) (by omega) hs (by omega) (fun e he => by have := (hfok e he).person; omega)).mono (fun r w' ⟨pb, A', c', h1, h2, h3⟩ => ⟨pb, h1, A', c', h2, h3⟩), ?_⟩
  intro pb w9 h9
  obtain ⟨A9, c9, hpl9, hx9⟩ : ∃ A' c', PL w8.heap.size w9 pb m A' c' (fun k => partL l m (k : Nat)) ∧ Ext w8 w9 := by
    rcases h9 with ⟨_, h⟩ | ⟨h, _⟩
    · exact h
    · exact (h (And.intro rfl trivial)).elim
  clear h9
  (conv => whnf)
  replace hs := hs.ext hx9
  replace hg0 := hg0.ext hx9
  replace hslw := hslw.ext hx9
  replace hsl7 := hsl7.ext hx9
  replace hx := hx.trans hx9
  have hmp := mem_parts l m (by omega)
  have hP9 := pl_parts hpl9
  have hrl : ((List.range m).map fun k => partL l m (k : Nat)).length = m := by simp
  have hfl9 : ((List.range m).map fun k => partL l m (k : Nat)).flatten.length ≤ m * 30 := by
    have := flat_len_le (ps := (List.range m).map fun k => partL l m (k : Nat)) (m := 30) (fun p hp => by
      obtain ⟨i, _, rfl⟩ := List.mem_map.1 hp
      have := partL_le l m i
      omega)
    rwa [hrl] at this
  have hj9 := join_spec ((List.range m).map fun k => partL l m (k : Nat)) (some ⟨pb, 0, none⟩) m w9 hg0 hP9 (by omega) (by omega) (fun p hp e he => hmay e ((hmp e).1 (List.mem_flatten.2 ⟨p, hp, he⟩)))
  rw [hrl] at hj9
  refine ⟨Option Addr, fun A' => .slice A' z7.length z7.length, fun A' w' => SlE w' A' z7 ∧ Ext w9 w', none, fun _ => hj9.mono (fun r w' ⟨A', z, h1, h2, h3, h4, h5⟩ => ?_), ?_⟩
  · have : z = z7 := join_unique hmp (fun x hx => hmay x ((hmp x).1 hx)) h2 h3 hpw hsw
    subst this
    exact ⟨A', h1, h4, h5⟩
  intro A10 w10 h10
  obtain ⟨hsl10, hx10⟩ : SlE w10 A10 z7 ∧ Ext w9 w10 := by
    rcases h10 with ⟨_, h⟩ | ⟨h, _⟩
    · exact h
    · exact (h (And.intro rfl trivial)).elim
  clear h10 hj9
  (conv => whnf)
  replace hs := hs.ext hx10
  replace hg0 := hg0.ext hx10
  replace hslw := hslw.ext hx10
  replace hsl7 := hsl7.ext hx10
  replace hx := hx.trans hx10
  have hsm := same_spec z7 z7 A10 AW z7.length cW w10 hsl10 hslw (by omega)
  rw [decide_eq_true rfl] at hsm
  refine ⟨Unit, fun _ => (.bool true), fun _ w' => Ext w10 w', (), fun hg => ((hsm)).mono fun r w' h => ⟨(), h.1, h.2⟩, ?_⟩
  intro _ w11 h2
  have hx11 : Ext w10 w11 := by
    rcases h2 with ⟨_, h⟩ | ⟨_, h⟩
    · exact h
    · rw [h]; exact Ext.refl _
  clear h2
  (conv => whnf)
  clear hsm
  replace hs := hs.ext hx11
  replace hg0 := hg0.ext hx11
  replace hslw := hslw.ext hx11
  replace hsl7 := hsl7.ext hx11
  replace hx := hx.trans hx11
  refine ⟨Nat, fun b => .slice (some ⟨b, 0, none⟩) 1 1, fun b w' => SlParts w' (some ⟨b, 0, none⟩) [z7] ∧ Ext w11 w', 0, fun _ => ?_, ?_⟩
  · (conv => whnf)
    intro b w' hn
    refine ⟨b, rfl, parts_at (t := 22) (vs := [(A7, z7.length)]) hn.At rfl (fun i v p h1 h2 => ?_), hn.ext⟩
    match i, h1, h2 with
    | 0, h1, h2 => simp at h1 h2; subst h1 h2; exact hsl7.ext hn.ext
    | i + 1, h1, h2 => simp at h1
  intro b12 w12 h12
  obtain ⟨hP12, hx12⟩ : SlParts w12 (some ⟨b12, 0, none⟩) [z7] ∧ Ext w11 w12 := by
    rcases h12 with ⟨_, h⟩ | ⟨h, _⟩
    · exact h
    · exact (h (And.intro rfl trivial)).elim
  clear h12
  (conv => whnf)
  replace hg0 := hg0.ext hx12
  replace hslw := hslw.ext hx12
  replace hx := hx.trans hx12
  have hz7 : ∀ x ∈ z7, mayB x = true := fun x hx => hmay x (once_mem (hpw.subset hx))
  have hj12 := join_spec [z7] (some ⟨b12, 0, none⟩) 1 w12 hg0 hP12 (by simp; omega) (by simp) (fun p hp e he => by simp at hp; subst hp; exact hz7 e he)
  refine ⟨Option Addr, fun A' => .slice A' z7.length z7.length, fun A' w' => SlE w' A' z7 ∧ Ext w12 w', none, fun _ => hj12.mono (fun r w' ⟨A', z, h1, h2, h3, h4, h5⟩ => ?_), ?_⟩
  · have : z = z7 := by
      simp only [List.flatten_cons, List.flatten_nil, List.append_nil] at h2
      have hid := ids_perm hpw (once_is hmay).ids
      exact sorted_ids (h2.trans (once_same hz7 hid)) (ids_perm (h2.trans (once_same hz7 hid)) hid) h3 hsw
    subst this
    exact ⟨A', h1, h4, h5⟩
  intro A13 w13 h13
  obtain ⟨hsl13, hx13⟩ : SlE w13 A13 z7 ∧ Ext w12 w13 := by
    rcases h13 with ⟨_, h⟩ | ⟨h, _⟩
    · exact h
    · exact (h (And.intro rfl trivial)).elim
  clear h13 hj12
  (conv => whnf)
  replace hg0 := hg0.ext hx13
  replace hslw := hslw.ext hx13
  replace hx := hx.trans hx13
  have hsm := same_spec z7 z7 A13 AW z7.length cW w13 hsl13 hslw (by omega)
  rw [decide_eq_true rfl] at hsm
  refine ⟨Unit, fun _ => (.bool true), fun _ w' => Ext w13 w', (), fun hg => ((hsm)).mono fun r w' h => ⟨(), h.1, h.2⟩, ?_⟩
  intro _ w14 h2
  have hx14 : Ext w13 w14 := by
    rcases h2 with ⟨_, h⟩ | ⟨_, h⟩
    · exact h
    · rw [h]; exact Ext.refl _
  clear h2
  (conv => whnf)
  clear hsm
  replace hg0 := hg0.ext hx14
  replace hx := hx.trans hx14
  have hj14 := join_spec [] none 0 w14 hg0 ⟨fun i l h => by simp at h⟩ (by simp) (by simp) (by simp)
  refine ⟨Option Addr, fun A' => .slice A' 0 0, fun A' w' => Ext w14 w', none, fun _ => hj14.mono (fun r w' ⟨A', z, h1, h2, h3, h4, h5⟩ => ?_), ?_⟩
  · have : z = [] := by
      have := h2.length_eq
      exact List.eq_nil_of_length_eq_zero (by simpa [onceL] using this)
    subst this
    exact ⟨A', h1, h5⟩
  intro A15 w15 h15
  have hx15 : Ext w14 w15 := by
    rcases h15 with ⟨_, h⟩ | ⟨_, h⟩
    · exact h
    · rw [h]; exact Ext.refl _
  clear h15
  (conv => whnf)
  exact ⟨rfl, hx.trans hx15⟩
end Go.Proofs.YtbfjlpoeglcmfaaDoor
