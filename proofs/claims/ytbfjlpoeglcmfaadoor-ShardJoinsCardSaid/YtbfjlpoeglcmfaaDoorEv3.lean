
/- The document's Label and May. -/
import Derived.Test.YtbfjlpoeglcmfaaDoorEv2
set_option linter.unusedVariables false
set_option linter.unusedSimpArgs false
namespace Go.Proofs.YtbfjlpoeglcmfaaDoor
open Go.Se Go.RowKit

/-- The order of texts. -/
def bLt (a b : ByteArray) : Bool := Op.bytesLess a.toList b.toList
def tagOk (l : List ByteArray) (i : Nat) : Bool := isName (l.getD i .empty) && (i == 0 || bLt (l.getD (i - 1) .empty) (l.getD i .empty))
def tagsOk (l : List ByteArray) : Bool := (List.range l.length).all (tagOk l)
def labelB (s : ByteArray) : Bool := (placeN s).isSome && isName (makerOf s) && (tagsOk (tagsOf s) && decide ((tagsOf s).length ≤ 8))

theorem tagsOk_all {l : List ByteArray} {k : Nat} (h : ∀ i, i < k → tagOk l i = true) (hk : l.length ≤ k) : tagsOk l = true := by
  unfold tagsOk
  rw [List.all_eq_true]
  intro i hi
  exact h i (by have := List.mem_range.1 hi; omega)
theorem tagsOk_not {l : List ByteArray} {k : Nat} (hk : k < l.length) (h : tagOk l k = false) : tagsOk l = false := by
  unfold tagsOk
  rw [List.all_eq_false]
  exact ⟨k, List.mem_range.2 hk, by simp [h]⟩
theorem getD_lt {α : Type} {l : List α} {i : Nat} {d : α} (h : i < l.length) : l.getD i d = l[i] := by
  rw [List.getD_eq_getElem?_getD, List.getElem?_eq_getElem h]; rfl
theorem Sl.getS {w : World} {A : Option Addr} {l : List ByteArray} (h : SlT w A l) {k : Nat} (hk : k < l.length) : ∃ a, A = some a ∧ w.cell? (a.add (k * 1)) = some (.string (l.getD k .empty)) := by
  obtain ⟨a, ha, hc⟩ := h.get hk
  exact ⟨a, ha, by rw [getD_lt hk]; exact cells_head hc⟩
theorem tags_len (s : ByteArray) : (tagsOf s).length ≤ s.size + 1 := by
  unfold tagsOf
  split
  · split
    · simp
    · have := parts_len 44 (s.extract (‹Nat› + 1) s.size).data.toList
      simp [partsB] at this ⊢
      omega
  · simp
theorem tags_mem {s t : ByteArray} (h : t ∈ tagsOf s) : t.size ≤ s.size := by
  unfold tagsOf at h
  split at h
  · split at h
    · simp at h
    · unfold partsB at h
      obtain ⟨p, hp, rfl⟩ := List.mem_map.1 h
      have := parts_mem_len 44 _ p hp
      have e : (bytesOf p).size = p.length := by simp [bytesOf, ByteArray.size]
      rw [e]
      simp at this
      omega
  · simp at h

theorem label_spec (s : ByteArray) (w : World) (hs : s.size < 1000000000000) :
    Cal Tryd.prog 22 [.string s] w fun r w' => r = .bool (labelB s) ∧ Ext w w' := by
  refine fn_intro Tt_ok Tryd.func22 (by rfl) rfl _ rfl rfl (by rfl) ?_; (conv => whnf)
  refine (place_spec s w (by omega)).mono ?_
  rintro r w1 ⟨rfl, rfl⟩
  (conv => whnf)
  refine ⟨Unit, fun _ => .string (makerOf s), fun _ w' => w' = w1, (), fun _ => (rmaker_spec s w1 (by omega)).mono fun r w' h => ⟨(), h.1, h.2⟩, ?_⟩
  intro _ w2 h2
  obtain rfl : w2 = w1 := by
    rcases h2 with ⟨_, h⟩ | ⟨_, h⟩ <;> exact h
  clear h2
  (conv => whnf)
  refine ⟨Unit, fun _ => .bool (isName (makerOf s)), fun _ w' => w' = w2, (), fun _ => (rname_spec (makerOf s) w2).mono fun r w' h => ⟨(), h.1, h.2⟩, ?_⟩
  intro _ w3 h3
  obtain rfl : w3 = w2 := by
    rcases h3 with ⟨_, h⟩ | ⟨_, h⟩ <;> exact h
  clear h3
  (conv => whnf)
  have hpl : decide (placeI s < 0) = !(placeN s).isSome := by
    unfold placeI
    cases placeN s <;> simp
  constructor
  · intro h
    have h : (decide (placeI s < 0) || !isName (makerOf s)) = true := h
    (conv => whnf)
    refine ⟨?_, Ext.refl _⟩
    have : labelB s = false := by
      unfold labelB
      rw [hpl] at h
      cases h1 : (placeN s).isSome
      · simp
      · rw [h1] at h
        simp at h
        simp [h]
    rw [this]
  · intro h
    have h : (decide (placeI s < 0) || !isName (makerOf s)) = false := h
    have hl : labelB s = (tagsOk (tagsOf s) && decide ((tagsOf s).length ≤ 8)) := by
      unfold labelB
      rw [hpl] at h
      simp at h
      simp [h]
    (conv => whnf)
    refine (rtags_spec s w3 hs).mono ?_
    rintro r w4 ⟨A', c', rfl, hsl, hx⟩
    (conv => whnf)
    have htl := tags_len s
    refine loop_rule Tt_ok (fun (k : Nat) w' => k ≤ (tagsOf s).length ∧ Ext w4 w' ∧ ∀ i, i < k → tagOk (tagsOf s) i = true)
      (fun k => [(0, .string s), (3, .slice A' (tagsOf s).length c'), (4, .int .i64 k)]) (fun k => (tagsOf s).length - k) 0 ⟨by omega, Ext.refl _, fun i h => by omega⟩ ⟨rfl, rfl, rfl, trivial⟩ ?_
    rintro k w5 ⟨hk, hx5, hall⟩
    (conv => whnf)
    constructor
    · intro hlt
      have hlt : k < (tagsOf s).length := by simpa using hlt
      (conv => whnf)
      refine draw_rule .ext [0, 1, 2, 3, 4, 5, 6, 7, 8, 9, 10, 11, 12, 13, 14, 15, 16, 17, 18, 19, 20, 21] [] Tt_ok mixed (by kernel_rfl) (by first | (intro h; cases h; done) | (intro _; rfl)) ?_; (conv => whnf)
      have hx6 : Ext w4 w5.drew := hx5.drew
      obtain ⟨a, rfl, hc⟩ := (hsl.ext hx6).getS hlt
      refine ⟨a, ⟨rfl, by omega, by omega⟩, ?_⟩; (conv => whnf)
      refine ⟨_, hc, ?_⟩; (conv => whnf)
      refine (rname_spec ((tagsOf s).getD k .empty) w5.drew).mono ?_
      rintro r w6 ⟨rfl, rfl⟩
      refine ⟨Ext.refl _, ?_⟩
      (conv => whnf)
      refine ⟨(k : Int) - 1, fun _ _ => wrap_i64 ⟨by omega, by omega⟩, ?_⟩; (conv => whnf)
      refine ⟨a, fun h1 h2 => ⟨rfl, ?_, ?_⟩, ?_⟩
      · first | (simp at h1; omega) | (simp at h2; omega)
      · omega
      (conv => whnf)
      refine ⟨.string ((tagsOf s).getD (k - 1) .empty), fun h1 h2 => ?_, ?_⟩
      · obtain ⟨a2, e2, hc2⟩ := (hsl.ext hx6).getS (k := k - 1) (by omega)
        obtain rfl : a = a2 := by simpa using e2
        have e3 : ((k : Int) - 1).toNat = k - 1 := by omega
        exact (congrArg (fun n => w5.drew.cell? (a.add (n * 1))) e3).trans hc2
      (conv => whnf)
      refine ⟨a, fun h1 h2 => ⟨rfl, by omega, by omega⟩, ?_⟩; (conv => whnf)
      refine ⟨_, fun _ _ => hc, ?_⟩; (conv => whnf)
      have hcond : ((!isName ((tagsOf s).getD k .empty)) || (decide ((0 : Int) < k) && !bLt ((tagsOf s).getD (k - 1) .empty) ((tagsOf s).getD k .empty))) = !tagOk (tagsOf s) k := by
        unfold tagOk
        cases isName ((tagsOf s).getD k .empty) <;> cases k <;> simp
      constructor
      · intro hh
        have hh := hcond.symm.trans hh
        simp only [Bool.not_eq_true'] at hh
        (conv => whnf)
        refine ⟨?_, hx.trans hx6⟩
        rw [hl, tagsOk_not hlt hh]; rfl
      · intro hh
        have hh := hcond.symm.trans hh
        simp only [Bool.not_eq_false'] at hh
        (conv => whnf)
        refine ⟨((k + 1 : Nat) : Int), wrap_succ (by omega), ?_⟩; (conv => whnf)
        refine ⟨k + 1, by omega, ⟨by omega, hx6, fun i hik => ?_⟩, ⟨rfl, rfl, rfl, trivial⟩⟩
        by_cases e : i = k
        · subst e; exact hh
        · exact hall i (by omega)
    · intro hge
      have hge : (tagsOf s).length ≤ k := by simpa using hge
      (conv => whnf)
      refine ⟨?_, hx.trans hx5⟩
      rw [hl, tagsOk_all hall hge, Bool.true_and]
      exact congrArg Value.bool (decide_eq_decide.2 ⟨fun h => by omega, fun h => by omega⟩)

def k6 (e : Ev) : Bool := decide (e.kind = 0) || decide (e.kind = 1) || decide (e.kind = 2) || decide (e.kind = 3) || decide (e.kind = 5) || decide (e.kind = 6)
def k4 (e : Ev) : Bool := decide (e.kind = 7) || decide (e.kind = 8) || decide (e.kind = 9) || decide (e.kind = 10)
def kindB (e : Ev) : Bool :=
  bif k6 e then isName e.person && isName e.item && decide (e.text = ⟨#[]⟩) && decide (e.val = 0)
  else bif decide (e.kind = 4) then isName e.person && isName e.item && decide (e.text = ⟨#[]⟩) && inB e.val 1 5
  else bif k4 e then isName e.person && decide (e.item = ⟨#[]⟩) && isName e.text && decide (e.val = 0)
  else bif decide (e.kind = 11) then decide (e.person = ⟨#[]⟩) && isName e.item && labelB e.text && inB e.val 0 1048576
  else bif decide (e.kind = 12) then decide (e.person = ⟨#[]⟩) && isName e.item && decide (e.text = ⟨#[]⟩) && inB e.val 0 1048576
  else bif decide (e.kind = 13) then decide (e.person = ⟨#[]⟩) && isName e.item && decide (e.text = ⟨#[]⟩) && decide (e.val = 0)
  else bif decide (e.kind = 14) then isName e.person && decide (e.item = ⟨#[]⟩) && decide (e.text = ⟨#[]⟩) && decide (e.val = 0)
  else false
/-- May an event be? -/
def mayB (e : Ev) : Bool := isName e.src && inB e.num 1 1099511627776 && inB e.at_ 0 1099511627776 && kindB e
theorem rmay_spec (e : Ev) (w : World) (hs : e.text.size < 1000000000000) :
    Cal Tryd.prog 13 [evV e] w fun r w' => r = .bool (mayB e) ∧ Ext w w' := by
  refine fn_intro Tt_ok Tryd.func13 (by rfl) rfl _ rfl rfl (by rfl) ?_; (conv => whnf)
  intro b w1 hn
  have hb := hn.At
  (conv => whnf)
  refine ⟨_, hb.one rfl, ?_⟩; (conv => whnf)
  refine (rname_spec e.src w1).mono ?_
  rintro r w2 ⟨rfl, rfl⟩
  (conv => whnf)
  refine ⟨_, fun _ => hb.one rfl, ?_⟩; (conv => whnf)
  refine ⟨Unit, fun _ => .bool (inB e.num 1 1099511627776), fun _ w' => w' = w2, (), fun _ => (in_spec e.num 1 1099511627776 w2).mono fun r w' h => ⟨(), h.1, h.2⟩, ?_⟩
  intro _ w3 h3
  obtain rfl : w3 = w2 := by
    rcases h3 with ⟨_, h⟩ | ⟨_, h⟩ <;> exact h
  clear h3
  (conv => whnf)
  refine ⟨_, fun _ => hb.one rfl, ?_⟩; (conv => whnf)
  refine ⟨Unit, fun _ => .bool (inB e.at_ 0 1099511627776), fun _ w' => w' = w3, (), fun _ => (in_spec e.at_ 0 1099511627776 w3).mono fun r w' h => ⟨(), h.1, h.2⟩, ?_⟩
  intro _ w4 h4
  obtain rfl : w4 = w3 := by
    rcases h4 with ⟨_, h⟩ | ⟨_, h⟩ <;> exact h
  clear h4
  (conv => whnf)
  constructor
  · intro h
    have h : (((!isName e.src) || !inB e.num 1 1099511627776) || !inB e.at_ 0 1099511627776) = true := h
    (conv => whnf)
    refine ⟨?_, hn.ext⟩
    have : mayB e = false := by
      unfold mayB
      have : (isName e.src && inB e.num 1 1099511627776 && inB e.at_ 0 1099511627776) = false := by
        revert h
        cases isName e.src <;> cases inB e.num 1 1099511627776 <;> cases inB e.at_ 0 1099511627776 <;> simp
      rw [this, Bool.false_and]
    rw [this]
  · intro h
    have h : (((!isName e.src) || !inB e.num 1 1099511627776) || !inB e.at_ 0 1099511627776) = false := h
    (conv => whnf)
    refine draw_rule .same [0, 1, 2, 3, 4, 5, 6, 7, 8, 9, 10, 11, 12, 13, 14, 15] [] Tt_ok mixed (by kernel_rfl) (by first | (intro h; cases h; done) | (intro _; rfl)) ?_; (conv => whnf)
    have hx5 : Ext w w4.drew := hn.ext.drew
    have hb5 : At w4.drew b 34 (evC e) := hb
    refine ⟨_, hb5.one rfl, ?_⟩; (conv => whnf)
    refine ⟨_, hb5.one rfl, ?_⟩; (conv => whnf)
    refine ⟨_, hb5.one rfl, ?_⟩; (conv => whnf)
    refine ⟨_, hb5.one rfl, ?_⟩; (conv => whnf)
    have hm : mayB e = kindB e := by
      unfold mayB
      revert h
      cases isName e.src <;> cases inB e.num 1 1099511627776 <;> cases inB e.at_ 0 1099511627776 <;> simp
    rw [hm]
    generalize w4.drew = w5 at hx5 hb5 ⊢
    refine seq_cut Tt_ok (ι := Bool × Bool × Bool × Bool) (fun i => [(3, .bool i.1), (4, .bool i.2.1), (5, .bool i.2.2.1), (6, .bool i.2.2.2)])
      (fun i w' => (i.1 && i.2.1 && i.2.2.1 && i.2.2.2) = kindB e ∧ Ext w w') ?_ ?_
    rotate_left
    · rintro ⟨p, q, t, v⟩ w6 ⟨hm2, hx6⟩
      (conv => whnf)
      exact ⟨by rw [← hm2], hx6⟩
    (conv => whnf)
    refine ⟨_, hb5.one rfl, ?_⟩; (conv => whnf)
    refine seq_cut Tt_ok (ι := Bool) (fun i => [(1, .pointer (some ⟨b, 0, none⟩)), (3, .bool (decide (e.person = ⟨#[]⟩))), (4, .bool (decide (e.item = ⟨#[]⟩))), (5, .bool (decide (e.text = ⟨#[]⟩))), (6, .bool (decide (e.val = 0))), (36, .int .i64 e.kind), (37, .bool i)])
      (fun i w' => i = k6 e ∧ w' = w5) ?_ ?_
    · (conv => whnf)
      refine ⟨fun h0' => ?_, fun h0' => ?_⟩
      · (conv => whnf)
        exact ⟨_, ⟨by unfold k6; simp at h0'; simp [h0'], rfl⟩, ⟨rfl, rfl, rfl, rfl, rfl, rfl, rfl, trivial⟩⟩
      (conv => whnf)
      refine ⟨fun h1' => ?_, fun h1' => ?_⟩
      · (conv => whnf)
        exact ⟨_, ⟨by unfold k6; simp at h1'; simp [h1'], rfl⟩, ⟨rfl, rfl, rfl, rfl, rfl, rfl, rfl, trivial⟩⟩
      (conv => whnf)
      refine ⟨fun h2' => ?_, fun h2' => ?_⟩
      · (conv => whnf)
        exact ⟨_, ⟨by unfold k6; simp at h2'; simp [h2'], rfl⟩, ⟨rfl, rfl, rfl, rfl, rfl, rfl, rfl, trivial⟩⟩
      (conv => whnf)
      refine ⟨fun h3' => ?_, fun h3' => ?_⟩
      · (conv => whnf)
        exact ⟨_, ⟨by unfold k6; simp at h3'; simp [h3'], rfl⟩, ⟨rfl, rfl, rfl, rfl, rfl, rfl, rfl, trivial⟩⟩
      (conv => whnf)
      refine ⟨fun h4' => ?_, fun h4' => ?_⟩
      · (conv => whnf)
        exact ⟨_, ⟨by unfold k6; simp at h4'; simp [h4'], rfl⟩, ⟨rfl, rfl, rfl, rfl, rfl, rfl, rfl, trivial⟩⟩
      (conv => whnf)
      exact ⟨_, ⟨by unfold k6; simp at h0' h1' h2' h3' h4'; simp [h0', h1', h2', h3', h4'], rfl⟩, ⟨rfl, rfl, rfl, rfl, rfl, rfl, rfl, trivial⟩⟩
    · rintro _ w6 ⟨rfl, rfl⟩
      (conv => whnf)
      refine ⟨fun hk1 => ?_, fun hk1 => ?_⟩
      · (conv => whnf)
        refine ⟨_, hb5.one rfl, ?_⟩; (conv => whnf)
        refine (rname_spec e.person w6).mono ?_
        rintro r w7 ⟨rfl, rfl⟩
        (conv => whnf)
        refine ⟨_, hb5.one rfl, ?_⟩; (conv => whnf)
        refine (rname_spec e.item w7).mono ?_
        rintro r w8 ⟨rfl, rfl⟩
        (conv => whnf)
        exact ⟨(isName e.person, isName e.item, decide (e.text = ⟨#[]⟩), decide (e.val = 0)), ⟨by unfold kindB; simp [hk1], hx5⟩, ⟨rfl, rfl, rfl, rfl, trivial⟩⟩
      (conv => whnf)
      refine ⟨fun hk2 => ?_, fun hk2 => ?_⟩
      · (conv => whnf)
        refine ⟨_, hb5.one rfl, ?_⟩; (conv => whnf)
        refine (rname_spec e.person w6).mono ?_
        rintro r w7 ⟨rfl, rfl⟩
        (conv => whnf)
        refine ⟨_, hb5.one rfl, ?_⟩; (conv => whnf)
        refine (rname_spec e.item w7).mono ?_
        rintro r w8 ⟨rfl, rfl⟩
        (conv => whnf)
        refine ⟨_, hb5.one rfl, ?_⟩; (conv => whnf)
        refine (in_spec e.val 1 5 w8).mono ?_
        rintro r w9 ⟨rfl, rfl⟩
        (conv => whnf)
        exact ⟨(isName e.person, isName e.item, decide (e.text = ⟨#[]⟩), inB e.val 1 5), ⟨by unfold kindB; simp [hk1, hk2], hx5⟩, ⟨rfl, rfl, rfl, rfl, trivial⟩⟩
      (conv => whnf)
      refine seq_cut Tt_ok (ι := Bool) (fun i => [(1, .pointer (some ⟨b, 0, none⟩)), (3, .bool (decide (e.person = ⟨#[]⟩))), (4, .bool (decide (e.item = ⟨#[]⟩))), (5, .bool (decide (e.text = ⟨#[]⟩))), (6, .bool (decide (e.val = 0))), (36, .int .i64 e.kind), (61, .bool i)])
        (fun i w' => i = k4 e ∧ w' = w6) ?_ ?_
      · (conv => whnf)
        refine ⟨fun h0' => ?_, fun h0' => ?_⟩
        · (conv => whnf)
          exact ⟨_, ⟨by unfold k4; simp at h0'; simp [h0'], rfl⟩, ⟨rfl, rfl, rfl, rfl, rfl, rfl, rfl, trivial⟩⟩
        (conv => whnf)
        refine ⟨fun h1' => ?_, fun h1' => ?_⟩
        · (conv => whnf)
          exact ⟨_, ⟨by unfold k4; simp at h1'; simp [h1'], rfl⟩, ⟨rfl, rfl, rfl, rfl, rfl, rfl, rfl, trivial⟩⟩
        (conv => whnf)
        refine ⟨fun h2' => ?_, fun h2' => ?_⟩
        · (conv => whnf)
          exact ⟨_, ⟨by unfold k4; simp at h2'; simp [h2'], rfl⟩, ⟨rfl, rfl, rfl, rfl, rfl, rfl, rfl, trivial⟩⟩
        (conv => whnf)
        exact ⟨_, ⟨by unfold k4; simp at h0' h1' h2'; simp [h0', h1', h2'], rfl⟩, ⟨rfl, rfl, rfl, rfl, rfl, rfl, rfl, trivial⟩⟩
      rintro _ w9 ⟨rfl, rfl⟩
      (conv => whnf)
      refine ⟨fun hk3 => ?_, fun hk3 => ?_⟩
      · (conv => whnf)
        refine ⟨_, hb5.one rfl, ?_⟩; (conv => whnf)
        refine (rname_spec e.person w9).mono ?_
        rintro r w7 ⟨rfl, rfl⟩
        (conv => whnf)
        refine ⟨_, hb5.one rfl, ?_⟩; (conv => whnf)
        refine (rname_spec e.text w7).mono ?_
        rintro r w8 ⟨rfl, rfl⟩
        (conv => whnf)
        exact ⟨(isName e.person, decide (e.item = ⟨#[]⟩), isName e.text, decide (e.val = 0)), ⟨by unfold kindB; simp [hk1, hk2, hk3], hx5⟩, ⟨rfl, rfl, rfl, rfl, trivial⟩⟩
      (conv => whnf)
      refine ⟨fun hk4 => ?_, fun hk4 => ?_⟩
      · (conv => whnf)
        refine ⟨_, hb5.one rfl, ?_⟩; (conv => whnf)
        refine (rname_spec e.item w9).mono ?_
        rintro r w7 ⟨rfl, rfl⟩
        (conv => whnf)
        refine ⟨_, hb5.one rfl, ?_⟩; (conv => whnf)
        refine (in_spec e.val 0 1048576 w7).mono ?_
        rintro r w8 ⟨rfl, rfl⟩
        (conv => whnf)
        refine ⟨_, hb5.one rfl, ?_⟩; (conv => whnf)
        refine (label_spec e.text w8 hs).mono ?_
        rintro r wL ⟨rfl, hxL⟩
        (conv => whnf)
        exact ⟨(decide (e.person = ⟨#[]⟩), isName e.item, labelB e.text, inB e.val 0 1048576), ⟨by unfold kindB; simp [hk1, hk2, hk3, hk4], hx5.trans hxL⟩, ⟨rfl, rfl, rfl, rfl, trivial⟩⟩
      (conv => whnf)
      refine ⟨fun hk5 => ?_, fun hk5 => ?_⟩
      · (conv => whnf)
        refine ⟨_, hb5.one rfl, ?_⟩; (conv => whnf)
        refine (rname_spec e.item w9).mono ?_
        rintro r w7 ⟨rfl, rfl⟩
        (conv => whnf)
        refine ⟨_, hb5.one rfl, ?_⟩; (conv => whnf)
        refine (in_spec e.val 0 1048576 w7).mono ?_
        rintro r w8 ⟨rfl, rfl⟩
        (conv => whnf)
        exact ⟨(decide (e.person = ⟨#[]⟩), isName e.item, decide (e.text = ⟨#[]⟩), inB e.val 0 1048576), ⟨by unfold kindB; simp [hk1, hk2, hk3, hk4, hk5], hx5⟩, ⟨rfl, rfl, rfl, rfl, trivial⟩⟩
      (conv => whnf)
      refine ⟨fun hk6 => ?_, fun hk6 => ?_⟩
      · (conv => whnf)
        refine ⟨_, hb5.one rfl, ?_⟩; (conv => whnf)
        refine (rname_spec e.item w9).mono ?_
        rintro r w7 ⟨rfl, rfl⟩
        (conv => whnf)
        exact ⟨(decide (e.person = ⟨#[]⟩), isName e.item, decide (e.text = ⟨#[]⟩), decide (e.val = 0)), ⟨by unfold kindB; simp [hk1, hk2, hk3, hk4, hk5, hk6], hx5⟩, ⟨rfl, rfl, rfl, rfl, trivial⟩⟩
      (conv => whnf)
      refine ⟨fun hk7 => ?_, fun hk7 => ?_⟩
      · (conv => whnf)
        refine ⟨_, hb5.one rfl, ?_⟩; (conv => whnf)
        refine (rname_spec e.person w9).mono ?_
        rintro r w7 ⟨rfl, rfl⟩
        (conv => whnf)
        exact ⟨(isName e.person, decide (e.item = ⟨#[]⟩), decide (e.text = ⟨#[]⟩), decide (e.val = 0)), ⟨by unfold kindB; simp [hk1, hk2, hk3, hk4, hk5, hk6, hk7], hx5⟩, ⟨rfl, rfl, rfl, rfl, trivial⟩⟩
      (conv => whnf)
      exact ⟨by unfold kindB; simp [hk1, hk2, hk3, hk4, hk5, hk6, hk7], hx5⟩
end Go.Proofs.YtbfjlpoeglcmfaaDoor
