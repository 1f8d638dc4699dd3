
/- The document's Sort: a sorted permutation. -/
import Derived.Test.YtbfjlpoeglcmfaaDoorWo1
set_option linter.unusedVariables false
set_option linter.unusedSimpArgs false
namespace Go.Proofs.YtbfjlpoeglcmfaaDoor
open Go.Se Go.RowKit

theorem srt_ins {e : Ev} {out : List Ev} {k : Nat} (hs : Srt lessB out) (hk : k ≤ out.length) (h1 : ∀ j (hj : j < out.length), k ≤ j → lessB e out[j] = true) (h2 : k = 0 ∨ ∃ h : k - 1 < out.length, lessB e out[k - 1] = false) :
    Srt lessB (out.take k ++ e :: out.drop k) := by
  have hs' : Srt lessB (out.take k ++ out.drop k) := by rw [List.take_append_drop]; exact hs
  have hd : ∀ v ∈ out.drop k, lessB e v = true := fun v hv => by
    obtain ⟨j, hj, rfl⟩ := List.getElem_of_mem hv
    rw [List.getElem_drop]
    exact h1 _ _ (by omega)
  have ht : ∀ u ∈ out.take k, lessB e u = false := fun u hu => by
    obtain ⟨j, hj, rfl⟩ := List.getElem_of_mem hu
    rw [List.length_take] at hj
    rw [List.getElem_take]
    rcases h2 with h2 | ⟨hl, h2⟩
    · omega
    · by_cases hjk : j = k - 1
      · subst hjk; exact h2
      · have := (List.pairwise_iff_getElem.1 hs) j (k - 1) (by omega) hl (by omega)
        exact less_swo.trans _ _ _ this h2
  refine Srt.append hs'.left (List.pairwise_cons.2 ⟨fun v hv => less_swo.asymm _ _ (hd v hv), hs'.right⟩) fun u hu v hv => ?_
  rcases List.mem_cons.1 hv with rfl | hv
  · exact ht u hu
  · exact hs'.across u hu v hv
theorem perm_ins {e : Ev} {out l : List Ev} (k : Nat) (h : out.Perm l) : (out.take k ++ e :: out.drop k).Perm (l ++ [e]) := by
  have h1 : (out.take k ++ e :: out.drop k).Perm (e :: (out.take k ++ out.drop k)) := List.perm_middle
  rw [List.take_append_drop] at h1
  exact h1.trans ((h.cons e).trans (List.perm_append_comm (l₁ := [e]) (l₂ := l)))
theorem sl_take {α : Type} {enc : α → List Value} {sz : Nat} {w : World} {A : Option Addr} {l : List α} (h : Sl enc sz w A l) (k : Nat) : Sl enc sz w A (l.take k) := fun i x hi => by
  have hlt : i < (l.take k).length := (List.getElem?_eq_some_iff.1 hi).1
  rw [List.length_take] at hlt
  rw [List.getElem?_take] at hi
  rw [if_pos (by omega)] at hi
  exact h i x hi
theorem sl_drop {α : Type} {enc : α → List Value} {sz : Nat} {w : World} {A : Option Addr} {l : List α} (h : Sl enc sz w A l) (k : Nat) : Sl enc sz w (A.map (·.add (k * sz))) (l.drop k) := fun i x hi => by
  rw [List.getElem?_drop] at hi
  obtain ⟨a, rfl, hc⟩ := h (k + i) x hi
  refine ⟨a.add (k * sz), rfl, ?_⟩
  rw [add_add_addr, ← Nat.add_mul]
  exact hc
theorem sl_drop_if {α : Type} {enc : α → List Value} {sz : Nat} {w : World} {A : Option Addr} {l : List α} (h : Sl enc sz w A l) (k c : Nat) (hc : l.length ≤ c) : Sl enc sz w (if c = k then A else A.map (·.add (k * sz))) (l.drop k) := by
  split
  · rw [List.drop_eq_nil_of_le (by omega)]; exact Sl.nil
  · exact sl_drop h k
theorem sl_stay {α : Type} {enc : α → List Value} {sz : Nat} {w w1 : World} {A : Option Addr} {l : List α} (h : Sl enc sz w A l) (hk : ∀ a, A = some a → w1.heap[a.block]? = w.heap[a.block]?) : Sl enc sz w1 A l := fun i x hi => by
  obtain ⟨a, ha, hc⟩ := h i x hi
  refine ⟨a, ha, fun j v hj => ?_⟩
  have := hc j v hj
  rw [World.cell?_of_block (w := w) (by rw [add_block, add_block]; exact hk a ha)]
  exact this
theorem Own.base {α : Type} {enc : α → List Value} {sz te : Nat} {base base' : Nat} {w : World} {A : Option Addr} {c : Nat} {l : List α} (h : Own enc sz te base w A c l) (hb : base' ≤ base) : Own enc sz te base' w A c l := by
  refine ⟨h.1, ?_⟩
  rcases h.2 with h0 | ⟨g, cap, cur, hv, hg, h1⟩
  · exact .inl h0
  · exact .inr ⟨g, cap, cur, hv, by omega, h1⟩
theorem append_evs_n {w : World} {A : Option Addr} {c base : Nat} {l : List Ev} {R : Value → World → Prop} {ty : TypeId} {n m : Nat} (hn : n = l.length) (hown : Own evC 8 34 base w A c l) {B : Option Addr} {cB : Nat} {news : List Ev} (hm : m = news.length) (hs : SlE w B news) (hl : l.length + news.length < 1000000000000) (hbase : base ≤ w.heap.size)
    (h : ∀ A' c' w', Own evC 8 34 base w' A' c' (l ++ news) → w.grownBy w' (A.map (·.block)) → (A' = A ∨ A'.map (·.block) = A.map (·.block) ∨ A'.map (·.block) = some w.heap.size) → R (.slice A' (l ++ news).length c') w') :
    RunE Tryd.prog (Builtin.append_ #[22, 22] ty [.slice A n c, .slice B m cB].toArray) w R := by
  subst hn hm
  exact append_evs hown hs hl hbase h
theorem rsort_spec (l : List Ev) (A : Option Addr) (c : Nat) (w : World) (hs : SlE w A l) (hl : l.length < 1000000) :
    Cal Tryd.prog 14 [.slice A l.length c] w fun r w' => ∃ A' c' z, r = .slice A' z.length c' ∧ z.Perm l ∧ Srt lessB z ∧ SlE w' A' z ∧ Ext w w' := by
  refine fn_intro Tt_ok Tryd.func14 (by rfl) rfl _ rfl rfl (by rfl) ?_; (conv => whnf)
  intro b w0 hnew
  (conv => whnf)
  refine loop_rule Tt_ok (fun (i : Nat × List Ev × Option Addr × Nat) w' => i.1 ≤ l.length ∧ Ext w w' ∧ i.2.1.Perm (l.take i.1) ∧ Srt lessB i.2.1 ∧ Own evC 8 34 w.heap.size w' i.2.2.1 i.2.2.2 i.2.1)
    (fun i => [(0, .slice A l.length c), (4, .int .i64 i.1), (3, .slice i.2.2.1 i.2.1.length i.2.2.2)]) (fun i => l.length - i.1) (0, [], some ⟨b, 0, none⟩, 0) ⟨by simp, hnew.ext, by simp, Srt.nil, Own.made hnew (Nat.le_refl _)⟩ ⟨rfl, rfl, rfl, trivial⟩ ?_
  rintro ⟨i, out, A', c'⟩ w1 ⟨hi, hx, hp, hsr, hown⟩
  simp only at hi hp hsr hown
  have hpl := hp.length_eq
  rw [List.length_take] at hpl
  (conv => whnf)
  constructor
  · intro hlt
    have hlt : i < l.length := by simpa using hlt
    obtain ⟨a, rfl, hc⟩ := hs.get hlt
    have htk : l.take (i + 1) = l.take i ++ [l[i]] := by rw [List.take_succ_eq_append_getElem hlt]
    generalize hel : l[i] = e at hc htk
    (conv => whnf)
    refine loop_rule Tt_ok (fun (k : Nat) w' => k ≤ out.length ∧ Ext w1 w' ∧ ∀ j (hj : j < out.length), k ≤ j → lessB e out[j] = true)
      (fun k => [(0, .slice (some a) l.length c), (4, .int .i64 i), (3, .slice A' out.length c'), (5, .int .i64 k)]) (fun k => k) out.length ⟨by omega, Ext.refl _, fun j hj h => by omega⟩ ⟨rfl, rfl, rfl, rfl, trivial⟩ ?_
    rintro k w2 ⟨hk, hx2, hall⟩
    (conv => whnf)
    refine draw_rule .same [0, 1, 2, 3, 4, 5, 6, 7, 8, 9, 10, 11] [12, 13] Tt_ok mixed (by kernel_rfl) (by first | (intro h; cases h; done) | (intro _; rfl)) ?_; (conv => whnf)
    replace hx2 : Ext w1 w2.drew := hx2.drew
    generalize w2.drew = w3 at hx2 ⊢
    have hown3 := hown.ext hx2
    have hle3 := hown3.le
    have hce : CellsAt w3 (a.add (i * 8)) (evC e) := (hx.trans hx2).cells hc
    obtain ⟨a1, hk1⟩ : ∃ a1, 0 < k → A' = some a1 ∧ CellsAt w3 (a1.add ((k - 1) * 8)) (evC (out.getD (k - 1) e)) := by
      by_cases hh : 0 < k
      · obtain ⟨a1, h1, h2⟩ := (hown3.sl evC_len).get (show k - 1 < out.length by omega)
        exact ⟨a1, fun _ => ⟨h1, by rw [getD_lt (show k - 1 < out.length by omega)]; exact h2⟩⟩
      · exact ⟨a, fun h => absurd h hh⟩
    generalize hxe : out.getD (k - 1) e = x at hk1
    have hd : ∀ {p : Nat}, decide ((0 : Int) < (p : Int)) = true → 0 < p := fun h => by simpa using h
    refine ⟨a, fun hg => ⟨rfl, by omega, by omega⟩, ?_⟩; (conv => whnf)
    refine ⟨evC e, fun _ => ⟨rfl, hce⟩, ?_⟩; (conv => whnf)
    refine ⟨((k - 1 : Nat) : Int), fun hg => wrap_eq (by have := hd hg; omega) ⟨by omega, by omega⟩, ?_⟩; (conv => whnf)
    refine ⟨a1, fun hg => ⟨(hk1 (hd hg)).1, by omega, by have := hd hg; omega⟩, ?_⟩; (conv => whnf)
    refine ⟨evC x, fun hg => ⟨rfl, (hk1 (hd hg)).2⟩, ?_⟩; (conv => whnf)
    refine ⟨Unit, fun _ => (.bool (lessB e x)), fun _ w' => Ext w3 w', (), fun hg => ((less_spec e x w3)).mono fun r w' h => ⟨(), h.1, h.2⟩, ?_⟩
    intro _ w4 h2
    have hx4 : Ext w3 w4 := by
      rcases h2 with ⟨_, h⟩ | ⟨_, h⟩
      · exact h
      · rw [h]; exact Ext.refl _
    clear h2
    (conv => whnf)
    constructor
    · intro hcd
      have hcd : (decide ((0 : Int) < (k : Int)) && lessB e x) = true := hcd
      rw [Bool.and_eq_true] at hcd
      have hkl := hd hcd.1
      (conv => whnf)
      refine ⟨((k - 1 : Nat) : Int), wrap_eq (by omega) ⟨by omega, by omega⟩, ?_⟩; (conv => whnf)
      refine ⟨k - 1, by omega, ⟨by omega, hx2.trans hx4, fun j hj hjk => ?_⟩, ⟨rfl, rfl, rfl, rfl, trivial⟩⟩
      by_cases ejk : j = k - 1
      · subst ejk; rw [← getD_lt hj (d := e), hxe]; exact hcd.2
      · exact hall j hj (by omega)
    · intro hcd
      have hcd : (decide ((0 : Int) < (k : Int)) && lessB e x) = false := hcd
      have hle : k = 0 ∨ ∃ h : k - 1 < out.length, lessB e out[k - 1] = false := by
        by_cases h0 : k = 0
        · exact .inl h0
        · refine .inr ⟨by omega, ?_⟩
          rw [← getD_lt (show k - 1 < out.length by omega) (d := e), hxe]
          have : decide ((0 : Int) < (k : Int)) = true := by simp; omega
          rw [this] at hcd
          simpa using hcd
      have hnS := srt_ins hsr hk hall hle
      have hnP := perm_ins (e := e) k hp
      rw [← htk] at hnP
      replace hce := hx4.cells hce
      replace hown3 := hown3.ext hx4
      replace hx2 := hx2.trans hx4
      clear hcd hk1 hx4 hxe hle hall
      (conv => whnf)
      refine sem_cut (ι := Option Addr × Nat) (fun j => [(0, .slice (some a) l.length c), (4, .int .i64 i), (3, .slice A' out.length c'), (5, .int .i64 k), (6, .slice j.1 (out.take k ++ [e]).length j.2)])
        (fun j w' => Ext w4 w' ∧ Own evC 8 34 w4.heap.size w' j.1 j.2 (out.take k ++ [e])) ?_ ?_
      · refine draw_plan (.mods (fun k => w4.heap.size ≤ k)) (Pl.seq [1, 2, 3, 5, 6, 7, 8] (Pl.two 0 (Pl.seq [] (Pl.two 4 (Pl.seq [9, 10, 11] Pl.done) 9 (Pl.seq [4, 10, 11] Pl.done))) 9 (Pl.seq [0, 4, 10, 11] Pl.done))) (by intro h; cases h) Tt_ok mixed (by kernel_rfl) ?_; (conv => whnf)
        replace hce : CellsAt w4.drew (a.add (i * 8)) (evC e) := hce
        replace hown3 := hown3.ext (Ext.refl w4).drew
        have hx4 := (Ext.refl w4).drew
        have ha4 : ¬ (w4.heap.size ≤ (a.add (i * 8)).block) := by have := cell_lt (cells_head hce); exact Nat.not_le.2 this
        have hb4 : w4.drew.heap.size = w4.heap.size := rfl
        generalize hN : w4.heap.size = N4 at *
        generalize w4.drew = w5 at hce hown3 hx4 hb4 ⊢
        have hsk : SlE w5 (if c' = 0 then A' else A'.map (·.add (0 * 8))) (out.take k) := sl_drop_if (sl_take (hown3.sl evC_len) k) 0 c' (by rw [List.length_take]; omega)
        have hkm : k = (out.take k).length := by rw [List.length_take]; omega
        have hge : ∀ {w' : World} {A6 : Option Addr} {c6 : Nat} {z : List Ev}, Own evC 8 34 N4 w' A6 c6 z → ∀ j, A6.map (·.block) = some j → N4 ≤ j := fun h => row_ge h
        refine ⟨⟨by omega, by omega, by omega, by omega⟩, ?_⟩; (conv => whnf)
        refine ⟨a, ⟨rfl, by omega, by omega⟩, ?_⟩; (conv => whnf)
        refine ⟨evC e, ⟨rfl, hce, ha4⟩, ?_⟩; (conv => whnf)
        refine ⟨?_, ?_⟩
        · intro b6 w6 hn6
          have o6 : Own evC 8 34 N4 w6 (some ⟨b6, 0, none⟩) 0 [] := Own.made hn6 (by omega)
          refine ⟨Mod.of_ext hn6.ext, ?_⟩; (conv => whnf)
          have s6 := hn6.size
          refine ⟨?_, ?_⟩
          · refine append_evs_n (l := []) (news := out.take k) rfl o6 hkm (hsk.ext hn6.ext) (by simp; omega) (by omega) fun A7 c7 w7 hown7 hg7 hA7 => ?_
            refine ⟨mod_grown hg7 (hge o6), ?_⟩; (conv => whnf)
            have s7 := hg7.size
            intro b8 w8 hn8
            refine ⟨Mod.of_ext hn8.ext, ?_⟩; (conv => whnf)
            have s8 := hn8.size
            refine append_evs_n (l := out.take k) (news := [e]) rfl (hown7.ext hn8.ext) rfl (sl_new evC_len hn8) (by simp; omega) (by omega) fun A9 c9 w9 hown9 hg9 hA9 => ?_
            refine ⟨mod_grown hg9 (hge hown7), ?_⟩; (conv => whnf)
            exact ⟨(A9, c9), ⟨ext_grown ((ext_grown (hx4.trans hn6.ext) hg7 fun j hj => by rw [hN]; exact hge o6 j hj).trans hn8.ext) hg9 fun j hj => by rw [hN]; exact hge hown7 j hj, hown9⟩, ⟨rfl, rfl, rfl, rfl, rfl, trivial⟩⟩
          · intro b8 w8 hn8
            refine ⟨Mod.of_ext hn8.ext, ?_⟩; (conv => whnf)
            have s8 := hn8.size
            refine append_evs_n (l := []) (news := out.take k) rfl (o6.ext hn8.ext) hkm ((hsk.ext hn6.ext).ext hn8.ext) (by simp; omega) (by omega) fun A7 c7 w7 hown7 hg7 hA7 => ?_
            refine ⟨mod_grown hg7 (hge o6), ?_⟩; (conv => whnf)
            have s7 := hg7.size
            have h8 : SlE w7 (some ⟨b8, 0, none⟩) [e] := sl_stay (sl_new evC_len hn8) fun a' ha' => by
              obtain rfl : (⟨b8, 0, none⟩ : Addr) = a' := by simpa using ha'
              exact hg7.block b8 (by rw [hn8.block]; omega) (fun e' => by
                have h68 : b8 = b6 := by simpa using e'
                rw [hn6.block, hn8.block] at h68
                omega)
            refine append_evs_n (l := out.take k) (news := [e]) rfl hown7 rfl h8 (by simp; omega) (by omega) fun A9 c9 w9 hown9 hg9 hA9 => ?_
            refine ⟨mod_grown hg9 (hge hown7), ?_⟩; (conv => whnf)
            exact ⟨(A9, c9), ⟨ext_grown (ext_grown ((hx4.trans hn6.ext).trans hn8.ext) hg7 fun j hj => by rw [hN]; exact hge o6 j hj) hg9 fun j hj => by rw [hN]; exact hge hown7 j hj, hown9⟩, ⟨rfl, rfl, rfl, rfl, rfl, trivial⟩⟩
        · intro b8 w8 hn8
          refine ⟨Mod.of_ext hn8.ext, ?_⟩; (conv => whnf)
          have s8 := hn8.size
          intro b6 w6 hn6
          have o6 : Own evC 8 34 N4 w6 (some ⟨b6, 0, none⟩) 0 [] := Own.made hn6 (by omega)
          refine ⟨Mod.of_ext hn6.ext, ?_⟩; (conv => whnf)
          have s6 := hn6.size
          refine append_evs_n (l := []) (news := out.take k) rfl o6 hkm ((hsk.ext hn8.ext).ext hn6.ext) (by simp; omega) (by omega) fun A7 c7 w7 hown7 hg7 hA7 => ?_
          refine ⟨mod_grown hg7 (hge o6), ?_⟩; (conv => whnf)
          have s7 := hg7.size
          have h8 : SlE w7 (some ⟨b8, 0, none⟩) [e] := sl_stay ((sl_new evC_len hn8 : SlE w8 (some ⟨b8, 0, none⟩) [e]).ext hn6.ext) fun a' ha' => by
              obtain rfl : (⟨b8, 0, none⟩ : Addr) = a' := by simpa using ha'
              exact hg7.block b8 (by rw [hn8.block]; omega) (fun e' => by
                have h68 : b8 = b6 := by simpa using e'
                rw [hn6.block, hn8.block] at h68
                omega)
          refine append_evs_n (l := out.take k) (news := [e]) rfl hown7 rfl h8 (by simp; omega) (by omega) fun A9 c9 w9 hown9 hg9 hA9 => ?_
          refine ⟨mod_grown hg9 (hge hown7), ?_⟩; (conv => whnf)
          exact ⟨(A9, c9), ⟨ext_grown (ext_grown ((hx4.trans hn8.ext).trans hn6.ext) hg7 fun j hj => by rw [hN]; exact hge o6 j hj) hg9 fun j hj => by rw [hN]; exact hge hown7 j hj, hown9⟩, ⟨rfl, rfl, rfl, rfl, rfl, trivial⟩⟩
      · rintro ⟨A9, c9⟩ w9 ⟨hx9, hown9⟩
        have hown10 := hown3.ext hx9
        have z9 := hx9.size
        (conv => whnf)
        refine ⟨⟨by omega, by omega, by omega, by omega⟩, ?_⟩; (conv => whnf)
        have hsd : SlE w9 (if c' = k then A' else A'.map (·.add (k * 8))) (out.drop k) := sl_drop_if (hown10.sl evC_len) k c' (by omega)
        refine append_evs_n (l := out.take k ++ [e]) (news := out.drop k) rfl hown9 (by simp) hsd (by simp; omega) z9 fun A11 c11 w11 hown11 hg11 hA11 => ?_
        (conv => whnf)
        have he : (out.take k ++ [e]) ++ out.drop k = out.take k ++ e :: out.drop k := by simp
        rw [he] at hown11 ⊢
        refine ⟨((i + 1 : Nat) : Int), wrap_succ (by omega), ?_⟩; (conv => whnf)
        exact ⟨(i + 1, _, A11, c11), by simp; omega, ⟨by simp; omega, (hx.trans hx2).trans (ext_grown hx9 hg11 fun j hj => row_ge hown9 j hj), hnP, hnS, hown11.base (by have := (hx.trans hx2).size; omega)⟩, ⟨rfl, rfl, rfl, trivial⟩⟩
  · intro hge
    have hge : l.length ≤ i := by simpa using hge
    (conv => whnf)
    rw [List.take_of_length_le hge] at hp
    exact ⟨A', c', out, rfl, hp, hsr, hown.sl evC_len, hx⟩
end Go.Proofs.YtbfjlpoeglcmfaaDoor
