import Derived.Test.YtbfjlpoeglcmfaaGreatDoorHSf1
import Derived.Test.YtbfjlpoeglcmfaaGreatDoorHPr6

/- slices.SortFunc at api.Fall: a sorted permutation. -/
set_option linter.unusedVariables false
set_option linter.unusedSimpArgs false
namespace Go.Proofs.YtbfjlpoeglcmfaaGreatDoor
open Go.Se Go.RowKit Go.Sort

structure Fa where
  item : ByteArray
  was : Int
  is_ : Int
  looked : Int
deriving DecidableEq, Inhabited
def faC (f : Fa) : List Value := [.string f.item, vi f.was, vi f.is_, vi f.looked]
theorem faC_len (f : Fa) : (faC f).length = 4 := rfl
theorem faC_one (f : Fa) : ∀ u ∈ faC f, u.oneCell' = true := by simp [faC, vi, Value.oneCell']
def drop64 (f : Fa) : Int := IntKind.i64.wrap (f.was - f.is_)
def cmpFa (a b : Fa) : Int := orL [cmpI (drop64 b) (drop64 a), cmpT a.item b.item]
/-- A world that a call makes by draws and new blocks alone. -/
def Gr (w w' : World) : Prop := ∃ q os, w' = grow (w.drewN q) os
theorem Gr.refl (w : World) : Gr w w := ⟨0, #[], by simp [grow, World.drewN]⟩
theorem Gr.trans {a b c : World} (h : Gr a b) (k : Gr b c) : Gr a c := by
  obtain ⟨q, os, rfl⟩ := h
  obtain ⟨q', os', rfl⟩ := k
  exact ⟨q + q', os ++ os', by simp [grow, World.drewN, Nat.add_assoc, Array.append_assoc]⟩
theorem Gr.drew (w : World) : Gr w w.drew := ⟨1, #[], by rw [grow_empty]; rfl⟩
theorem new_gr {w w1 : World} {b : Nat} {o : Obj} (h : New w w1 b o) : Gr w w1 := ⟨0, #[o], by rw [h.world]; unfold grow; rw [← Array.push_eq_append]; rfl⟩
theorem isNaNS_spec (a : ByteArray) (w : World) : Cal Tryz.prog 91 [.string a] w fun r w' => r = .bool false ∧ w' = w := by
  refine fn_intro Tt_ok Tryz.func91 (by rfl) rfl _ rfl rfl (by rfl) ?_; (conv => whnf)
  exact ⟨by simp, rfl⟩
theorem cmpStr_spec (a b : ByteArray) (w : World) : Cal Tryz.prog 65 [.string a, .string b] w fun r w' => r = .int .i64 (cmpT a b) ∧ w' = w := by
  refine fn_intro Tt_ok Tryz.func65 (by rfl) rfl _ rfl rfl (by rfl) ?_; (conv => whnf)
  refine (isNaNS_spec a w).mono ?_
  rintro _ _ ⟨rfl, rfl⟩
  (conv => whnf)
  refine (isNaNS_spec b _).mono ?_
  rintro _ _ ⟨rfl, rfl⟩
  (conv => whnf)
  constructor
  · intro h; cases h
  intro _
  (conv => whnf)
  constructor
  · intro h; cases h
  intro _
  (conv => whnf)
  constructor
  · intro h
    have h : bLt a b = true := h
    (conv => whnf)
    exact ⟨by unfold cmpT; rw [if_pos h], rfl⟩
  intro h
  have h : bLt a b = false := h
  (conv => whnf)
  constructor
  · intro k
    have k : bLt b a = true := by
      have k : (!(bLt a b || decide (a = b))) = true := k
      cases hh : bLt b a with
      | true => rfl
      | false =>
        have := bLt_tri h hh
        subst this
        simp at k
    (conv => whnf)
    exact ⟨by unfold cmpT; rw [h, if_neg (by simp), if_pos k], rfl⟩
  intro k
  have k : bLt b a = false := by
    have k : (!(bLt a b || decide (a = b))) = false := k
    rw [h] at k
    have : a = b := by simpa using k
    subst this
    exact h
  (conv => whnf)
  exact ⟨by unfold cmpT; rw [h, k, if_neg (by simp), if_neg (by simp)], rfl⟩
theorem fallsCmp_spec (a b : Fa) (w : World) : Cal Tryz.prog 62 [.agg (faC a).toArray, .agg (faC b).toArray] w fun r w' => r = .int .i64 (cmpFa a b) ∧ Gr w w' := by
  refine fn_intro Tt_ok Tryz.func62 (by rfl) rfl _ rfl rfl (by rfl) ?_; (conv => whnf)
  intro b1 w1 hn1; (conv => whnf)
  intro b2 w2 hn2
  have h1 := hn1.At.ext hn2.ext
  have h2 := hn2.At
  have hx := (new_gr hn1).trans ((new_gr hn2).trans (Gr.drew w2))
  (conv => whnf)
  refine draw_rule .ext [0, 1, 2, 3, 4, 5, 6, 7, 8, 9, 11, 12, 13, 14, 10] [15, 16, 17, 18] Tt_ok mixed (by kernel_rfl) (by first | (intro h; cases h; done) | (intro _; rfl)) ?_; (conv => whnf)
  replace h1 : At w2.drew b1 _ _ := h1
  replace h2 : At w2.drew b2 _ _ := h2
  generalize w2.drew = w3 at h1 h2 hx ⊢
  refine ⟨_, h2.one rfl, ?_⟩; (conv => whnf)
  refine ⟨_, h2.one rfl, ?_⟩; (conv => whnf)
  refine ⟨drop64 b, rfl, ?_⟩; (conv => whnf)
  refine ⟨_, h1.one rfl, ?_⟩; (conv => whnf)
  refine ⟨_, h1.one rfl, ?_⟩; (conv => whnf)
  refine ⟨drop64 a, rfl, ?_⟩; (conv => whnf)
  refine ⟨_, h1.one rfl, ?_⟩; (conv => whnf)
  refine ⟨_, h2.one rfl, ?_⟩; (conv => whnf)
  refine (cmpInt_spec _ _ _).mono ?_; rintro _ _ ⟨rfl, rfl⟩
  refine ⟨Ext.refl _, ?_⟩; (conv => whnf)
  refine (cmpStr_spec _ _ _).mono ?_; rintro _ _ ⟨rfl, rfl⟩; (conv => whnf)
  intro b6 w6 hn6; (conv => whnf)
  refine (or_spec [cmpI (drop64 b) (drop64 a), cmpT a.item b.item] _ _ _ (sl_new (enc := intC) intC_len hn6) (by simp)).mono ?_
  rintro _ _ ⟨rfl, rfl⟩; (conv => whnf)
  exact ⟨rfl, hx.trans (new_gr hn6)⟩

/-- Greater falls first, then by their things. -/
def ltFa (a b : Fa) : Bool := decide (drop64 b < drop64 a) || (decide (drop64 a = drop64 b) && bLt a.item b.item)
theorem ltFa_eq : ltOf cmpFa = ltFa := by
  funext a b
  unfold ltOf cmpFa ltFa orL cmpI cmpT
  rcases Int.lt_trichotomy (drop64 b) (drop64 a) with h | h | h
  · simp [h]
  · rw [h]
    cases h1 : bLt a.item b.item <;> cases h2 : bLt b.item a.item <;> simp
  · have h1 : ¬ drop64 b < drop64 a := by omega
    have h2 : ¬ drop64 a = drop64 b := by omega
    simp [h, h1, h2]
theorem bLt_ntrans {a b c : ByteArray} (h : bLt a b = false) (k : bLt b c = false) : bLt a c = false := by
  cases hc : bLt a c with
  | false => rfl
  | true =>
    cases hcb : bLt c b with
    | true => rw [bLt_trans hc hcb] at h; cases h
    | false =>
      have := bLt_tri k hcb
      subst this
      rw [hc] at h; cases h
theorem ltFa_iff {a b : Fa} : ltFa a b = true ↔ drop64 b < drop64 a ∨ (drop64 a = drop64 b ∧ bLt a.item b.item = true) := by simp [ltFa]
theorem ltFa_not {a b : Fa} : ltFa a b = false ↔ ¬ drop64 b < drop64 a ∧ (drop64 a = drop64 b → bLt a.item b.item = false) := by
  rw [← Bool.not_eq_true, ltFa_iff]
  constructor
  · intro h
    refine ⟨fun h1 => h (.inl h1), fun h1 => ?_⟩
    cases hb : bLt a.item b.item with
    | false => rfl
    | true => exact absurd (.inr ⟨h1, hb⟩) h
  · rintro ⟨h1, h2⟩ (h3 | ⟨h3, h4⟩)
    · exact h1 h3
    · rw [h2 h3] at h4; cases h4
theorem ltFa_SWO : Go.Sort.SWO ltFa where
  irrefl x := by rw [ltFa_not]; exact ⟨by omega, fun _ => bLt_irrefl _⟩
  trans x y z h k := by
    rw [ltFa_iff] at *
    rcases h with h | ⟨h, h'⟩ <;> rcases k with k | ⟨k, k'⟩
    · exact .inl (by omega)
    · exact .inl (by omega)
    · exact .inl (by omega)
    · exact .inr ⟨by omega, bLt_trans h' k'⟩
  ntrans x y z h k := by
    rw [ltFa_not] at *
    refine ⟨by omega, fun he => ?_⟩
    have h1 := h.1
    have k1 := k.1
    exact bLt_ntrans (h.2 (by omega)) (k.2 (by omega))
theorem rowFa : RowT Tryz.prog 59 64 faC 4 40 := ⟨by kernel_rfl, ⟨_, ty64_ok, rfl, rfl⟩, by64, by decide, by decide, faC_len, faC_one⟩
theorem ok_sortFa : FnOk Tryz.prog 61 := ⟨_, Tryz.func61, rfl, rfl⟩
theorem mapBlock_other (w : World) (blk k : Nat) (f : Array Value → Array Value) (h : k ≠ blk) : (mapBlock w blk f).heap[k]? = w.heap[k]? := by
  unfold mapBlock
  simp [Array.getElem?_modify, Ne.symm h]
theorem sortFa_spec (l : List Fa) (A : Option Addr) (c base : Nat) (w : World) (hown : Own faC 4 64 base w A c l) (hl : l.length < 1000000) :
    Cal Tryz.prog 61 [.slice A l.length c, .func (.func 62) #[] #[]] w fun r w' => r = .tuple #[] ∧ ∃ F, F.Perm l ∧ Srt ltFa F ∧ Sl faC 4 w' A F ∧ ∀ w0, Ext w0 w → w0.heap.size ≤ base → Ext w0 w' := by
  by_cases h0 : l = []
  · subst h0
    refine cal_of ok_sortFa (AnyF.slices_SortFunc_none Tryz.sortFall A c _ w) ?_
    rintro w' rfl
    exact ⟨rfl, [], List.Perm.refl _, Srt.nil, Sl.nil, fun w0 h _ => h⟩
  · have hsl := hown.sl faC_len
    have hpos : 0 < l.length := List.length_pos_iff.2 h0
    rcases hown.2 with ⟨_, h1⟩ | ⟨g, cap, cur, hv, hb, hg, hc1, hc2, hc3, hc4⟩
    · omega
    injection hv with hA _ hcc
    subst hA
    subst hcc
    have hH : HoldsK faC 4 w g 0 l.toArray := by
      intro t ht
      have ht' : t < l.length * 4 := by simpa using ht
      have hi : t / 4 < l.length := by omega
      obtain ⟨a, ha, hca⟩ := hsl.get hi
      have ha' : a = ⟨g, 0, none⟩ := by simpa using ha.symm
      have hm : t % 4 < 4 := Nat.mod_lt _ (by decide)
      have hcell := hca (t % 4) ((faC l[t / 4])[t % 4]'(by rw [faC_len]; exact hm)) (List.getElem?_eq_getElem _)
      rw [ha', add_add_addr, add_none, show t / 4 * 4 + t % 4 = t by omega] at hcell
      refine ⟨?_, by unfold World.frozen?; rw [hg]; simp⟩
      rw [Nat.zero_add, get_flatK _ _ _ _ (by simpa using ht')]
      rw [hcell]
      simp [hi]
      rw [List.getElem?_eq_getElem (by rw [faC_len]; exact hm)]
      rfl
    have hbl : g < w.heap.size := lt_of_block hg
    have hcmp : CmpLays Tryz.prog 62 #[] faC 4 cmpFa g 0 l.toArray.size w := by
      intro m os dk _ x y
      have := (fallsCmp_spec x y (sortWorldK faC 4 w g 0 m dk os)).2
      refine this.mono ?_
      rintro e w' ⟨v, he, hv, q, os', hw⟩
      exact ⟨by rw [he, hv], q, os', hw⟩
    have hcall := AnyQ.slices_SortFunc Tryz.sortFall 4 Tryz.isAgg64 Tryz.sizeOf64 faC faC_len faC_one cmpFa (by rw [ltFa_eq]; exact ltFa_SWO) 62 #[] g 0 c l.toArray w (enters_of Tryz.func62 (by kernel_rfl) rfl) hcmp hH hbl (by simp; omega)
    rw [List.size_toArray] at hcall
    refine cal_of ok_sortFa hcall ?_
    rintro w' ⟨d', n, os, hp, hs, rfl⟩
    rw [ltFa_eq] at hs
    have hsz : d'.size = l.length := by simpa using hp.1
    have hperm : d'.toList.Perm l := by
      have := hp.2.2
      have e1 : d'.extract 0 l.length = d' := by rw [← hsz]; exact Array.extract_size
      have e2 : l.toArray.extract 0 l.length = l.toArray := by simp
      rw [e1, e2] at this
      simpa using this
    have hH2 : HoldsK faC 4 (sortWorldK faC 4 w g 0 n d' os) g 0 d' := by
      unfold sortWorldK
      refine holdsK_grow _ _ _ _ _ _ _ ?_ (holdsK_putRowK _ _ _ _ _ l.toArray d' (holdsK_ahead _ _ _ _ _ _ _ hH) (by simpa using hsz))
      show g < ((Go.Sort.ahead w n).heap.modify g _).size
      rw [Array.size_modify]; exact hbl
    refine ⟨rfl, d'.toList, hperm, ?_, ?_, ?_⟩
    · unfold Srt
      rw [List.pairwise_iff_getElem]
      intro i j hi hj hij
      have hi' : i < d'.size := by simpa using hi
      have hj' : j < d'.size := by simpa using hj
      have := hs i j (Nat.zero_le _) hij (by omega)
      rw [getElem!_pos d' i hi', getElem!_pos d' j hj'] at this
      simpa using this
    · intro i x hi
      have hlt : i < d'.size := by have := (List.getElem?_eq_some_iff.1 hi).1; simpa using this
      refine ⟨_, rfl, fun j v hj => ?_⟩
      have hjl : j < 4 := by rw [← faC_len x]; exact (List.getElem?_eq_some_iff.1 hj).1
      have := (hH2.cell hlt hjl).1
      rw [add_add_addr, add_none]
      rw [Nat.zero_add] at this
      rw [this]
      have hx : d'[i]! = x := by rw [getElem!_pos d' i hlt]; have := List.getElem?_eq_some_iff.1 hi; simpa using this.2
      rw [hx, getElem!_pos _ _ (by rw [faC_len]; exact hjl)]
      rw [List.getElem?_eq_getElem (by rw [faC_len]; exact hjl)] at hj
      exact hj
    · intro w0 h0 hb0
      have hx1 : Ext w0 (putRowK faC 4 (Go.Sort.ahead w n) g 0 d') := by
        refine ⟨h0.os, h0.tape, h0.output, ?_, fun k hk => ?_⟩
        · show w0.heap.size ≤ ((Go.Sort.ahead w n).heap.modify g _).size
          rw [Array.size_modify]; exact h0.size
        · have : (putRowK faC 4 (Go.Sort.ahead w n) g 0 d').heap[k]? = (Go.Sort.ahead w n).heap[k]? := mapBlock_other _ _ _ _ (by omega)
          rw [this]; exact h0.block k hk
      exact hx1.trans (ext_grow _ os)
end Go.Proofs.YtbfjlpoeglcmfaaGreatDoor
