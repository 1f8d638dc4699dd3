import Derived.Test.YtbfjlpoeglcmfaaGreatDoorHPr1
import Derived.Shelf.Slices.Cells

/- slices.Compact at []int; catalog.Changes; the least price. -/
set_option linter.unusedVariables false
set_option linter.unusedSimpArgs false
namespace Go.Proofs
open Go.Shelf
def Tryz.compI_ren : Go.Shelf.Ren := ⟨fun | 20 => 93 | n => n, fun | 22 => 119 | n => n, fun | n => n⟩
theorem Tryz.compI : Go.Proofs.Lays2.n20 Tryz.prog Tryz.compI_ren := {
  mixed := by kernel_rfl
  f20 := Tryz.func93.trans (congrArg some (by kernel_rfl))
  t0 := Tryz.underlying0
  a0 := Tryz.isAgg0
  z0 := Tryz.sizeOf0
  v0 := Tryz.zeroValue0
  t3 := Tryz.underlying3
  a3 := Tryz.isAgg3
  z3 := Tryz.sizeOf3
  v3 := Tryz.zeroValue3
  t4 := Tryz.underlying4
  a4 := Tryz.isAgg4
  z4 := Tryz.sizeOf4
  v4 := Tryz.zeroValue4
  t22 := Tryz.underlying119
  a22 := Tryz.isAgg119
  z22 := Tryz.sizeOf119
  v22 := Tryz.zeroValue119
  i3 := by kernel_rfl }
end Go.Proofs
namespace Go.Proofs.YtbfjlpoeglcmfaaGreatDoor
open Go.Se Go.RowKit

theorem below_cells {B : Nat} {a : World} (b : Nat) (hb : B ≤ b) : ∀ (vs : List Value) (o : Nat) {w : World}, Below B a w → Below B a (w.setCells b o vs)
  | [], _, _, h => h
  | v :: r, o, _, h => below_cells b hb r (o + 1) (h.setCell (p := ⟨b, o, none⟩) hb v)
theorem add_none (g k : Nat) : (⟨g, 0, none⟩ : Addr).add k = ⟨g, k, none⟩ := by
  unfold Addr.add
  by_cases h : k = 0
  · subst h; simp
  · simp [h]
theorem rowInt : RowT Tryz.prog 119 3 intC 1 8 := ⟨undInts, ⟨_, ty3_ok, rfl, rfl⟩, by3, by decide, by decide, intC_len, intC_one⟩
theorem ok_compact : FnOk Tryz.prog 93 := ⟨_, Tryz.func93, rfl, rfl⟩
theorem mem_compact (zs : List Int) (t : Int) : t ∈ Lib.compact zs ↔ t ∈ zs := by
  have key : ∀ m, m ≤ zs.length → ∀ t, t ∈ Lib.compactUpTo zs.toArray m ↔ t ∈ zs.take m := by
    intro m
    induction m with
    | zero => intro _ t; simp [Lib.compactUpTo]
    | succ m ih =>
      intro hm t
      rw [Lib.compactUpTo_succ, take_next zs m (by omega), List.mem_append, List.mem_append, ih (by omega) t]
      have he : zs.toArray[m]! = zs[m] := by simp [show m < zs.length by omega]
      rw [he]
      cases hk : Lib.keeps zs.toArray m with
      | true => simp
      | false =>
        have hk' : ¬ (m = 0 ∨ zs.toArray[m]! ≠ zs.toArray[m - 1]!) := by
          intro h
          have : Lib.keeps zs.toArray m = true := by simp only [Lib.keeps]; exact decide_eq_true h
          rw [hk] at this; cases this
        have hm0 : m ≠ 0 := fun h => hk' (.inl h)
        have h2 : zs.toArray[m]! = zs.toArray[m - 1]! := Classical.byContradiction fun h => hk' (.inr h)
        rw [he] at h2
        have h3 : zs.toArray[m - 1]! = zs[m - 1]'(by omega) := by simp [show m - 1 < zs.length by omega]
        rw [h3] at h2
        have h4 : zs[m] ∈ zs.take m := by
          rw [h2, List.mem_take_iff_getElem]
          exact ⟨m - 1, by omega, rfl⟩
        constructor
        · rintro (h | h)
          · exact .inl h
          · simp at h
        · rintro (h | h)
          · exact .inl h
          · simp at h; subst h; exact .inl h4
  have := key zs.length (Nat.le_refl _) t
  rwa [List.take_length] at this
theorem compact_spec (l : List Int) (A : Option Addr) (c base : Nat) (w : World) (hown : Own intC 1 3 base w A c l) (hl : l.length < 1000000000000) :
    Cal Tryz.prog 93 [.slice A l.length c] w fun r w' => ∃ L, r = .slice A L.length c ∧ (∀ t, t ∈ L ↔ t ∈ l) ∧ L.length ≤ l.length ∧ SlI w' A L ∧ ∀ w0, Ext w0 w → w0.heap.size ≤ base → Ext w0 w' := by
  by_cases h2 : l.length < 2
  · refine fn_intro Tt_ok Tryz.func93 (by rfl) rfl _ rfl rfl (by rfl) ?_; (conv => whnf)
    refine ⟨fun _ => ?_, fun h => (by simp at h; omega)⟩
    (conv => whnf)
    exact ⟨l, rfl, fun _ => Iff.rfl, Nat.le_refl _, hown.sl intC_len, fun w0 h _ => h⟩
  · have hsl := hown.sl intC_len
    rcases hown.2 with ⟨_, h0⟩ | ⟨g, cap, cur, hv, hb, hg, hc1, hc2, hc3, hc4⟩
    · omega
    injection hv with hA _ hcc
    subst hA
    subst hcc
    have hcell : ∀ j, j < l.length → w.cell? ⟨g, 0 + j, none⟩ = some (.int .i64 (l.getD j 0)) := by
      intro j hj
      obtain ⟨a, ha, hca⟩ := hsl.get hj
      have ha' : a = ⟨g, 0, none⟩ := by simpa using ha.symm
      have := hca 0 _ rfl
      rw [ha', add_add_addr, add_none] at this
      rw [List.getD_eq_getElem?_getD, List.getElem?_eq_getElem hj]
      simpa using this
    refine cal_of ok_compact (Any.slices_Compact_int_cells Tryz.compI g 0 l.length c l w (Nat.le_refl _) (by omega) hc1 hcell (fun j _ => by unfold World.frozen?; rw [hg]; simp)) ?_
    rintro w' ⟨q, rfl⟩
    rw [List.take_length]
    have hle := Lib.compact_length_le l
    generalize hL : Lib.compact l = L at hle
    refine ⟨L, rfl, fun t => by rw [← hL]; exact mem_compact l t, hle, ?_, ?_⟩
    · intro i x hi
      have hlt : i < L.length := (List.getElem?_eq_some_iff.1 hi).1
      refine ⟨_, rfl, fun j v hj => ?_⟩
      have hj0 : j = 0 := by
        have := (List.getElem?_eq_some_iff.1 hj).1
        rw [intC_len] at this; omega
      subst hj0
      have hvx : v = .int .i64 x := by simpa [intC] using hj.symm
      have := World.cell?_setCells_in g ((L ++ List.replicate (l.length - L.length) 0).map (Value.int .i64)) 0 (w.drewN q) (fun j hj => by
        have hj' : j < l.length := by simp at hj; omega
        have := hcell j hj'
        show (w.cell? _).isSome = true
        rw [this]; rfl) i (by simp; omega)
      have hx : L[i] = x := by rw [List.getElem?_eq_getElem hlt] at hi; simpa using hi
      rw [add_add_addr, add_none]
      simp only [Nat.mul_one, Nat.add_zero, Nat.zero_add] at this ⊢
      rw [this, hvx]
      rw [List.getElem_map, List.getElem_append_left hlt, hx]
    · intro w0 h0 hb0
      have h1 : Ext w0 (w.drewN q) := h0.trans (ext_drewN w q)
      exact below_cells g (by omega) _ _ h1
def ticksOf (row : List St) : List Int := row.map (·.at_)
theorem undSts2 : Tryz.prog.underlying 112 = some (.slice 118) := by kernel_rfl
theorem changes_spec (w : World) (S : Nat → Prop) (p : Nat) (cs : List Ev) (h : CatAt w S p cs) (name : ByteArray) (hl : (catRows cs name).length < 1000000) :
    Cal Tryz.prog 69 [.pointer (some ⟨p, 0, none⟩), .string name] w fun r w' => ∃ A c L, r = .slice A L.length c ∧ (∀ t, t ∈ L ↔ t ∈ ticksOf (catRows cs name)) ∧ L.length < 1000000 ∧ SlI w' A L ∧ Ext w w' := by
  obtain ⟨bm, L, h⟩ := h
  refine fn_intro Tt_ok Tryz.func69 (by rfl) rfl _ rfl rfl (by rfl) ?_; (conv => whnf)
  refine ⟨.map (some bm), h.head.one rfl, ?_⟩; (conv => whnf)
  refine ⟨_, h.rows.look undCat undStr (e := ty112) ty112_ok rfl name kept_same, ?_⟩
  have hown := (h.rows.own name).1
  generalize hrow : catRows cs name = row at *
  generalize (rowAt L name).1 = A at *
  generalize (rowAt L name).2 = c at *
  have hs : Sl stC 9 w A row := hown.sl stC_len
  clear hown h
  obtain ⟨T, hT⟩ : ∃ T, T = ticksOf row := ⟨_, rfl⟩
  have hTl : T.length = row.length := by rw [hT]; simp [ticksOf]
  rw [← hT]
  have hTk : ∀ k (hk : k < row.length), T[k]'(by omega) = (row[k]).at_ := fun k hk => by subst hT; simp [ticksOf]
  (conv => whnf)
  refine loop_rule Tt_ok (fun (k : Nat × Option Addr × Nat) w' => k.1 ≤ row.length ∧ Ext w w' ∧ Own intC 1 3 w.heap.size w' k.2.1 k.2.2 (T.take k.1))
    (fun | (k, B, d) => [(5, .slice B k d), (13, .slice A row.length c), (14, .int .i64 row.length), (15, .int .i64 k)]) (fun k => row.length - k.1) (0, none, 0) ⟨by simp, Ext.refl _, Own.nil⟩ ⟨rfl, rfl, rfl, rfl, trivial⟩ ?_
  rintro ⟨k, B, d⟩ w1 ⟨hk, hx1, hown⟩
  simp only at hk hown
  (conv => whnf)
  constructor
  · intro hc
    have hc : k < row.length := by simpa using hc
    obtain ⟨a2, rfl, hce⟩ := (hs.ext hx1).get hc
    have htk := take_next T k (by omega)
    have hlk : (T.take k).length = k := by rw [List.length_take]; omega
    have hlk1 : (T.take (k + 1)).length = k + 1 := by rw [List.length_take]; omega
    have hte := hTk k hc
    generalize T[k]'(by omega) = t at htk hte
    generalize row[k] = s at hce hte
    subst hte
    obtain ⟨T1, hT1⟩ : ∃ T1, T1 = T.take (k + 1) := ⟨_, rfl⟩
    rw [← hT1] at htk hlk1
    generalize hT0 : T.take k = T0 at htk hlk hown
    (conv => whnf)
    refine ⟨a2, ⟨rfl, by omega, by omega⟩, ?_⟩; (conv => whnf)
    refine ⟨stC s, ⟨rfl, hce⟩, ?_⟩; (conv => whnf)
    intro b7 w7 hn7; (conv => whnf)
    have e7 := hn7.block
    refine store_ptr Tt_ok (e := ty118) rfl hn7.At rfl rfl rfl (by simp [cellsL, stC, Value.oneCell']) fun w8 h8 ho8 => ?_
    have h8 : At w8 b7 _ (stC s) := h8
    have hx8 : Ext w1 w8 := ho8.ext hn7.ext (by omega)
    replace hx1 := hx1.trans hx8
    replace hown := hown.ext hx8
    clear hn7 ho8 hce
    (conv => whnf)
    refine ⟨_, h8.one rfl, ?_⟩; (conv => whnf)
    intro b9 w9 hn9; (conv => whnf)
    refine append_row rowInt (l := T0) (news := [s.at_]) hlk.symm (hown.ext hn9.ext) rfl (rowInt.new1 (x := s.at_) hn9) (by simp; omega) ((hx1.trans hn9.ext).size) fun A' c' w10 hown10 hg10 hA10 => ?_
    have hx10 := ext_grown (hx1.trans hn9.ext) hg10 (own_ge hown)
    rw [← htk] at hown10 ⊢
    rw [hlk1]
    (conv => whnf)
    refine ⟨((k + 1 : Nat) : Int), wrap_succ (by omega), ?_⟩; (conv => whnf)
    refine ⟨(k + 1, A', c'), by simp only; omega, ⟨by simp only; omega, hx10, ?_⟩, ⟨rfl, rfl, rfl, rfl, trivial⟩⟩
    simp only
    rw [← hT1]; exact hown10
  · intro hc
    have hc : row.length ≤ k := by simpa using hc
    obtain rfl : k = T.length := by omega
    rw [List.take_length] at hown
    (conv => whnf)
    refine (compact_spec T B d w.heap.size w1 hown (by omega)).mono ?_
    rintro _ w2 ⟨L2, rfl, hm, hle, hs2, hx2⟩; (conv => whnf)
    exact ⟨B, d, L2, rfl, hm, by omega, hs2, hx2 w hx1 (Nat.le_refl _)⟩

/-! ### The least price -/
/-- The lesser one, if there is one. -/
def lesser (o p : Option Int) : Option Int := match p with
  | none => o
  | some n => match o with
    | none => some n
    | some m => if n < m then some n else some m
def leastO (l : List (Option Int)) : Option Int := l.foldl lesser none
theorem leastO_snoc (l : List (Option Int)) (x : Option Int) : leastO (l ++ [x]) = lesser (leastO l) x := by simp [leastO]
theorem leastO_spec (l : List (Option Int)) : match leastO l with
    | some n => some n ∈ l ∧ ∀ m, some m ∈ l → n ≤ m
    | none => ∀ m, some m ∉ l := by
  induction l using snoc_ind with
  | h0 => simp [leastO]
  | h1 l a ih =>
    rw [leastO_snoc]
    cases a with
    | none =>
      simp only [lesser]
      cases h : leastO l with
      | none => rw [h] at ih; simp only at ih ⊢; intro m hm; simp at hm; exact ih m hm
      | some n => rw [h] at ih; simp only at ih ⊢; exact ⟨by simp [ih.1], fun m hm => ih.2 m (by simpa using hm)⟩
    | some k =>
      cases h : leastO l with
      | none =>
        rw [h] at ih; simp only [lesser] at ih ⊢
        refine ⟨by simp, fun m hm => ?_⟩
        rcases List.mem_append.1 hm with h1 | h1
        · exact absurd h1 (ih m)
        · simp at h1; omega
      | some n =>
        rw [h] at ih; simp only [lesser] at ih ⊢
        by_cases hkn : k < n
        · rw [if_pos hkn]
          refine ⟨by simp, fun m hm => ?_⟩
          rcases List.mem_append.1 hm with h1 | h1
          · have := ih.2 m h1; omega
          · simp at h1; omega
        · rw [if_neg hkn]
          refine ⟨by simp [ih.1], fun m hm => ?_⟩
          rcases List.mem_append.1 hm with h1 | h1
          · exact ih.2 m h1
          · simp at h1; omega
/-- The least price of a stretch. -/
def LeastIs (f : Int → Option Int) (a b : Int) (o : Option Int) : Prop := match o with
  | some n => (∃ t, a ≤ t ∧ t ≤ b ∧ f t = some n) ∧ ∀ t m, a ≤ t → t ≤ b → f t = some m → n ≤ m
  | none => ∀ t, a ≤ t → t ≤ b → f t = none
theorem least_unique {f : Int → Option Int} {a b : Int} {o p : Option Int} (h : LeastIs f a b o) (k : LeastIs f a b p) : o = p := by
  cases o with
  | none =>
    cases p with
    | none => rfl
    | some n => obtain ⟨⟨t, h1, h2, h3⟩, _⟩ := k; rw [h t h1 h2] at h3; cases h3
  | some m =>
    cases p with
    | none => obtain ⟨⟨t, h1, h2, h3⟩, _⟩ := h; rw [k t h1 h2] at h3; cases h3
    | some n =>
      obtain ⟨⟨t, h1, h2, h3⟩, h4⟩ := h
      obtain ⟨⟨u, k1, k2, k3⟩, k4⟩ := k
      have := h4 u n k1 k2 k3
      have := k4 t m h1 h2 h3
      congr 1; omega
theorem least_of {f : Int → Option Int} {a b : Int} {T : List Int} (h1 : ∀ t ∈ T, a ≤ t ∧ t ≤ b) (h2 : ∀ t, a ≤ t → t ≤ b → ∃ u ∈ T, f t = f u) : LeastIs f a b (leastO (T.map f)) := by
  have hs := leastO_spec (T.map f)
  cases h : leastO (T.map f) with
  | none =>
    rw [h] at hs
    intro t ht1 ht2
    obtain ⟨u, hu, e⟩ := h2 t ht1 ht2
    cases hf : f t with
    | none => rfl
    | some n => exact absurd (List.mem_map.2 ⟨u, hu, by rw [← e, hf]⟩) (hs n)
  | some n =>
    rw [h] at hs
    obtain ⟨hs1, hs2⟩ := hs
    obtain ⟨u, hu, e⟩ := List.mem_map.1 hs1
    refine ⟨⟨u, (h1 u hu).1, (h1 u hu).2, e⟩, fun t m ht1 ht2 hf => ?_⟩
    obtain ⟨u', hu', e'⟩ := h2 t ht1 ht2
    exact hs2 m (List.mem_map.2 ⟨u', hu', by rw [← e', hf]⟩)
theorem least_part {f : Int → Option Int} {a m b : Int} {o p q : Option Int} (h1 : a ≤ m) (h2 : m < b) (h : LeastIs f a b o) (hp : LeastIs f a m p) (hq : LeastIs f (m + 1) b q) : o = lesser p q := by
  refine least_unique h ?_
  have hsp : ∀ t, a ≤ t → t ≤ b → (a ≤ t ∧ t ≤ m) ∨ (m + 1 ≤ t ∧ t ≤ b) := fun t _ _ => by omega
  cases q with
  | none =>
    cases p with
    | none =>
      intro t ht1 ht2
      rcases hsp t ht1 ht2 with ⟨k1, k2⟩ | ⟨k1, k2⟩
      · exact hp t k1 k2
      · exact hq t k1 k2
    | some n =>
      obtain ⟨⟨t, e1, e2, e3⟩, e4⟩ := hp
      refine ⟨⟨t, e1, by omega, e3⟩, fun u k hu1 hu2 hf => ?_⟩
      rcases hsp u hu1 hu2 with ⟨k1, k2⟩ | ⟨k1, k2⟩
      · exact e4 u k k1 k2 hf
      · rw [hq u k1 k2] at hf; cases hf
  | some n' =>
    obtain ⟨⟨t', g1, g2, g3⟩, g4⟩ := hq
    cases p with
    | none =>
      refine ⟨⟨t', by omega, g2, g3⟩, fun u k hu1 hu2 hf => ?_⟩
      rcases hsp u hu1 hu2 with ⟨k1, k2⟩ | ⟨k1, k2⟩
      · rw [hp u k1 k2] at hf; cases hf
      · exact g4 u k k1 k2 hf
    | some n =>
      obtain ⟨⟨t, e1, e2, e3⟩, e4⟩ := hp
      unfold lesser
      simp only
      split
      · refine ⟨⟨t', by omega, g2, g3⟩, fun u k hu1 hu2 hf => ?_⟩
        rcases hsp u hu1 hu2 with ⟨k1, k2⟩ | ⟨k1, k2⟩
        · have := e4 u k k1 k2 hf; omega
        · exact g4 u k k1 k2 hf
      · refine ⟨⟨t, e1, by omega, e3⟩, fun u k hu1 hu2 hf => ?_⟩
        rcases hsp u hu1 hu2 with ⟨k1, k2⟩ | ⟨k1, k2⟩
        · exact e4 u k k1 k2 hf
        · have := g4 u k k1 k2 hf; omega

/-- Between its changes a thing stays as it is. -/
theorem stN_cut (row : List St) (t : Int) : (stN row t = 0 ∨ ∃ s, row[stN row t - 1]? = some s ∧ s.at_ ≤ t) ∧ (stN row t = row.length ∨ ∃ s, row[stN row t]? = some s ∧ t < s.at_) ∧ stN row t ≤ row.length := by
  unfold stN
  induction row with
  | nil => simp
  | cons a row ih =>
    rw [List.takeWhile_cons]
    by_cases h : a.at_ ≤ t
    · rw [if_pos (by simpa using h)]
      obtain ⟨i1, i2, i3⟩ := ih
      simp only [List.length_cons]
      generalize (row.takeWhile fun s => decide (s.at_ ≤ t)).length = n at *
      refine ⟨.inr ?_, ?_, by omega⟩
      · rcases i1 with rfl | ⟨s, hs, hle⟩
        · exact ⟨a, by simp, h⟩
        · cases n with
          | zero => exact ⟨a, by simp, h⟩
          | succ n => exact ⟨s, by simpa using hs, hle⟩
      · rcases i2 with h2 | ⟨s, hs, hlt⟩
        · exact .inl (by omega)
        · exact .inr ⟨s, by simpa using hs, hlt⟩
    · rw [if_neg (by simpa using h)]
      exact ⟨.inl rfl, .inr ⟨a, rfl, by omega⟩, by simp⟩
theorem stN_rep {row : List St} (hp : row.Pairwise (fun a b => a.at_ ≤ b.at_)) {a t : Int} (hat : a ≤ t) : ∃ u, (u = a ∨ (u ∈ ticksOf row ∧ a < u ∧ u ≤ t)) ∧ stN row t = stN row u := by
  obtain ⟨h1, h2, h3⟩ := stN_cut row t
  rcases h1 with h1 | ⟨s, hs, hle⟩
  · refine ⟨a, .inl rfl, (stN_unique hp h3 (.inl h1) ?_).symm⟩
    rcases h2 with h2 | ⟨s', hs', hlt⟩
    · exact .inl h2
    · exact .inr ⟨s', hs', by omega⟩
  · by_cases hsa : s.at_ ≤ a
    · refine ⟨a, .inl rfl, (stN_unique hp h3 (.inr ⟨s, hs, hsa⟩) ?_).symm⟩
      rcases h2 with h2 | ⟨s', hs', hlt⟩
      · exact .inl h2
      · exact .inr ⟨s', hs', by omega⟩
    · refine ⟨s.at_, .inr ⟨List.mem_map.2 ⟨s, List.mem_of_getElem? hs, rfl⟩, by omega, hle⟩, (stN_unique hp h3 (.inr ⟨s, hs, Int.le_refl _⟩) ?_).symm⟩
      rcases h2 with h2 | ⟨s', hs', hlt⟩
      · exact .inl h2
      · exact .inr ⟨s', hs', by omega⟩
theorem catAt_of_stN {cs : List Ev} {name : ByteArray} {t u : Int} (h : stN (catRows cs name) t = stN (catRows cs name) u) : catAt cs name t = catAt cs name u := by unfold catAt; rw [h]
theorem things_rise {z : List Ev} (h : Rise z) : Rise (thingsE z) := List.Pairwise.sublist List.filter_sublist h
theorem price_rep {z : List Ev} (hr : Rise z) (item : ByteArray) {a t : Int} (hat : a ≤ t) : ∃ u, (u = a ∨ (u ∈ ticksOf (catRows (thingsE z) item) ∧ a < u ∧ u ≤ t)) ∧ priceAt z item t = priceAt z item u := by
  obtain ⟨u, hu, e⟩ := stN_rep (catRows_rise _ (things_rise hr) item).1 hat
  refine ⟨u, hu, ?_⟩
  have := catAt_of_stN e
  unfold priceAt itemIs itemAt
  rw [this]
/-- The ticks that are looked at: all changes of the stretch among them. -/
theorem least_ticks {z : List Ev} (hr : Rise z) (item : ByteArray) {a b : Int} (hab : a ≤ b) {T : List Int} (h1 : ∀ t ∈ T, a < t ∧ t ≤ b) (h2 : ∀ t ∈ ticksOf (catRows (thingsE z) item), a < t → t ≤ b → t ∈ T) : LeastIs (priceAt z item) a b (leastO ((a :: T).map (priceAt z item))) := by
  refine least_of (fun t ht => ?_) fun t ht1 ht2 => ?_
  · rcases List.mem_cons.1 ht with rfl | ht
    · exact ⟨Int.le_refl _, hab⟩
    · have := h1 t ht; omega
  · obtain ⟨u, hu, e⟩ := price_rep hr item ht1
    refine ⟨u, ?_, e⟩
    rcases hu with rfl | ⟨hu, h3, h4⟩
    · simp
    · exact List.mem_cons_of_mem _ (h2 u hu h3 (by omega))
end Go.Proofs.YtbfjlpoeglcmfaaGreatDoor
