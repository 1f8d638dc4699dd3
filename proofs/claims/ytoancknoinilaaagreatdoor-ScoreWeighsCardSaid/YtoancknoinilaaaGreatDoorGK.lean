/- Several texts in one: SkC, Gt1, Sc2, Sc3, Sc4, Sc5, Sc6. -/
import Derived.Test.YtoancknoinilaaaGreatDoorGN
import Derived.Test.YtoancknoinilaaaGreatDoorGI
import Derived.Test.YtoancknoinilaaaGreatDoorHSfCount
import Derived.Test.YtoancknoinilaaaGreatDoorGH
import Derived.Test.YtoancknoinilaaaGreatDoorHSfRise
import Derived.Test.YtoancknoinilaaaGreatDoorGC
set_option linter.unusedVariables false
set_option linter.unusedSimpArgs false

/- slices.SortFunc at api.Count. -/
namespace Go.Proofs.YtoancknoinilaaaGreatDoor
open Go.Se Go.RowKit Go.Sort

theorem isNaNS_spec (a : ByteArray) (w : World) : Cal Tryz.prog 246 [.string a] w fun r w' => r = .bool false ∧ w' = w := by
  refine fn_intro Tt_ok Tryz.func246 (by rfl) rfl _ rfl rfl (by rfl) ?_; (conv=>whnf)
  exact ⟨by simp, rfl⟩
theorem cmpStr_spec (a b : ByteArray) (w : World) : Cal Tryz.prog 210 [.string a, .string b] w fun r w' => r = .int .i64 (cmpT a b) ∧ w' = w := by
  refine fn_intro Tt_ok Tryz.func210 (by rfl) rfl _ rfl rfl (by rfl) ?_; (conv=>whnf)
  refine (isNaNS_spec a w).mono ?_
  rintro _ _ ⟨rfl, rfl⟩
  (conv=>whnf)
  refine (isNaNS_spec b _).mono ?_
  rintro _ _ ⟨rfl, rfl⟩
  (conv=>whnf)
  constructor
  · intro h; cases h
  intro _
  (conv=>whnf)
  constructor
  · intro h; cases h
  intro _
  (conv=>whnf)
  constructor
  · intro h
    have h : bLt a b = true := h
    (conv=>whnf)
    exact ⟨by unfold cmpT; rw [if_pos h], rfl⟩
  intro h
  have h : bLt a b = false := h
  (conv=>whnf)
  constructor
  · intro k
    have k : bLt b a = true := by
      have k : (!(bLt a b || decide (a = b))) = true := k
      cases hh : bLt b a with
      | true => rfl
      | false =>
        have := bLt_tri h hh
        subst this
        simp at k
    (conv=>whnf)
    exact ⟨by unfold cmpT; rw [h, if_neg (by simp), if_pos k], rfl⟩
  intro k
  have k : bLt b a = false := by
    have k : (!(bLt a b || decide (a = b))) = false := k
    rw [h] at k
    have : a = b := by simpa using k
    subst this
    exact h
  (conv=>whnf)
  exact ⟨by unfold cmpT; rw [h, k, if_neg (by simp), if_neg (by simp)], rfl⟩

theorem isNaN6_spec (a : Int) (w : World) : Cal Tryz.prog 245 [.int .i64 a] w fun r w' => r = .bool false ∧ w' = w := by
  refine fn_intro Tt_ok Tryz.func245 (by rfl) rfl _ rfl rfl (by rfl) ?_; (conv=>whnf)
  exact ⟨by simp, rfl⟩
theorem cmpI6_spec (a b : Int) (w : World) : Cal Tryz.prog 209 [.int .i64 a, .int .i64 b] w fun r w' => r = .int .i64 (cmpI a b) ∧ w' = w := by
  refine fn_intro Tt_ok Tryz.func209 (by rfl) rfl _ rfl rfl (by rfl) ?_; (conv=>whnf)
  refine (isNaN6_spec a w).mono ?_
  rintro _ _ ⟨rfl, rfl⟩
  (conv=>whnf)
  refine (isNaN6_spec b _).mono ?_
  rintro _ _ ⟨rfl, rfl⟩
  (conv=>whnf)
  constructor
  · intro h; cases h
  intro _
  (conv=>whnf)
  constructor
  · intro h; cases h
  intro _
  (conv=>whnf)
  constructor
  · intro h
    have h : a < b := by simpa using h
    (conv=>whnf)
    exact ⟨by unfold cmpI; rw [if_pos h], rfl⟩
  intro h
  have h : ¬ a < b := by simpa using h
  (conv=>whnf)
  constructor
  · intro k
    have k : b < a := by simpa using k
    (conv=>whnf)
    exact ⟨by unfold cmpI; rw [if_neg h, if_pos k], rfl⟩
  intro k
  have k : ¬ b < a := by simpa using k
  (conv=>whnf)
  exact ⟨by unfold cmpI; rw [if_neg h, if_neg k], rfl⟩
def cmpCt (a b : Ct) : Int := orL [cmpI b.2 a.2, cmpT a.1 b.1]
theorem cmpCt_spec (a b : Ct) (w : World) : Cal Tryz.prog 208 [.agg (cntC a).toArray, .agg (cntC b).toArray] w fun r w' => r = .int .i64 (cmpCt a b) ∧ Gr w w' := by
  refine fn_intro Tt_ok Tryz.func208 (by rfl) rfl _ rfl rfl (by rfl) ?_; (conv=>whnf)
  intro b1 w1 hn1; (conv=>whnf)
  intro b2 w2 hn2
  have h1 := hn1.At.ext hn2.ext
  have h2 := hn2.At
  have hx := (new_gr hn1).trans ((new_gr hn2).trans (Gr.drew w2))
  (conv=>whnf)
  refine draw_rule .ext [0, 1, 2, 3, 5, 6, 7, 8, 4] [9, 10, 11, 12] Tt_ok mixed (by kernel_rfl) (by first | (intro h; cases h; done) | (intro _; rfl)) ?_; (conv=>whnf)
  replace h1 : At w2.drew b1 _ _ := h1
  replace h2 : At w2.drew b2 _ _ := h2
  generalize w2.drew = w3 at h1 h2 hx ⊢
  refine ⟨_, h2.one rfl, ?_⟩; (conv=>whnf)
  refine ⟨_, h1.one rfl, ?_⟩; (conv=>whnf)
  refine ⟨_, h1.one rfl, ?_⟩; (conv=>whnf)
  refine ⟨_, h2.one rfl, ?_⟩; (conv=>whnf)
  refine (cmpI6_spec _ _ _).mono ?_; rintro _ _ ⟨rfl, rfl⟩
  refine ⟨Ext.refl _, ?_⟩; (conv=>whnf)
  refine (cmpStr_spec _ _ _).mono ?_; rintro _ _ ⟨rfl, rfl⟩; (conv=>whnf)
  intro b6 w6 hn6; (conv=>whnf)
  refine (or_spec [cmpI b.2 a.2, cmpT a.1 b.1] _ _ _ (sl_new (enc := intC) intC_len hn6) (by simp)).mono ?_
  rintro _ _ ⟨rfl, rfl⟩; (conv=>whnf)
  exact ⟨rfl, hx.trans (new_gr hn6)⟩
def ltCt (a b : Ct) : Bool := decide (b.2 < a.2) || (decide (a.2 = b.2) && bLt a.1 b.1)
theorem ltCt_eq : ltOf cmpCt = ltCt := by
  funext a b
  unfold ltOf cmpCt ltCt orL cmpI cmpT
  rcases Int.lt_trichotomy b.2 a.2 with h | h | h
  · simp [h]
  · rw [h]
    cases h1 : bLt a.1 b.1 <;> cases h2 : bLt b.1 a.1 <;> simp
  · have h1 : ¬ b.2 < a.2 := by omega
    have h2 : ¬ a.2 = b.2 := by omega
    simp [h, h1, h2]
theorem ltCt_iff {a b : Ct} : ltCt a b = true ↔ b.2 < a.2 ∨ (a.2 = b.2 ∧ bLt a.1 b.1 = true) := by simp [ltCt]
theorem ltCt_not {a b : Ct} : ltCt a b = false ↔ ¬ b.2 < a.2 ∧ (a.2 = b.2 → bLt a.1 b.1 = false) := by
  rw [← Bool.not_eq_true, ltCt_iff]
  constructor
  · intro h
    refine ⟨fun h1 => h (.inl h1), fun h1 => ?_⟩
    cases hb : bLt a.1 b.1 with
    | false => rfl
    | true => exact absurd (.inr ⟨h1, hb⟩) h
  · rintro ⟨h1, h2⟩ (h3 | ⟨h3, h4⟩)
    · exact h1 h3
    · rw [h2 h3] at h4; cases h4
theorem ltCt_SWO : Go.Sort.SWO ltCt where
  irrefl x := by rw [ltCt_not]; exact ⟨by omega, fun _ => bLt_irrefl _⟩
  trans x y z h k := by
    rw [ltCt_iff] at *
    rcases h with h | ⟨h, h'⟩ <;> rcases k with k | ⟨k, k'⟩
    · exact .inl (by omega)
    · exact .inl (by omega)
    · exact .inl (by omega)
    · exact .inr ⟨by omega, bLt_trans h' k'⟩
  ntrans x y z h k := by
    rw [ltCt_not] at *
    refine ⟨by omega, fun he => ?_⟩
    have h1 := h.1
    have k1 := k.1
    exact bLt_ntrans (h.2 (by omega)) (k.2 (by omega))
theorem sortCt_spec (l : List Ct) (A : Option Addr) (c base : Nat) (w : World) (hown : Own cntC 2 166 base w A c l) (hl : l.length < 1000000) :
    Cal Tryz.prog 207 [.slice A l.length c, .func (.func 208) #[] #[]] w fun r w' => r = .tuple #[] ∧ ∃ F, F.Perm l ∧ Srt ltCt F ∧ Sl cntC 2 w' A F ∧ ∀ w0, Ext w0 w → w0.heap.size ≤ base → Ext w0 w' := by
  have := sort_core Tryz.sortCount (by decide) Tryz.isAgg166 Tryz.sizeOf166 cntC_len cntC_one cmpCt (by rw [ltCt_eq]; exact ltCt_SWO) ⟨_, Tryz.func207, rfl, rfl⟩ (enters_of Tryz.func208 (by kernel_rfl) rfl) l A c base w hown hl (fun x y w' _ => cmpCt_spec x y w') (cb := #[])
  rw [ltCt_eq] at this
  exact this
end Go.Proofs.YtoancknoinilaaaGreatDoor


/- The crowd's Taste, and whom somebody follows, in general. -/
namespace Go.Proofs.YtoancknoinilaaaGreatDoor
open Go.Se Go.RowKit

theorem undS6 : Tryz.prog.underlying 282 = some (.map 9 2) := by kernel_rfl
theorem le_sum {α : Type} (f : α → Nat) : ∀ {l : List α} {x : α}, x ∈ l → f x ≤ (l.map f).sum
  | [], x, h => by simp at h
  | a :: l, x, h => by
    simp only [List.map_cons, List.sum_cons]
    rcases List.mem_cons.1 h with rfl | h
    · omega
    · have := le_sum f h; omega
set_option maxHeartbeats 1000000 in
theorem taste_spec (w : World) (S : Nat → Prop) (p : Nat) (half : Int) (rs : List Row) (h : CrowdAt w S p half rs) (person : ByteArray) (now : Int) (hnow : now ≤ 4611686018427387904) (hm : ∀ r ∈ rs, mayB r.1 = true ∧ 0 ≤ r.1.at_) (hl : (rs.map fun r => r.2.length).sum < 1000000) (hl2 : rs.length < 1000000) :
    Cal Tryz.prog 159 [.pointer (some ⟨p, 0, none⟩), .string person, .int .i64 now] w fun r w' => ∃ A c F, r = .slice A F.length c ∧ F.Perm (tstL half now (rowsOf rs person)) ∧ Srt ltCt F ∧ Sl cntC 2 w' A F ∧ Ext w w' := by
  obtain ⟨bp, b, D, L, R, Tg, h⟩ := h
  have hT := tags_filter person h.tags
  have hown := (h.rows.own person).1
  have hsl0 := hown.sl deedC_len
  have hmp : ∀ r ∈ rowsOf rs person, mayB r.1 = true ∧ 0 ≤ r.1.at_ := fun r hr => hm r (List.mem_filter.1 hr).1
  have hsum : ((rowsOf rs person).map fun r => r.2.length).sum < 1000000 := by
    have : ∀ l : List Row, ((rowsOf l person).map fun r => r.2.length).sum ≤ (l.map fun r => r.2.length).sum := by
      intro l
      induction l with
      | nil => simp [rowsOf]
      | cons a l ih =>
        unfold rowsOf at *
        simp only [List.filter_cons]
        split
        · simp only [List.map_cons, List.sum_cons]; omega
        · simp only [List.map_cons, List.sum_cons]; omega
    have := this rs
    omega
  have hrl : (rowsOf rs person).length ≤ rs.length := List.length_filter_le _ _
  refine fn_intro Tt_ok Tryz.func159 (by rfl) rfl _ rfl rfl (by rfl) ?_; (conv=>whnf)
  intro b1 w1 hn1; (conv=>whnf); repeat (refine seq_go Tt_ok ?_; (conv=>whnf))
  have hm1 : MapAt w1 b1 Value.string [] := MapAt.new hn1
  have hx1 := hn1.ext
  have e1 := hn1.block
  have hhead := h.head
  refine ⟨.map (some bp), (h.head.ext hx1).one rfl, ?_⟩; (conv=>whnf); repeat (refine seq_go Tt_ok ?_; (conv=>whnf))
  have hrows := h.rows.look undPeople undStr (e := ty129) ty129_ok rfl person (cl := .ext) (kept_ext h.rows.map.lt)
  refine ⟨_, fun w' hw => (by cases hw; exact hrows w1 hx1), ?_⟩; (conv=>whnf); repeat (refine seq_go Tt_ok ?_; (conv=>whnf))
  clear hrows
  generalize rowsOf rs person = rows at *
  generalize deedsOf D person = row at *
  generalize (rowAt L person).1 = A at *
  generalize (rowAt L person).2 = c at *
  have hlen : row.length = rows.length := hT.len
  refine loop_rule Tt_ok (fun (q : Nat × List (ByteArray × Int)) w' => q.1 ≤ row.length ∧ Ext w w' ∧ b1 < w'.heap.size ∧ q.2 = tstM half now (rows.take q.1) ∧ MapAt w' b1 Value.string (venc vi q.2))
    (fun | (k, _) => [(0, .pointer (some ⟨p, 0, none⟩)), (2, .int .i64 now), (7, .map (some b1)), (22, .slice A row.length c), (23, .int .i64 row.length), (24, .int .i64 k)]) (fun q => row.length - q.1) (0, []) ⟨by simp, hx1, hm1.lt, rfl, hm1⟩ ⟨rfl, rfl, rfl, rfl, rfl, rfl, trivial⟩ ?_
  rintro ⟨k, m⟩ w2 ⟨hk, hx2, hb2, hmm, hmap⟩
  simp only at hk hmm hmap
  (conv=>whnf); repeat (refine seq_go Tt_ok ?_; (conv=>whnf))
  constructor
  · intro hlt
    have hlt : k < row.length := by simpa using hlt
    obtain ⟨a, hA, hc⟩ := (hsl0.ext hx2).get hlt
    subst hA
    obtain ⟨q1, q2, q3, q4⟩ := hT.ev k row[k] (rows[k]'(by omega)) (List.getElem?_eq_getElem _) (List.getElem?_eq_getElem _)
    have hmk := hmp _ (List.getElem_mem (show k < rows.length by omega))
    have hrb := Nat.lt_of_le_of_lt (le_sum (fun r : Row => r.2.length) (List.getElem_mem (show k < rows.length by omega))) hsum
    have htk : tstM half now (rows.take (k + 1)) = tstStep half now m (rows[k]'(by omega)) := by
      rw [List.take_succ_eq_append_getElem (by omega), tstM_snoc, hmm]
    generalize rows[k]'(by omega) = r at q1 q2 q3 hmk htk hrb
    generalize row[k] = d at hc q1 q2 q3 q4
    obtain ⟨d1, dA, dn, dc⟩ := d
    simp only at q1 q2 q3 q4
    subst q1
    subst q2
    (conv=>whnf); repeat (refine seq_go Tt_ok ?_; (conv=>whnf))
    refine ⟨a, ⟨rfl, by omega, by omega⟩, ?_⟩; (conv=>whnf); repeat (refine seq_go Tt_ok ?_; (conv=>whnf))
    refine ⟨deedC (r.1, dA, r.2.length, dc), ⟨rfl, hc⟩, ?_⟩; (conv=>whnf); repeat (refine seq_go Tt_ok ?_; (conv=>whnf))
    intro b3 w3 hn3; (conv=>whnf); repeat (refine seq_go Tt_ok ?_; (conv=>whnf))
    refine store_ptr Tt_ok (e := ty131) rfl hn3.At rfl rfl rfl (deedC_one _) fun w4 h4 ho4 => ?_
    have h4' : At w4 b3 131 ([] ++ (evC r.1 ++ [.slice dA r.2.length dc])) := h4
    have e3 := hn3.block
    have hx24 : Ext w2 w4 := ho4.ext hn3.ext (by omega)
    have hx4 : Ext w w4 := hx2.trans hx24
    have hmap4 := hmap.ext hx24
    clear ho4
    (conv=>whnf); repeat (refine seq_go Tt_ok ?_; (conv=>whnf))
    refine ⟨.int .i64 r.1.at_, h4.one rfl, ?_⟩; (conv=>whnf); repeat (refine seq_go Tt_ok ?_; (conv=>whnf))
    constructor
    · intro hgt
      have hgt : now < r.1.at_ := by simpa using hgt
      have hst : tstStep half now m r = m := by unfold tstStep; rw [if_pos hgt]
      (conv=>whnf); repeat (refine seq_go Tt_ok ?_; (conv=>whnf))
      refine ⟨((k + 1 : Nat) : Int), wrap_succ (by omega), ?_⟩; (conv=>whnf); repeat (refine seq_go Tt_ok ?_; (conv=>whnf))
      exact ⟨(k + 1, m), by simp only; omega, ⟨by simp only; omega, hx4, hmap4.lt, by rw [htk, hst], hmap4⟩, ⟨rfl, rfl, rfl, rfl, rfl, rfl, trivial⟩⟩
    · intro hgt
      have hgt : ¬ now < r.1.at_ := by simpa using hgt
      have hst : tstStep half now m r = r.2.foldl (tstTag (tstN half now r.1)) m := by unfold tstStep; rw [if_neg hgt]
      have hb := tstN_bound (half := half) (now := now) hmk.1
      (conv=>whnf); repeat (refine seq_go Tt_ok ?_; (conv=>whnf))
      refine draw_rule .ext [0, 1, 3, 4, 5, 6, 7, 8, 9, 10, 11, 2] [12, 13, 14] Tt_ok mixed (by kernel_rfl) (by first | (intro h; cases h; done) | (intro _; rfl)) ?_; (conv=>whnf)
      refine ⟨evC r.1, ⟨rfl, At.sub h4'⟩, ?_⟩; (conv=>whnf); repeat (refine seq_go Tt_ok ?_; (conv=>whnf))
      refine ⟨.int .i64 r.1.at_, h4.one rfl, ?_⟩; (conv=>whnf); repeat (refine seq_go Tt_ok ?_; (conv=>whnf))
      refine ⟨now - r.1.at_, wrap_eq rfl ⟨by omega, by omega⟩, ?_⟩; (conv=>whnf); repeat (refine seq_go Tt_ok ?_; (conv=>whnf))
      refine ⟨_, (hhead.ext hx4).one rfl, ?_⟩; (conv=>whnf); repeat (refine seq_go Tt_ok ?_; (conv=>whnf))
      replace hx4 := hx4.drew
      replace h4 : At w4.drew b3 _ _ := h4
      replace hmap4 := hmap4.ext (Ext.refl w4).drew
      refine (worth_spec r.1 w4.drew).mono ?_
      rintro _ w5 ⟨rfl, hx5⟩
      refine ⟨hx5, ?_⟩; (conv=>whnf); repeat (refine seq_go Tt_ok ?_; (conv=>whnf))
      refine (weight_spec (now - r.1.at_) half ⟨by omega, by omega⟩ w5).mono ?_
      rintro _ _ ⟨rfl, rfl⟩; (conv=>whnf); repeat (refine seq_go Tt_ok ?_; (conv=>whnf))
      have hwr : tstN half now r.1 = IntKind.i64.wrap (worthE r.1 * weightF (now - r.1.at_) half) := by
        rw [show worthE r.1 * weightF (now - r.1.at_) half = tstN half now r.1 from rfl]
        exact wrap_eq rfl ⟨by omega, by omega⟩
      refine ⟨tstN half now r.1, hwr, ?_⟩; (conv=>whnf); repeat (refine seq_go Tt_ok ?_; (conv=>whnf))
      clear hwr
      replace hx4 := hx4.trans hx5
      replace h4 := h4.ext hx5
      replace hmap4 := hmap4.ext hx5
      refine ⟨_, h4.one rfl, ?_⟩; (conv=>whnf); repeat (refine seq_go Tt_ok ?_; (conv=>whnf))
      have hq3 := q3.ext hx4
      generalize tstN half now r.1 = n at hb hst ⊢
      refine loop_rule Tt_ok (fun (q : Nat × List (ByteArray × Int)) w' => q.1 ≤ r.2.length ∧ Ext w w' ∧ q.2 = (r.2.take q.1).foldl (tstTag n) m ∧ MapAt w' b1 Value.string (venc vi q.2))
        (fun | (j, _) => [(0, .pointer (some ⟨p, 0, none⟩)), (2, .int .i64 now), (7, .map (some b1)), (22, .slice (some a) row.length c), (23, .int .i64 row.length), (24, .int .i64 k), (10, .int .i64 n), (48, .slice dA r.2.length dc), (49, .int .i64 r.2.length), (50, .int .i64 j)]) (fun q => r.2.length - q.1) (0, m) ⟨by simp, hx4, rfl, hmap4⟩ ⟨rfl, rfl, rfl, rfl, rfl, rfl, rfl, rfl, rfl, rfl, trivial⟩ ?_
      clear hmap4 h4 h4'
      rintro ⟨j, m'⟩ w6 ⟨hj, hx6, hm', hmap6⟩
      simp only at hj hm' hmap6
      (conv=>whnf); repeat (refine seq_go Tt_ok ?_; (conv=>whnf))
      constructor
      · intro hlt2
        have hlt2 : j < r.2.length := by simpa using hlt2
        obtain ⟨a2, hA2, hc2⟩ := (q3.ext hx6).get hlt2
        subst hA2
        have hjk : (r.2.take (j + 1)).foldl (tstTag n) m = tstTag n m' (r.2[j]) := by
          rw [List.take_succ_eq_append_getElem hlt2, tstTag_snoc, hm']
        generalize r.2[j] = t at hc2 hjk
        (conv=>whnf); repeat (refine seq_go Tt_ok ?_; (conv=>whnf))
        refine ⟨a2, ⟨rfl, by omega, by omega⟩, ?_⟩; (conv=>whnf); repeat (refine seq_go Tt_ok ?_; (conv=>whnf))
        refine ⟨.string t, cells_head hc2, ?_⟩; (conv=>whnf); repeat (refine seq_go Tt_ok ?_; (conv=>whnf))
        refine ⟨_, map_look undS6 (key_string undStr) (e := ty2) ty2_ok kept_same hmap6 t, ?_⟩
        have hz : (alook (venc vi m') t).getD (ty2).zero = vi ((alook m' t).getD 0) := by
          unfold venc; rw [map_alook]; cases alook m' t <;> rfl
        rw [hz]
        (conv=>whnf); repeat (refine seq_go Tt_ok ?_; (conv=>whnf))
        refine ⟨_, rfl, ?_⟩; (conv=>whnf); repeat (refine seq_go Tt_ok ?_; (conv=>whnf))
        refine map_update undS6 (key_string undStr) hmap6 t _ fun w7 hmap7 ho7 => ?_
        have hx7 : Ext w w7 := ho7.ext hx6 (by omega)
        have hmap7 : MapAt w7 b1 Value.string (venc vi (tstTag n m' t)) := by
          have e : aset (venc vi m') t (vi (IntKind.i64.wrap ((alook m' t).getD 0 + n))) = venc vi (tstTag n m' t) := by unfold tstTag venc; rw [map_aset]
          rw [← e]; exact hmap7
        (conv=>whnf); repeat (refine seq_go Tt_ok ?_; (conv=>whnf))
        refine ⟨((j + 1 : Nat) : Int), wrap_succ (by omega), ?_⟩; (conv=>whnf); repeat (refine seq_go Tt_ok ?_; (conv=>whnf))
        exact ⟨(j + 1, tstTag n m' t), by simp only; omega, ⟨by simp only; omega, hx7, hjk.symm, hmap7⟩, ⟨rfl, rfl, rfl, rfl, rfl, rfl, rfl, rfl, rfl, rfl, trivial⟩⟩
      · intro hge2
        have hge2 : r.2.length ≤ j := by simpa using hge2
        rw [List.take_of_length_le hge2] at hm'
        (conv=>whnf); repeat (refine seq_go Tt_ok ?_; (conv=>whnf))
        refine ⟨((k + 1 : Nat) : Int), wrap_succ (by omega), ?_⟩; (conv=>whnf); repeat (refine seq_go Tt_ok ?_; (conv=>whnf))
        exact ⟨(k + 1, m'), by simp only; omega, ⟨by simp only; omega, hx6, hmap6.lt, by rw [htk, hst, hm'], hmap6⟩, ⟨rfl, rfl, rfl, rfl, rfl, rfl, trivial⟩⟩
  · intro hge
    have hge : row.length ≤ k := by simpa using hge
    rw [List.take_of_length_le (by omega)] at hmm
    have hML : m.length ≤ (rows.map fun r => r.2.length).sum := by rw [hmm]; exact tstM_len half now rows
    unfold tstL
    rw [← hmm]
    clear hmm
    (conv=>whnf); repeat (refine seq_go Tt_ok ?_; (conv=>whnf))
    refine map_range undS6 hmap fun w3 hi3 hx3 => ?_
    have hrw : w.heap.size ≤ w2.heap.size := hx2.size
    generalize hr : w2.heap.size = r at hi3 ⊢
    have hx3 := hx2.trans hx3
    (conv=>whnf); repeat (refine seq_go Tt_ok ?_; (conv=>whnf))
    refine loop_rule Tt_ok (fun (q : List (ByteArray × Int) × Option Addr × Nat × List Ct) w' => Ext w w' ∧ Iter w' r b1 Value.string (venc vi m) (venc vi q.1) ∧ q.2.2.2 = q.1.filter (fun x => decide (0 < x.2)) ∧ Own cntC 2 166 w.heap.size w' q.2.1 q.2.2.1 q.2.2.2 ∧ ∀ a, q.2.1 = some a → a.block ≠ b1 ∧ a.block ≠ r)
      (fun | (_, A, c, F) => [(62, .pointer (some ⟨r, 0, none⟩)), (13, .slice A F.length c)]) (fun q => m.length - q.1.length) ([], none, 0, []) ⟨hx3, hi3, rfl, Own.nil, by simp⟩ ⟨rfl, rfl, trivial⟩ ?_
    clear hi3 hx3
    rintro ⟨vs, A', c', F⟩ w4 ⟨hx4, hi4, hF, hown4, hne4⟩
    simp only at hi4 hF hown4 hne4
    have hFl : F.length ≤ vs.length := by rw [hF]; exact List.length_filter_le _ _
    (conv=>whnf); repeat (refine seq_go Tt_ok ?_; (conv=>whnf))
    refine map_step hi4 (fun hp => ?_) (fun x w5 hin hnew hlt hi5 ho5 hen => ?_)
    · have hp : vs.Perm m := by
        have h1 := hp.map (fun x : ByteArray × Value => (x.1, match x.2 with | .int _ n => n | _ => 0))
        simpa [venc, List.map_map, Function.comp_def, vi] using h1
      have hvl := hp.length_eq
      (conv=>whnf); repeat (refine seq_go Tt_ok ?_; (conv=>whnf))
      constructor
      · intro hh; cases hh
      intro _
      (conv=>whnf); repeat (refine seq_go Tt_ok ?_; (conv=>whnf))
      refine (sortCt_spec F A' c' w.heap.size w4 hown4 (by omega)).mono ?_
      rintro _ w6 ⟨rfl, F6, hp6, hs6, hsl6, hx6⟩
      (conv=>whnf); repeat (refine seq_go Tt_ok ?_; (conv=>whnf))
      refine ⟨A', c', F6, by rw [hp6.length_eq], hp6.trans ?_, hs6, hsl6, hx6 w hx4 (Nat.le_refl _)⟩
      rw [hF]
      exact hp.filter _
    · obtain ⟨y, hy, rfl⟩ := List.mem_map.1 hin
      have hlt : vs.length < m.length := by simpa [venc] using hlt
      have hvs : venc vi vs ++ [(y.1, vi y.2)] = venc vi (vs ++ [y]) := by simp [venc]
      rw [hvs] at hi5
      have hx5 := ho5.ext hx4 (by omega)
      have hown5 := hown4.keep (w' := w5) fun a ha => ho5.block a.block (hne4 a ha).2
      (conv=>whnf); repeat (refine seq_go Tt_ok ?_; (conv=>whnf))
      constructor
      · intro _
        (conv=>whnf); repeat (refine seq_go Tt_ok ?_; (conv=>whnf))
        refine map_entryRun (hen w5 rfl rfl) ?_
        (conv=>whnf); repeat (refine seq_go Tt_ok ?_; (conv=>whnf))
        constructor
        · intro hpos
          have hpos : 0 < y.2 := by simpa using hpos
          (conv=>whnf); repeat (refine seq_go Tt_ok ?_; (conv=>whnf))
          intro b6 w6 hn6; (conv=>whnf); repeat (refine seq_go Tt_ok ?_; (conv=>whnf))
          refine append_row rowCt (l := F) (news := [y]) rfl (hown5.ext hn6.ext) rfl (rowCt.new1 (x := y) hn6) (by simp; omega) (Nat.le_trans hx5.size hn6.ext.size) fun A7 c7 w7 hown7 hg7 hA7 => ?_
          have hx7 := ext_grown (hx5.trans hn6.ext) hg7 (own_ge hown5)
          have hi6 := hi5.ext hn6.ext
          have hi7 : Iter w7 r b1 Value.string (venc vi m) (venc vi (vs ++ [y])) := hi6.keep (hg7.block b1 hi6.map.lt fun e => by
              cases A' with
              | none => simp at e
              | some x => simp at e; exact (hne4 x rfl).1 e.symm) (hg7.block r hi6.lt fun e => by
              cases A' with
              | none => simp at e
              | some x => simp at e; exact (hne4 x rfl).2 e.symm)
          have hne7 : ∀ a, A7 = some a → a.block ≠ b1 ∧ a.block ≠ r := by
            intro x hx
            subst hx
            rcases hA7 with h | h | h
            · exact hne4 x h.symm
            · cases A' with
              | none => simp at h
              | some y => simp at h; rw [h]; exact hne4 y rfl
            · simp at h
              have := hi6.map.lt
              have := hi6.lt
              omega
          generalize hF1 : F ++ [y] = F1 at hown7 ⊢
          (conv=>whnf); repeat (refine seq_go Tt_ok ?_; (conv=>whnf))
          exact ⟨(vs ++ [y], A7, c7, F1), by simp; omega, ⟨hx7, hi7, by simp only; rw [← hF1, hF]; simp [hpos], hown7, hne7⟩, ⟨rfl, rfl, trivial⟩⟩
        · intro hpos
          have hpos : ¬ 0 < y.2 := by simpa using hpos
          (conv=>whnf); repeat (refine seq_go Tt_ok ?_; (conv=>whnf))
          exact ⟨(vs ++ [y], A', c', F), by simp; omega, ⟨hx5, hi5, by simp only; rw [hF]; simp [hpos], hown5, hne4⟩, ⟨rfl, rfl, trivial⟩⟩
      · intro hh; cases hh
theorem makers_spec (w : World) (S : Nat → Prop) (p : Nat) (half : Int) (rs : List Row) (h : CrowdAt w S p half rs) (hm : ∀ r ∈ rs, mayB r.1 = true) (hl : rs.length < 1000000) (person : ByteArray) :
    Cal Tryz.prog 165 [.pointer (some ⟨p, 0, none⟩), .string person] w fun r w' => ∃ A c, r = .slice A (sortT ((flwMap (noteAll rs).follows person (hist (evs rs) person)).map (·.1))).length c ∧ Own strE 1 9 w.heap.size w' A c (sortT ((flwMap (noteAll rs).follows person (hist (evs rs) person)).map (·.1))) ∧ Ext w w' := by
  obtain ⟨bp, b, D, L, R, Tg, h⟩ := h
  have hhd := hist_deeds h.tags person
  have hown := (h.rows.own person).1
  have hsl0 := hown.sl deedC_len
  have hfl := h.maps.follows
  have hdl : (deedsOf D person).length ≤ rs.length := by
    rw [← h.tags.len]; exact List.length_filter_le _ _
  have hmp : ∀ e ∈ hist (evs rs) person, mayB e = true := fun e he => by
    obtain ⟨r, hr, rfl⟩ := List.mem_map.1 (List.mem_filter.1 he).1
    exact hm r hr
  have hmd : ∀ d ∈ deedsOf D person, mayB d.1 = true := fun d hd => hmp _ (by rw [← hhd]; exact List.mem_map.2 ⟨d, hd, rfl⟩)
  rw [← hhd]
  refine fn_intro Tt_ok Tryz.func165 (by rfl) rfl _ rfl rfl (by rfl) ?_; (conv=>whnf)
  refine ⟨.map (some b.follows), h.head.one rfl, ?_⟩; (conv=>whnf); repeat (refine seq_go Tt_ok ?_; (conv=>whnf))
  refine Cal.mono (R := fun r w' => ∃ A c, r = .slice A (sortT ((flwMap (noteAll rs).follows person ((deedsOf D person).map (·.1))).map (·.1))).length c ∧ Own strE 1 9 w.heap.size w' A c (sortT ((flwMap (noteAll rs).follows person ((deedsOf D person).map (·.1))).map (·.1))) ∧ Ext w w') ?_ ?_
  rotate_left
  · rintro _ w1 ⟨A, c, rfl, h1, h2⟩; (conv=>whnf); repeat (refine seq_go Tt_ok ?_; (conv=>whnf))
    exact ⟨A, c, rfl, h1, h2⟩
  refine fn_intro Tt_ok Tryz.func219 (by rfl) rfl _ rfl rfl (by rfl) ?_; (conv=>whnf)
  intro b1 w1 hn1; (conv=>whnf); repeat (refine seq_go Tt_ok ?_; (conv=>whnf))
  have hm1 : MapAt w1 b1 Value.string [] := MapAt.new hn1
  have hx1 := hn1.ext
  have e1 := hn1.block
  refine ⟨.map (some bp), (h.head.ext hx1).one rfl, ?_⟩; (conv=>whnf); repeat (refine seq_go Tt_ok ?_; (conv=>whnf))
  have hrows := h.rows.look undPeople undStr (e := ty129) ty129_ok rfl person (cl := .ext) (kept_ext h.rows.map.lt)
  refine ⟨_, fun w' hw => (by cases hw; exact hrows w1 hx1), ?_⟩; (conv=>whnf); repeat (refine seq_go Tt_ok ?_; (conv=>whnf))
  clear hrows hhd
  generalize (noteAll rs).follows = fl at *
  generalize deedsOf D person = row at *
  generalize (rowAt L person).1 = A at *
  generalize (rowAt L person).2 = c at *
  refine loop_rule Tt_ok (fun (q : Nat × List (ByteArray × Bool)) w' => q.1 ≤ row.length ∧ Ext w w' ∧ q.2 = flwMap fl person ((row.take q.1).map (·.1)) ∧ MapAt w' b1 Value.string (venc Value.bool q.2))
    (fun | (k, _) => [(1, .string person), (2, .int .i64 7), (3, .map (some b.follows)), (9, .map (some b1)), (18, .slice A row.length c), (19, .int .i64 row.length), (20, .int .i64 k)]) (fun q => row.length - q.1) (0, []) ⟨by simp, hx1, rfl, hm1⟩ ⟨rfl, rfl, rfl, rfl, rfl, rfl, rfl, trivial⟩ ?_
  rintro ⟨k, m⟩ w2 ⟨hk, hx2, hmm, hmap⟩
  simp only at hk hmm hmap
  (conv=>whnf); repeat (refine seq_go Tt_ok ?_; (conv=>whnf))
  constructor
  · intro hlt
    have hlt : k < row.length := by simpa using hlt
    obtain ⟨a, hA, hc⟩ := (hsl0.ext hx2).get hlt
    subst hA
    have htk : flwMap fl person ((row.take (k + 1)).map (·.1)) = if (row[k]).1.kind = 7 ∧ (alook fl (person, (row[k]).1.text)).getD false = true then aset m (row[k]).1.text true else m := by
      rw [List.take_succ_eq_append_getElem hlt, List.map_append, List.map_cons, List.map_nil, flwMap_snoc, ← hmm]
    generalize row[k] = d at hc htk
    (conv=>whnf); repeat (refine seq_go Tt_ok ?_; (conv=>whnf))
    refine ⟨a, ⟨rfl, by omega, by omega⟩, ?_⟩; (conv=>whnf); repeat (refine seq_go Tt_ok ?_; (conv=>whnf))
    refine ⟨deedC d, ⟨rfl, hc⟩, ?_⟩; (conv=>whnf); repeat (refine seq_go Tt_ok ?_; (conv=>whnf))
    intro b3 w3 hn3; (conv=>whnf); repeat (refine seq_go Tt_ok ?_; (conv=>whnf))
    refine store_ptr Tt_ok (e := ty131) rfl hn3.At rfl rfl rfl (deedC_one _) fun w4 h4 ho4 => ?_
    have e3 := hn3.block
    have hx24 : Ext w2 w4 := ho4.ext hn3.ext (by omega)
    have hx4 : Ext w w4 := hx2.trans hx24
    have hmap4 := hmap.ext hx24
    have h4 : At w4 b3 131 (deedC d) := h4
    clear ho4
    (conv=>whnf); repeat (refine seq_go Tt_ok ?_; (conv=>whnf))
    refine ⟨.int .i64 d.1.kind, h4.one rfl, ?_⟩; (conv=>whnf); repeat (refine seq_go Tt_ok ?_; (conv=>whnf))
    refine ⟨.string d.1.text, fun _ => h4.one rfl, ?_⟩; (conv=>whnf); repeat (refine seq_go Tt_ok ?_; (conv=>whnf))
    have hlk := map_look undLb lnk_key (e := ty4) ty4_ok (cl := .same) kept_same (hfl.ext hx4) ((person, d.1.text) : LK)
    have hz : (alook (venc Value.bool fl) ((person, d.1.text) : LK)).getD (ty4).zero = .bool ((alook fl (person, d.1.text)).getD false) := by
      unfold venc; rw [map_alook]; cases alook fl (person, d.1.text) <;> rfl
    rw [hz] at hlk
    refine ⟨_, fun _ => hlk, ?_⟩
    generalize (alook fl (person, d.1.text)).getD false = hv at htk ⊢
    (conv=>whnf); repeat (refine seq_go Tt_ok ?_; (conv=>whnf))
    constructor
    · intro hc1
      have hc1 : d.1.kind = 7 ∧ hv = true := by simpa using hc1
      rw [if_pos hc1] at htk
      (conv=>whnf); repeat (refine seq_go Tt_ok ?_; (conv=>whnf))
      refine ⟨.string d.1.text, h4.one rfl, ?_⟩; (conv=>whnf); repeat (refine seq_go Tt_ok ?_; (conv=>whnf))
      refine map_update undS1 (key_string undStr) hmap4 d.1.text _ fun w7 hmap7 ho7 => ?_
      have hx7 : Ext w w7 := ho7.ext hx4 (by omega)
      have hmap7 : MapAt w7 b1 Value.string (venc Value.bool (aset m d.1.text true)) := by
        have e : aset (venc Value.bool m) d.1.text (.bool true) = venc Value.bool (aset m d.1.text true) := by unfold venc; rw [map_aset]
        rw [← e]; exact hmap7
      (conv=>whnf); repeat (refine seq_go Tt_ok ?_; (conv=>whnf))
      refine ⟨((k + 1 : Nat) : Int), wrap_succ (by omega), ?_⟩; (conv=>whnf); repeat (refine seq_go Tt_ok ?_; (conv=>whnf))
      exact ⟨(k + 1, aset m d.1.text true), by simp only; omega, ⟨by simp only; omega, hx7, htk.symm, hmap7⟩, ⟨rfl, rfl, rfl, rfl, rfl, rfl, rfl, trivial⟩⟩
    · intro hc1
      have hc1 : ¬ (d.1.kind = 7 ∧ hv = true) := by simpa using hc1
      rw [if_neg hc1] at htk
      (conv=>whnf); repeat (refine seq_go Tt_ok ?_; (conv=>whnf))
      refine ⟨((k + 1 : Nat) : Int), wrap_succ (by omega), ?_⟩; (conv=>whnf); repeat (refine seq_go Tt_ok ?_; (conv=>whnf))
      exact ⟨(k + 1, m), by simp only; omega, ⟨by simp only; omega, hx4, htk.symm, hmap4⟩, ⟨rfl, rfl, rfl, rfl, rfl, rfl, rfl, trivial⟩⟩
  · intro hge
    have hge : row.length ≤ k := by simpa using hge
    rw [List.take_of_length_le hge] at hmm
    have hkeys : ∀ x ∈ m, x.1.size ≤ 1000000 := by
      intro x hx
      have hx1 : x.1 ∈ m.map (·.1) := List.mem_map.2 ⟨x, hx, rfl⟩
      rw [hmm, flwMap_mem] at hx1
      obtain ⟨e, he, _, h2, _⟩ := hx1
      obtain ⟨d, hd, rfl⟩ := List.mem_map.1 he
      have := may_text (hmd d hd)
      rw [← h2]; omega
    have hml : m.length ≤ row.length := by
      have : ∀ h : List Ev, (flwMap fl person h).length ≤ h.length := by
        refine snoc_ind (by simp [flwMap]) fun l e ih => ?_
        rw [flwMap_snoc]
        have := aset_len e.text true (flwMap fl person l)
        split <;> simp <;> omega
      have := this (row.map (·.1))
      rw [← hmm] at this
      simpa using this
    rw [← hmm]
    have hvk : (venc Value.bool m).map (·.1) = m.map (·.1) := by simp [venc]
    (conv=>whnf); repeat (refine seq_go Tt_ok ?_; (conv=>whnf))
    refine (keysB_spec (some b1) w2).mono ?_
    rintro _ w3 ⟨rfl, hc3, hx3⟩; (conv=>whnf); repeat (refine seq_go Tt_ok ?_; (conv=>whnf))
    refine (sortedB_spec hc3 (hmap.ext hx3) (by intro x hx; obtain ⟨y, hy, rfl⟩ := List.mem_map.1 hx; exact hkeys y hy) (by simp [venc]; omega)).mono ?_
    rintro _ w4 ⟨A4, c4, rfl, ho, hx4⟩
    rw [hvk] at ho ⊢
    (conv=>whnf); repeat (refine seq_go Tt_ok ?_; (conv=>whnf))
    exact ⟨A4, c4, rfl, base_mono ho (Nat.le_trans hx2.size hx3.size), hx2.trans (hx3.trans hx4)⟩
end Go.Proofs.YtoancknoinilaaaGreatDoor


/- Where nobody did anything: taste, makers, rises. -/
namespace Go.Proofs.YtoancknoinilaaaGreatDoor
open Go.Se Go.RowKit
open Go.Maps Go.Sort Go.Shelf

theorem sortStr0_spec (w : World) (A : Option Addr) (c : Nat) : Cal Tryz.prog 250 [.slice A 0 c] w fun r w' => r = .tuple #[] ∧ w' = w :=
  cal_of ⟨_, Tryz.func250, rfl, rfl⟩ (AnyM.slices_Sort_string_none Tryz.sort250 A c w) fun w' hw => ⟨rfl, hw⟩
theorem sortCount0_spec (w : World) (A : Option Addr) (c : Nat) (fv : Value) : Cal Tryz.prog 207 [.slice A 0 c, fv] w fun r w' => r = .tuple #[] ∧ w' = w :=
  cal_of ⟨_, Tryz.func207, rfl, rfl⟩ (AnyF.slices_SortFunc_none Tryz.sortCount A c fv w) fun w' hw => ⟨rfl, hw⟩
theorem sortRise0_spec (w : World) (A : Option Addr) (c : Nat) (fv : Value) : Cal Tryz.prog 217 [.slice A 0 c, fv] w fun r w' => r = .tuple #[] ∧ w' = w :=
  cal_of ⟨_, Tryz.func217, rfl, rfl⟩ (AnyF.slices_SortFunc_none Tryz.sortRise A c fv w) fun w' hw => ⟨rfl, hw⟩
theorem undSI64 : Tryz.prog.underlying 282 = some (.map 9 2) := by kernel_rfl
theorem deeds0 {w : World} {S : Nat → Prop} {p : Nat} {half : Int} {bp : Nat} {b : CwB} {D : List (Ev × SV)} {L : List (ByteArray × (Option Addr × Nat))} {R Tg : Nat → Prop} (h : CrowdL w S p half [] bp b D L R Tg) (person : ByteArray) : deedsOf D person = [] := by
  have hD : D = [] := by
    have := h.tags.len
    simpa using this
  rw [hD]; rfl
theorem taste0_spec (w : World) (S : Nat → Prop) (p : Nat) (half : Int) (h : CrowdAt w S p half []) (person : ByteArray) (now : Int) :
    Cal Tryz.prog 159 [.pointer (some ⟨p, 0, none⟩), .string person, .int .i64 now] w fun r w' => r = .slice none 0 0 ∧ Ext w w' := by
  obtain ⟨bp, b, D, L, R, Tg, h⟩ := h
  have hd := deeds0 h person
  refine fn_intro Tt_ok Tryz.func159 (by rfl) rfl _ rfl rfl (by rfl) ?_; (conv=>whnf)
  intro b1 w1 hn1; (conv=>whnf)
  have hm1 : MapAt w1 b1 Value.string [] := MapAt.new hn1
  have hx1 := hn1.ext
  refine ⟨.map (some bp), (h.head.ext hx1).one rfl, ?_⟩; (conv=>whnf)
  have hrows := h.rows.look undPeople undStr (e := ty129) ty129_ok rfl person (cl := .ext) (kept_ext h.rows.map.lt)
  rw [hd] at hrows
  refine ⟨_, fun w' hw => (by cases hw; exact hrows w1 hx1), ?_⟩; (conv=>whnf)
  refine loop_rule Tt_ok (fun (_ : Unit) w' => w' = w1) (fun _ => [(23, .int .i64 0), (24, .int .i64 0), (7, .map (some b1))]) (fun _ => 0) () rfl ⟨rfl, rfl, rfl, trivial⟩ ?_
  rintro _ w2 rfl
  (conv=>whnf)
  constructor
  · intro hh; simp at hh
  intro _
  (conv=>whnf)
  refine map_range undSI64 hm1 fun w3 hi3 hx3 => ?_
  generalize w2.heap.size = r at hi3 ⊢
  (conv=>whnf)
  refine loop_rule Tt_ok (fun (_ : Unit) w' => w' = w3) (fun _ => [(62, .pointer (some ⟨r, 0, none⟩)), (13, .slice none 0 0)]) (fun _ => 0) () rfl ⟨rfl, rfl, trivial⟩ ?_
  rintro _ w4 rfl
  (conv=>whnf)
  refine map_step hi3 (fun hp => ?_) (fun x w5 hin hnew hlt hi5 ho5 hen => ?_)
  · (conv=>whnf)
    constructor
    · intro hh; cases hh
    intro _
    (conv=>whnf)
    refine (sortCount0_spec w4 none 0 _).mono ?_
    rintro _ _ ⟨rfl, rfl⟩
    (conv=>whnf)
    exact ⟨rfl, hx1.trans hx3⟩
  · simp at hin
theorem makers0_spec (w : World) (S : Nat → Prop) (p : Nat) (half : Int) (h : CrowdAt w S p half []) (person : ByteArray) (kind : Int) (mb : Value) :
    Cal Tryz.prog 219 [.pointer (some ⟨p, 0, none⟩), .string person, .int .i64 kind, mb] w fun r w' => (∃ A c, r = .slice A 0 c) ∧ Ext w w' := by
  obtain ⟨bp, b, D, L, R, Tg, h⟩ := h
  have hd := deeds0 h person
  refine fn_intro Tt_ok Tryz.func219 (by rfl) rfl _ rfl rfl (by rfl) ?_; (conv=>whnf)
  intro b1 w1 hn1; (conv=>whnf)
  have hm1 : MapAt w1 b1 Value.string [] := MapAt.new hn1
  have hx1 := hn1.ext
  refine ⟨.map (some bp), (h.head.ext hx1).one rfl, ?_⟩; (conv=>whnf)
  have hrows := h.rows.look undPeople undStr (e := ty129) ty129_ok rfl person (cl := .ext) (kept_ext h.rows.map.lt)
  rw [hd] at hrows
  refine ⟨_, fun w' hw => (by cases hw; exact hrows w1 hx1), ?_⟩; (conv=>whnf)
  refine loop_rule Tt_ok (fun (_ : Unit) w' => w' = w1) (fun _ => [(19, .int .i64 0), (20, .int .i64 0), (9, .map (some b1))]) (fun _ => 0) () rfl ⟨rfl, rfl, rfl, trivial⟩ ?_
  rintro _ w2 rfl
  (conv=>whnf)
  constructor
  · intro hh; simp at hh
  intro _
  (conv=>whnf)
  refine (keysB_spec (some b1) w2).mono ?_
  rintro _ w3 ⟨rfl, hc3, hx3⟩; (conv=>whnf)
  refine (sortedB_spec hc3 (hm1.ext hx3) (by simp) (by simp)).mono ?_
  rintro _ w4 ⟨A, c, rfl, ho, hx4⟩
  simp only [List.map_nil, sortT_nil, List.length_nil] at ho ⊢
  (conv=>whnf)
  exact ⟨⟨A, c, rfl⟩, hx1.trans (hx3.trans hx4)⟩
theorem follows0_spec (w : World) (S : Nat → Prop) (p : Nat) (half : Int) (h : CrowdAt w S p half []) (person : ByteArray) :
    Cal Tryz.prog 165 [.pointer (some ⟨p, 0, none⟩), .string person] w fun r w' => (∃ A c, r = .slice A 0 c) ∧ Ext w w' := by
  have h' := h
  obtain ⟨bp, b, D, L, R, Tg, hL⟩ := h'
  refine fn_intro Tt_ok Tryz.func165 (by rfl) rfl _ rfl rfl (by rfl) ?_; (conv=>whnf)
  refine ⟨.map (some b.follows), hL.head.one rfl, ?_⟩; (conv=>whnf)
  refine (makers0_spec w S p half h person 7 _).mono ?_
  rintro _ w1 ⟨⟨A, c, rfl⟩, hx⟩; (conv=>whnf)
  exact ⟨⟨A, c, rfl⟩, hx⟩
theorem paOfG_spec (w : World) (p : Nat) (width n : Int) (bs br : Nat) (hp : At w p 271 [vi width, vi n, .map (some bs), .map (some br)]) (hw : 1 ≤ width ∧ width ≤ 1099511627776) (t : Int) (ht : -9223372036854775807 ≤ t ∧ t ≤ 9223372036854775807) :
    Cal Tryz.prog 205 [.pointer (some ⟨p, 0, none⟩), .int .i64 t] w fun r w' => r = .int .i64 (t / width) ∧ w' = w := by
  have hd : t.tdiv width = t / width + if 0 ≤ t ∨ width ∣ t then 0 else width.sign := Int.tdiv_eq_ediv
  have hm := Int.tmod_eq_emod (a := t) (b := width)
  have hs : width.sign = 1 := Int.sign_eq_one_of_pos (by omega)
  have h5 : 0 ≤ t % width := Int.emod_nonneg _ (by omega)
  have h6 : t % width < width := Int.emod_lt_of_pos _ (by omega)
  have hna : (width.natAbs : Int) = width := by omega
  rw [hs] at hd
  have hr1 : -9223372036854775807 ≤ t / width := by
    have := Int.ediv_emod_unique (a := t) (b := width) (r := t % width) (q := t / width) (by omega)
    rcases Int.lt_or_le t 0 with h | h
    · have : t ≤ t / width := by
        rw [Int.le_ediv_iff_mul_le (by omega)]
        have : t * width ≤ t * 1 := Int.mul_le_mul_of_nonpos_left (by omega) (by omega)
        omega
      omega
    · have := Int.ediv_nonneg h (show 0 ≤ width by omega); omega
  have hr2 : t / width ≤ 9223372036854775806 ∨ (0 ≤ t ∧ t / width ≤ t) := by
    rcases Int.lt_or_le t 0 with h | h
    · left
      have := Int.ediv_neg_of_neg_of_pos h (show 0 < width by omega)
      omega
    · right; exact ⟨h, Int.ediv_le_self _ h⟩
  refine fn_intro Tt_ok Tryz.func205 (by rfl) rfl _ rfl rfl (by rfl) ?_; (conv=>whnf)
  refine ⟨_, hp.one0, ?_⟩; (conv=>whnf)
  by_cases hc : 0 ≤ t ∨ width ∣ t
  · rw [if_pos hc] at hd hm
    refine ⟨t / width, ⟨by omega, wrap_eq (by omega) ⟨by omega, by omega⟩⟩, ?_⟩; (conv=>whnf)
    refine seq_go Tt_ok ?_; (conv=>whnf)
    refine ⟨_, hp.one0, ?_⟩; (conv=>whnf)
    refine ⟨t.tmod width, ⟨by omega, rfl⟩, ?_⟩; (conv=>whnf)
    constructor
    · intro q
      have q : t.tmod width < 0 := by simpa using q
      omega
    · intro _
      (conv=>whnf)
      exact ⟨rfl, rfl⟩
  · rw [if_neg hc] at hd hm
    have hneg : t < 0 := by omega
    have hd0 := Int.ediv_neg_of_neg_of_pos hneg (show 0 < width by omega)
    refine ⟨t / width + 1, ⟨by omega, wrap_eq (by omega) ⟨by omega, by omega⟩⟩, ?_⟩; (conv=>whnf)
    refine seq_go Tt_ok ?_; (conv=>whnf)
    refine ⟨_, hp.one0, ?_⟩; (conv=>whnf)
    refine ⟨t.tmod width, ⟨by omega, rfl⟩, ?_⟩; (conv=>whnf)
    constructor
    · intro _
      (conv=>whnf)
      refine ⟨t / width, wrap_eq (by omega) ⟨by omega, by omega⟩, ?_⟩; (conv=>whnf)
      exact ⟨rfl, rfl⟩
    · intro q
      have q : ¬ t.tmod width < 0 := by simpa using q
      omega
theorem rows0 {w : World} {S : Nat → Prop} {p : Nat} {width n : Int} {bs br : Nat} {L : List (ByteArray × (Option Addr × Nat))} {R : Nat → Prop} (h : PaL w S p width n [] bs br L R) : L = [] := by
  cases L with
  | nil => rfl
  | cons x L => exact absurd rfl (h.rows.ne x (by simp))
theorem paKeys0_spec (w : World) (S : Nat → Prop) (p : Nat) (width n : Int) (h : PaAt w S p width n []) (hw : 1 ≤ width ∧ width ≤ 1099511627776) (a b : Int) (ha : -9223372036854775807 ≤ a ∧ a ≤ 9223372036854775807) (hb : -9223372036854775807 ≤ b ∧ b ≤ 9223372036854775807) :
    Cal Tryz.prog 215 [.pointer (some ⟨p, 0, none⟩), .int .i64 a, .int .i64 b] w fun r w' => r = .slice none 0 0 ∧ Ext w w' := by
  obtain ⟨bs, br, L, R, h⟩ := h
  have hL := rows0 h
  subst hL
  have hm := h.rows.map
  have hh := h.head
  refine fn_intro Tt_ok Tryz.func215 (by rfl) rfl _ rfl rfl (by rfl) ?_; (conv=>whnf)
  refine (paOfG_spec w p width n bs br hh hw a ha).mono ?_
  rintro _ _ ⟨rfl, rfl⟩; (conv=>whnf)
  refine (paOfG_spec _ p width n bs br hh hw b hb).mono ?_
  rintro _ w1 ⟨rfl, rfl⟩; (conv=>whnf)
  intro b3 w3 hn3; (conv=>whnf)
  intro b4 w4 hn4; (conv=>whnf)
  have e3 := hn3.block; have e4 := hn4.block; have s3 := hn3.size
  refine store_ptr Tt_ok (e := ty3) rfl (hn3.At.ext hn4.ext) rfl rfl rfl (by simp [cellsL, Value.oneCell']) fun w5 h5 ho5 => ?_; (conv=>whnf)
  have h45 : At w5 b4 3 [.int .i64 0] := (ho5.block b4 (by omega)).trans hn4.At
  refine store_ptr Tt_ok (e := ty3) rfl h45 rfl rfl rfl (by simp [cellsL, Value.oneCell']) fun w6 h6 ho6 => ?_
  have hx6 : Ext w1 w6 := ho6.ext (ho5.ext (hn3.ext.trans hn4.ext) (by omega)) (by omega)
  clear h5 h45 h6
  (conv=>whnf)
  refine ⟨.map (some br), (hh.ext hx6).one rfl, ?_⟩; (conv=>whnf)
  refine map_range undPr (hm.ext hx6) fun w7 hi7 hx7 => ?_
  generalize w6.heap.size = r at hi7 ⊢
  (conv=>whnf)
  refine loop_rule Tt_ok (fun (_ : Unit) w' => w' = w7) (fun _ => [(22, .pointer (some ⟨r, 0, none⟩)), (9, .slice none 0 0)]) (fun _ => 0) () rfl ⟨rfl, rfl, trivial⟩ ?_
  rintro _ w8 rfl
  (conv=>whnf)
  refine map_step hi7 (fun hp => ?_) (fun x w9 hin hnew hlt hi9 ho9 hen => ?_)
  · (conv=>whnf)
    constructor
    · intro hx; cases hx
    intro _
    (conv=>whnf)
    refine (sortStr0_spec w8 none 0).mono ?_
    rintro _ _ ⟨rfl, rfl⟩
    (conv=>whnf)
    exact ⟨rfl, hx6.trans hx7⟩
  · simp [toV] at hin
theorem paWidth_spec (w : World) (S : Nat → Prop) (p : Nat) (width n : Int) (s : PSums) (h : PaAt w S p width n s) :
    Cal Tryz.prog 214 [.pointer (some ⟨p, 0, none⟩)] w fun r w' => r = .int .i64 width ∧ Ext w w' := by
  obtain ⟨bs, br, L, R, h⟩ := h
  refine fn_intro Tt_ok Tryz.func214 (by rfl) rfl _ rfl rfl (by rfl) ?_; (conv=>whnf)
  refine ⟨_, h.head.one rfl, ?_⟩; (conv=>whnf)
  exact ⟨rfl, Ext.refl _⟩
theorem PaAt.ext {w w1 : World} {S : Nat → Prop} {p : Nat} {width n : Int} {s : PSums} (h : PaAt w S p width n s) (hx : Ext w w1) : PaAt w1 S p width n s := h.keep fun k hk hs => ⟨hx.block k hk, hs⟩
theorem undPa : Tryz.prog.underlying 88 = some (.pointer (Tryz.prog.pointee 88)) := by kernel_rfl
theorem rising0_spec (w : World) (S : Nat → Prop) (p : Nat) (width n : Int) (h : PaAt w S p width n []) (hw : 1 ≤ width ∧ width ≤ 1099511627776) (span now floor : Int) (hs : 1 ≤ span ∧ span ≤ 1099511627776) (hd : span.tmod width = 0) (hn : 0 ≤ now ∧ now ≤ 1099511627776) :
    Cal Tryz.prog 162 [.pointer (some ⟨p, 0, none⟩), .int .i64 span, .int .i64 now, .int .i64 floor] w fun r w' => r = .slice none 0 0 ∧ Ext w w' := by
  have hm0 : 0 ≤ now.tmod width := Int.tmod_nonneg _ hn.1
  have hm1 : now.tmod width < width := Int.tmod_lt_of_pos _ (by omega)
  refine fn_intro Tt_ok Tryz.func162 (by rfl) rfl _ rfl rfl (by rfl) ?_; (conv=>whnf)
  refine ⟨_, eqRun_ptr_nil' undPa _ _ _, ?_⟩; (conv=>whnf)
  refine ⟨Unit, fun _ => (.int .i64 width), fun _ w' => Ext w w', (), fun hg => ((paWidth_spec w S p width n [] h)).mono fun r w' h => ⟨(), h.1, h.2⟩, ?_⟩
  intro _ w1 h2
  have hx1 : Ext w w1 := by
    rcases h2 with ⟨_, h⟩ | ⟨_, h⟩
    · exact h
    · rw [h]; exact Ext.refl _
  clear h2
  (conv=>whnf)
  refine ⟨span.tmod width, fun _ => ⟨by omega, rfl⟩, ?_⟩; (conv=>whnf)
  constructor
  · intro hc
    exfalso
    simp [hd] at hc
    omega
  intro _
  (conv=>whnf)
  refine (paWidth_spec w1 S p width n [] (h.ext hx1)).mono ?_
  rintro _ w1b ⟨rfl, hx1b⟩
  replace hx1 := hx1.trans hx1b
  (conv=>whnf)
  refine ⟨now.tmod width, ⟨by omega, rfl⟩, ?_⟩; (conv=>whnf)
  refine ⟨now - now.tmod width, wrap_eq rfl ⟨by omega, by omega⟩, ?_⟩; (conv=>whnf)
  generalize hb : now - now.tmod width = b
  refine ⟨b - span, wrap_eq rfl ⟨by omega, by omega⟩, ?_⟩; (conv=>whnf)
  refine (paKeys0_spec _ S p width n (h.ext hx1) hw (b - span) b ⟨by omega, by omega⟩ ⟨by omega, by omega⟩).mono ?_
  rintro _ w2 ⟨rfl, hx2⟩; (conv=>whnf)
  refine loop_rule Tt_ok (fun (_ : Unit) w' => w' = w2) (fun _ => [(51, .int .i64 0), (52, .int .i64 0), (10, .slice none 0 0)]) (fun _ => 0) () rfl ⟨rfl, rfl, rfl, trivial⟩ ?_
  rintro _ w3 rfl
  (conv=>whnf)
  constructor
  · intro hh; simp at hh
  intro _
  (conv=>whnf)
  refine (sortRise0_spec w3 none 0 _).mono ?_
  rintro _ _ ⟨rfl, rfl⟩
  (conv=>whnf)
  exact ⟨rfl, hx1.trans hx2⟩
end Go.Proofs.YtoancknoinilaaaGreatDoor


/- The parts of a score, where nobody did anything. -/
namespace Go.Proofs.YtoancknoinilaaaGreatDoor
open Go.Se Go.RowKit

structure NoPe (c : Cfg) (z : List Ev) : Prop where
  rs : (countAll c.width z).rs = []
  ds : (countAll c.width z).ds = []
  ps : (countAll c.width z).ps = []
  ss : (countAll c.width z).ss = []
theorem held_spec (n : Int) (w : World) : Cal Tryz.prog 156 [.int .i64 n] w fun r w' => r = .int .i64 (min n 1099511627776) ∧ w' = w := by
  refine fn_intro Tt_ok Tryz.func156 (by rfl) rfl _ rfl rfl (by rfl) ?_; (conv=>whnf)
  exact ⟨rfl, rfl⟩
theorem popular0_spec {w : World} {T : Nat → Prop} {p : Nat} {c : Cfg} {z : List Ev} {v : Value} (h : WQ w T p c z v) (h0 : NoPe c z) (person item : ByteArray) (now : Int) (hn : 0 ≤ now ∧ now ≤ 1099511627776) :
    Cal Tryz.prog 92 [.pointer (some ⟨p, 0, none⟩), .string person, .string item, .int .i64 now] w fun r w' => r = .int .i64 0 ∧ Ext w w' := by
  refine fn_intro Tt_ok Tryz.func92 (by rfl) rfl _ rfl rfl (by rfl) ?_; (conv=>whnf)
  refine (qpopular_spec h).mono ?_
  rintro _ w1 ⟨pd, S, rfl, hc, hx1⟩
  rw [h0.ds] at hc
  (conv=>whnf)
  refine (decAt_spec w1 S pd _ _ [] hc item now hn (by simp [alook])).mono ?_
  rintro r w2 ⟨hr, hx2⟩
  rw [show countAt [] (halfN c.half) item now = 0 from wrap_0] at hr
  subst hr
  (conv=>whnf)
  refine (held_spec 0 w2).mono ?_
  rintro _ _ ⟨rfl, rfl⟩; (conv=>whnf)
  exact ⟨rfl, hx1.trans hx2⟩
theorem staste0_spec {w : World} {T : Nat → Prop} {p : Nat} {c : Cfg} {z : List Ev} {v : Value} (h : WQ w T p c z v) (h0 : NoPe c z) (hg : Gl w) (person item : ByteArray) (now : Int) :
    Cal Tryz.prog 93 [.pointer (some ⟨p, 0, none⟩), .string person, .string item, .int .i64 now] w fun r w' => r = .int .i64 0 ∧ Ext w w' := by
  refine fn_intro Tt_ok Tryz.func93 (by rfl) rfl _ rfl rfl (by rfl) ?_; (conv=>whnf)
  refine (qcatalog_spec h).mono ?_
  rintro _ w1 ⟨pc, S, rfl, hcat, hx1⟩; (conv=>whnf)
  refine (catAt_spec _ S pc _ hcat item now h.rows).mono ?_
  rintro _ w2 ⟨rfl, hx2⟩
  have htg := catAt_tags (thingsE z) (fun e he => h.may e ((List.mem_filter.1 he).1)) item now
  generalize catAt (thingsE z) item now = it at htg ⊢
  (conv=>whnf)
  intro b3 w3 hn3; (conv=>whnf)
  refine store_ptr Tt_ok (e := ty174) rfl hn3.At rfl rfl rfl (by simp [cellsL, itC, Value.oneCell']) fun w4 h4 ho4 => ?_
  have e3 := hn3.block
  have hx4 : Ext w w4 := ho4.ext ((hx1.trans hx2).trans hn3.ext) (by have := (hx1.trans hx2).size; omega)
  have h4 : At w4 b3 174 (itC it.1) := h4
  clear ho4
  (conv=>whnf)
  refine ⟨.bool it.1.listed, h4.one rfl, ?_⟩; (conv=>whnf)
  constructor
  · intro _; (conv=>whnf); exact ⟨rfl, hx4⟩
  intro _
  (conv=>whnf)
  refine ⟨.string it.1.tags, h4.one rfl, ?_⟩; (conv=>whnf)
  refine ⟨sz2 (by decide) (by omega), ?_⟩; (conv=>whnf)
  refine (etagsN_spec (semi it.1.tags) w4 (hg.ext hx4) (by unfold semi; rw [ByteArray.size_append]; have : (⟨#[59]⟩ : ByteArray).size = 1 := rfl; omega)).mono ?_
  rintro _ w5 ⟨A5, c5, rfl, hs5, _, hx5⟩
  generalize tagsOf (semi it.1.tags) = tg at hs5 ⊢
  (conv=>whnf)
  refine (qcrowd_spec (h.ext (hx4.trans hx5))).mono ?_
  rintro _ w6 ⟨pw, S6, rfl, hcr, hx6⟩
  rw [h0.rs] at hcr
  (conv=>whnf)
  refine (taste0_spec w6 S6 pw _ hcr person now).mono ?_
  rintro _ w7 ⟨rfl, hx7⟩; (conv=>whnf)
  refine loop_rule Tt_ok (fun (_ : Unit) w' => w' = w7) (fun _ => [(35, .int .i64 0), (36, .int .i64 0), (12, .int .i64 0)]) (fun _ => 0) () rfl ⟨rfl, rfl, rfl, trivial⟩ ?_
  rintro _ w8 rfl
  (conv=>whnf)
  constructor
  · intro hh; simp at hh
  intro _
  (conv=>whnf)
  refine (held_spec 0 w8).mono ?_
  rintro _ _ ⟨rfl, rfl⟩; (conv=>whnf)
  exact ⟨rfl, (hx4.trans hx5).trans (hx6.trans hx7)⟩
theorem product0_spec (a : Int) (w : World) : Cal Tryz.prog 212 [.int .i64 a, .int .i64 0] w fun r w' => r = .tuple #[.int .u64 0, .int .u64 0] ∧ w' = w := by
  refine fn_intro Tt_ok Tryz.func212 (by rfl) rfl _ rfl rfl (by rfl) ?_; (conv=>whnf)
  constructor
  · intro _; (conv=>whnf); exact ⟨rfl, rfl⟩
  · intro hc; simp at hc
theorem div0_spec (w : World) : Cal Tryz.prog 213 [.int .u64 0, .int .u64 0, .int .u64 1] w fun r w' => r = .tuple #[.int .u64 0, .int .u64 0] ∧ Ext w w' := by
  have hq : (0 : Int) = IntKind.u64.wrap ((0 : Int).tdiv 1) := by decide
  have hr : (0 : Int) = (0 : Int).tmod 1 := by decide
  refine fn_intro Tt_ok Tryz.func213 (by rfl) rfl _ rfl rfl (by rfl) ?_; (conv=>whnf)
  repeat (refine seq_go Tt_ok ?_; (conv=>whnf))
  constructor
  · intro hc; simp at hc
  intro _
  (conv=>whnf)
  repeat (refine seq_go Tt_ok ?_; (conv=>whnf))
  constructor
  · intro hc; simp at hc
  intro _
  (conv=>whnf)
  constructor
  · intro _
    (conv=>whnf)
    refine draw_rule .same [0, 1, 2, 3, 4, 5, 6, 7] [] Tt_ok mixed (by kernel_rfl) (by first | (intro h; cases h; done) | (intro _; rfl)) ?_; (conv=>whnf)
    refine ⟨0, ⟨by decide, hq⟩, ?_⟩; (conv=>whnf)
    refine ⟨0, ⟨by decide, hr⟩, ?_⟩; (conv=>whnf)
    exact ⟨rfl, (Ext.refl _).drew⟩
  · intro hc; simp at hc
theorem scale0_spec (w : World) : Cal Tryz.prog 161 [.int .i64 1048576, .int .i64 0, .int .i64 1] w fun r w' => r = .tuple #[.int .i64 0, .bool true] ∧ Ext w w' := by
  refine fn_intro Tt_ok Tryz.func161 (by rfl) rfl _ rfl rfl (by rfl) ?_; (conv=>whnf)
  constructor
  · intro hc; simp at hc
  intro _
  (conv=>whnf)
  refine (product0_spec 1048576 w).mono ?_
  rintro _ _ ⟨rfl, rfl⟩; (conv=>whnf)
  refine ⟨1, wrap_u64 ⟨by decide, by decide⟩, ?_⟩; (conv=>whnf)
  constructor
  · intro hc; simp at hc
  intro _
  (conv=>whnf)
  refine (div0_spec _).mono ?_
  rintro _ wd ⟨rfl, hxd⟩; (conv=>whnf)
  constructor
  · intro hc; simp at hc
  intro _
  (conv=>whnf)
  refine ⟨0, wrap_0.symm, ?_⟩; (conv=>whnf)
  exact ⟨rfl, hxd⟩
theorem snear0_spec {w : World} {T : Nat → Prop} {p : Nat} {c : Cfg} {z : List Ev} (h : WQ w T p c z (.pointer none)) (h0 : NoPe c z) (person item : ByteArray) (now : Int) :
    Cal Tryz.prog 94 [.pointer (some ⟨p, 0, none⟩), .string person, .string item, .int .i64 now] w fun r w' => r = .int .i64 0 ∧ (∃ v, WQ w' T p c z v) ∧ Mod (fun k => k = p) w w' := by
  refine fn_intro Tt_ok Tryz.func94 (by rfl) rfl _ rfl rfl (by rfl) ?_; (conv=>whnf)
  refine (qpairs0_spec h h0.ss).mono ?_
  rintro _ w1 ⟨pp, v, rfl, hW1, hM1⟩; (conv=>whnf)
  intro b2 w2 hn2; (conv=>whnf)
  refine store_ptr Tt_ok (e := ty182) rfl hn2.At rfl rfl rfl (by simp [cellsL, Value.oneCell']) fun w3 h3 ho3 => ?_
  have e2 := hn2.block
  have hx3 : Ext w1 w3 := ho3.ext hn2.ext (by omega)
  have h3 : At w3 b2 182 [.int .i64 0, .int .i64 1] := h3
  clear ho3
  (conv=>whnf)
  refine (qcrowd_spec (hW1.ext hx3)).mono ?_
  rintro _ w4 ⟨pw, S, rfl, hcr, hx4⟩
  rw [h0.rs] at hcr
  (conv=>whnf)
  refine (history_spec w4 S pw _ [] hcr person (by simp)).mono ?_
  rintro _ w5 ⟨A, cc, rfl, ho5, hx5⟩
  simp only [evs, hist, List.map_nil, List.filter_nil, List.length_nil] at ho5 ⊢
  (conv=>whnf)
  refine loop_rule Tt_ok (fun (_ : Unit) w' => w' = w5) (fun _ => [(23, .int .i64 0), (24, .int .i64 0), (10, .pointer (some ⟨b2, 0, none⟩))]) (fun _ => 0) () rfl ⟨rfl, rfl, rfl, trivial⟩ ?_
  rintro _ w6 rfl
  (conv=>whnf)
  constructor
  · intro hh; simp at hh
  intro _
  (conv=>whnf)
  have h6 := h3.ext (hx4.trans hx5)
  refine ⟨_, h6.one rfl, ?_⟩; (conv=>whnf)
  refine ⟨_, h6.one rfl, ?_⟩; (conv=>whnf)
  refine (scale0_spec w6).mono ?_
  rintro _ w7 ⟨rfl, hx7⟩; (conv=>whnf)
  exact ⟨rfl, ⟨v, hW1.ext (hx3.trans (hx4.trans (hx5.trans hx7)))⟩, hM1.trans (Mod.of_ext (hx3.trans (hx4.trans (hx5.trans hx7))))⟩
theorem srises0_spec {w : World} {T : Nat → Prop} {p : Nat} {c : Cfg} {z : List Ev} {v : Value} (h : WQ w T p c z v) (h0 : NoPe c z) (person item : ByteArray) (now : Int) (hn : 0 ≤ now ∧ now ≤ 1099511627776) (hw : 1 ≤ halfN c.width ∧ halfN c.width ≤ 1099511627776) (hs : 1 ≤ c.span ∧ c.span ≤ 1099511627776) (hd : c.span.tmod (halfN c.width) = 0) (hf : 0 ≤ c.floor ∧ c.floor ≤ 1099511627776) :
    Cal Tryz.prog 95 [.pointer (some ⟨p, 0, none⟩), .string person, .string item, .int .i64 now] w fun r w' => r = .int .i64 0 ∧ Ext w w' := by
  refine fn_intro Tt_ok Tryz.func95 (by rfl) rfl _ rfl rfl (by rfl) ?_; (conv=>whnf)
  refine (qconfig_spec h).mono ?_
  rintro _ w1 ⟨rfl, hx1⟩; (conv=>whnf)
  intro b2 w2 hn2; (conv=>whnf)
  refine store_ptr Tt_ok (e := ty23) rfl hn2.At rfl rfl rfl (by simp [cellsL, cfgV, cfgC, Value.oneCell']) fun w3 h3 ho3 => ?_
  have e2 := hn2.block
  have hx3 : Ext w w3 := ho3.ext (hx1.trans hn2.ext) (by have := hx1.size; omega)
  have h3 : At w3 b2 23 (cfgC c) := h3
  clear ho3
  (conv=>whnf)
  refine draw_rule .ext [0, 2, 3, 4, 5, 6, 9, 1, 7, 8] [] Tt_ok mixed (by kernel_rfl) (by first | (intro h; cases h; done) | (intro _; rfl)) ?_; (conv=>whnf)
  refine ⟨_, h3.one rfl, ?_⟩; (conv=>whnf)
  refine ⟨_, h3.one rfl, ?_⟩; (conv=>whnf)
  replace hx3 := hx3.drew
  refine (qpanes_spec (h.ext hx3)).mono ?_
  rintro _ w4 ⟨pp, S, rfl, hpa, hx4⟩
  rw [h0.ps] at hpa
  refine ⟨hx4, ?_⟩; (conv=>whnf)
  refine (rising0_spec w4 S pp _ _ hpa hw c.span now c.floor hs hd hn).mono ?_
  rintro _ w5 ⟨rfl, hx5⟩
  refine ⟨hx5, ?_⟩; (conv=>whnf)
  refine loop_rule Tt_ok (fun (_ : Unit) w' => Ext w5 w') (fun _ => [(25, .int .i64 0), (26, .int .i64 0)]) (fun _ => 0) () (Ext.refl _) ⟨rfl, rfl, trivial⟩ ?_
  rintro _ w6 hx6
  (conv=>whnf)
  constructor
  · intro hh; simp at hh
  intro _
  (conv=>whnf)
  exact ⟨rfl, hx3.trans (hx4.trans (hx5.trans hx6))⟩
end Go.Proofs.YtoancknoinilaaaGreatDoor


/- Raw points, where nobody did anything. -/
namespace Go.Proofs.YtoancknoinilaaaGreatDoor
open Go.Se Go.RowKit

theorem fresh_spec {w : World} {T : Nat → Prop} {p : Nat} {c : Cfg} {z : List Ev} {v : Value} (h : WQ w T p c z v) (person item : ByteArray) (now : Int) (hn : 0 ≤ now ∧ now ≤ 1099511627776) (hb : 0 ≤ (catAt (thingsE z) item now).1.born ∧ (catAt (thingsE z) item now).1.born ≤ 1099511627776) :
    Cal Tryz.prog 97 [.pointer (some ⟨p, 0, none⟩), .string person, .string item, .int .i64 now] w fun r w' => r = .int .i64 (if (catAt (thingsE z) item now).1.listed = true then weightF (now - (catAt (thingsE z) item now).1.born) c.half else 0) ∧ Ext w w' := by
  refine fn_intro Tt_ok Tryz.func97 (by rfl) rfl _ rfl rfl (by rfl) ?_; (conv=>whnf)
  refine (qcatalog_spec h).mono ?_
  rintro _ w1 ⟨pc, S, rfl, hcat, hx1⟩; (conv=>whnf)
  refine (catAt_spec _ S pc _ hcat item now h.rows).mono ?_
  rintro _ w2 ⟨rfl, hx2⟩
  generalize catAt (thingsE z) item now = it at hb ⊢
  (conv=>whnf)
  intro b3 w3 hn3; (conv=>whnf)
  refine store_ptr Tt_ok (e := ty174) rfl hn3.At rfl rfl rfl (by simp [cellsL, itC, Value.oneCell']) fun w4 h4 ho4 => ?_
  have e3 := hn3.block
  have hx4 : Ext w w4 := ho4.ext ((hx1.trans hx2).trans hn3.ext) (by have := (hx1.trans hx2).size; omega)
  have h4 : At w4 b3 174 (itC it.1) := h4
  clear ho4
  (conv=>whnf)
  refine ⟨.bool it.1.listed, h4.one rfl, ?_⟩; (conv=>whnf)
  constructor
  · intro hl
    have hl : it.1.listed = false := by simpa using hl
    (conv=>whnf)
    exact ⟨by rw [hl]; rfl, hx4⟩
  intro hl
  have hl : it.1.listed = true := by simpa using hl
  rw [if_pos hl]
  (conv=>whnf)
  refine draw_rule .ext [0, 1, 2, 3, 4, 5, 6] [7, 8] Tt_ok mixed (by kernel_rfl) (by first | (intro h; cases h; done) | (intro _; rfl)) ?_; (conv=>whnf)
  refine ⟨.int .i64 it.1.born, h4.one rfl, ?_⟩; (conv=>whnf)
  refine ⟨now - it.1.born, wrap_eq rfl ⟨by omega, by omega⟩, ?_⟩; (conv=>whnf)
  replace hx4 := hx4.drew
  refine (qconfig_spec (h.ext hx4)).mono ?_
  rintro _ w5 ⟨rfl, hx5⟩
  refine ⟨hx5, ?_⟩; (conv=>whnf)
  refine (weight_spec (now - it.1.born) c.half ⟨by omega, by omega⟩ w5).mono ?_
  rintro _ _ ⟨rfl, rfl⟩; (conv=>whnf)
  exact ⟨rfl, hx4.trans hx5⟩
theorem contains0_spec (A : Option Addr) (c : Nat) (x : ByteArray) (w : World) :
    Cal Tryz.prog 121 [.slice A 0 c, .string x] w fun r w' => r = .bool false ∧ Ext w w' :=
  cal_of ok_contains (Tryz.slices_Contains_string_empty A c x w) fun w' hw => ⟨rfl, by rw [hw]; exact Ext.refl _⟩
theorem sfollow0_spec {w : World} {T : Nat → Prop} {p : Nat} {c : Cfg} {z : List Ev} {v : Value} (h : WQ w T p c z v) (h0 : NoPe c z) (person item : ByteArray) (now : Int) :
    Cal Tryz.prog 96 [.pointer (some ⟨p, 0, none⟩), .string person, .string item, .int .i64 now] w fun r w' => r = .int .i64 0 ∧ Ext w w' := by
  refine fn_intro Tt_ok Tryz.func96 (by rfl) rfl _ rfl rfl (by rfl) ?_; (conv=>whnf)
  refine (qcatalog_spec h).mono ?_
  rintro _ w1 ⟨pc, S, rfl, hcat, hx1⟩; (conv=>whnf)
  refine (catAt_spec _ S pc _ hcat item now h.rows).mono ?_
  rintro _ w2 ⟨rfl, hx2⟩
  generalize catAt (thingsE z) item now = it
  (conv=>whnf)
  intro b3 w3 hn3; (conv=>whnf)
  refine store_ptr Tt_ok (e := ty174) rfl hn3.At rfl rfl rfl (by simp [cellsL, itC, Value.oneCell']) fun w4 h4 ho4 => ?_
  have e3 := hn3.block
  have hx4 : Ext w w4 := ho4.ext ((hx1.trans hx2).trans hn3.ext) (by have := (hx1.trans hx2).size; omega)
  have h4 : At w4 b3 174 (itC it.1) := h4
  clear ho4
  (conv=>whnf)
  repeat (refine seq_go Tt_ok ?_; (conv=>whnf))
  refine draw_rule .ext [0, 1, 2, 3, 5, 7, 8, 4, 6] [9, 10] Tt_ok mixed (by kernel_rfl) (by first | (intro h; cases h; done) | (intro _; rfl)) ?_; (conv=>whnf)
  refine ⟨.bool it.1.listed, h4.one rfl, ?_⟩; (conv=>whnf)
  refine ⟨.string it.1.maker, fun _ => h4.one rfl, ?_⟩; (conv=>whnf)
  replace hx4 := hx4.drew
  refine ⟨Nat, fun pw => .pointer (some ⟨pw, 0, none⟩), fun pw w' => (∃ S, CrowdAt w' S pw (halfN c.half) []) ∧ Ext w4.drew w', 0, fun _ => (qcrowd_spec (h.ext hx4)).mono fun r w' hh => ?_, ?_⟩
  · obtain ⟨pw, S, h1, h2, h3⟩ := hh
    rw [h0.rs] at h2
    exact ⟨pw, h1, ⟨S, h2⟩, h3⟩
  intro pw w5 h5
  have hx5 : Ext w4.drew w5 := by
    rcases h5 with ⟨_, hh⟩ | ⟨_, hh⟩
    · exact hh.2
    · rw [hh]; exact Ext.refl _
  have hcr : it.1.listed = true → ∃ S, CrowdAt w5 S pw (halfN c.half) [] := fun hl => by
    rcases h5 with ⟨_, hh⟩ | ⟨hg, _⟩
    · exact hh.1
    · exact (hg ⟨hl, trivial⟩).elim
  clear h5
  refine ⟨hx5, ?_⟩
  (conv=>whnf)
  refine ⟨Option Addr × Nat, fun q => .slice q.1 0 q.2, fun _ w' => Ext w5 w', (none, 0), fun hg => ?_, ?_⟩
  · obtain ⟨S, hc⟩ := hcr hg
    refine (follows0_spec w5 S pw _ hc person).mono ?_
    rintro r w' ⟨⟨A, c, hr⟩, hx⟩
    exact ⟨(A, c), hr, hx⟩
  rintro ⟨A, c6⟩ w6 h6
  have hx6 : Ext w5 w6 := by
    rcases h6 with ⟨_, hh⟩ | ⟨_, hh⟩
    · exact hh
    · rw [hh]; exact Ext.refl _
  clear h6
  refine ⟨hx6, ?_⟩
  (conv=>whnf)
  refine ⟨Unit, fun _ => (.bool false), fun _ w' => Ext w6 w', (), fun hg => ((contains0_spec A c6 it.1.maker w6)).mono fun r w' h => ⟨(), h.1, h.2⟩, ?_⟩
  intro _ w7 h2
  have hx7 : Ext w6 w7 := by
    rcases h2 with ⟨_, h⟩ | ⟨_, h⟩
    · exact h
    · rw [h]; exact Ext.refl _
  clear h2
  (conv=>whnf)
  constructor
  · intro hc; simp at hc
  intro _
  (conv=>whnf)
  exact ⟨rfl, (hx4.trans hx5).trans (hx6.trans hx7)⟩
def fnsL : List Value := [.func (.func 92) #[] #[], .func (.func 93) #[] #[], .func (.func 94) #[] #[], .func (.func 95) #[] #[], .func (.func 96) #[] #[], .func (.func 97) #[] #[]]
theorem sparts_spec (w : World) : Cal Tryz.prog 49 [] w fun r w' => r = .agg fnsL.toArray ∧ Ext w w' := by
  refine fn_intro Tt_ok Tryz.func49 (by rfl) rfl _ rfl rfl (by rfl) ?_; (conv=>whnf)
  intro b1 w1 hn1; (conv=>whnf)
  refine store_ptr Tt_ok (e := ty95) rfl hn1.At rfl rfl rfl (by simp [cellsL, Value.oneCell']) fun w2 h2 ho2 => ?_
  have h2 : At w2 b1 95 fnsL := h2
  have e1 := hn1.block
  (conv=>whnf)
  refine ⟨fnsL, ⟨rfl, h2.all⟩, ?_⟩; (conv=>whnf)
  exact ⟨rfl, ho2.ext hn1.ext (by omega)⟩
theorem raw0_spec {w : World} {T : Nat → Prop} {p : Nat} {c : Cfg} {z : List Ev} {v : Value} (h : WQ w T p c z v) (h0 : NoPe c z) (person item : ByteArray) (now : Int) (hn : 0 ≤ now ∧ now ≤ 1099511627776) :
    Cal Tryz.prog 18 [.pointer (some ⟨p, 0, none⟩), .int .i64 0, .string person, .string item, .int .i64 now] w fun r w' => r = .int .i64 0 ∧ Ext w w' := by
  refine fn_intro Tt_ok Tryz.func18 (by rfl) rfl _ rfl rfl (by rfl) ?_; (conv=>whnf)
  refine (sparts_spec w).mono ?_
  rintro _ w1 ⟨rfl, hx1⟩; (conv=>whnf)
  intro b2 w2 hn2; (conv=>whnf)
  refine store_ptr Tt_ok (e := ty95) rfl hn2.At rfl rfl rfl (by simp [cellsL, fnsL, Value.oneCell']) fun w3 h3 ho3 => ?_
  have h3 : At w3 b2 95 fnsL := h3
  have e2 := hn2.block
  have hx3 : Ext w w3 := ho3.ext (hx1.trans hn2.ext) (by have := hx1.size; omega)
  clear ho3
  (conv=>whnf)
  constructor
  · intro hc
    exfalso
    simp at hc
    omega
  intro _
  (conv=>whnf)
  refine ⟨⟨by decide, by decide⟩, ?_⟩; (conv=>whnf)
  refine ⟨_, h3.one rfl, ?_⟩; (conv=>whnf)
  refine (popular0_spec (h.ext hx3) h0 person item now hn).mono ?_
  rintro _ w4 ⟨rfl, hx4⟩; (conv=>whnf)
  exact ⟨rfl, hx3.trans hx4⟩
theorem raw1_spec {w : World} {T : Nat → Prop} {p : Nat} {c : Cfg} {z : List Ev} {v : Value} (h : WQ w T p c z v) (h0 : NoPe c z) (hg : Gl w) (person item : ByteArray) (now : Int) (hn : 0 ≤ now ∧ now ≤ 1099511627776) :
    Cal Tryz.prog 18 [.pointer (some ⟨p, 0, none⟩), .int .i64 1, .string person, .string item, .int .i64 now] w fun r w' => r = .int .i64 0 ∧ Ext w w' := by
  refine fn_intro Tt_ok Tryz.func18 (by rfl) rfl _ rfl rfl (by rfl) ?_; (conv=>whnf)
  refine (sparts_spec w).mono ?_
  rintro _ w1 ⟨rfl, hx1⟩; (conv=>whnf)
  intro b2 w2 hn2; (conv=>whnf)
  refine store_ptr Tt_ok (e := ty95) rfl hn2.At rfl rfl rfl (by simp [cellsL, fnsL, Value.oneCell']) fun w3 h3 ho3 => ?_
  have h3 : At w3 b2 95 fnsL := h3
  have e2 := hn2.block
  have hx3 : Ext w w3 := ho3.ext (hx1.trans hn2.ext) (by have := hx1.size; omega)
  clear ho3
  (conv=>whnf)
  constructor
  · intro hc
    exfalso
    simp at hc
    omega
  intro _
  (conv=>whnf)
  refine ⟨⟨by decide, by decide⟩, ?_⟩; (conv=>whnf)
  refine ⟨_, h3.one rfl, ?_⟩; (conv=>whnf)
  refine (staste0_spec (h.ext hx3) h0 (hg.ext hx3) person item now).mono ?_
  rintro _ w4 ⟨rfl, hx4⟩; (conv=>whnf)
  exact ⟨rfl, hx3.trans hx4⟩
theorem raw2_spec {w : World} {T : Nat → Prop} {p : Nat} {c : Cfg} {z : List Ev} (h : WQ w T p c z (.pointer none)) (h0 : NoPe c z) (person item : ByteArray) (now : Int) (hn : 0 ≤ now ∧ now ≤ 1099511627776) :
    Cal Tryz.prog 18 [.pointer (some ⟨p, 0, none⟩), .int .i64 2, .string person, .string item, .int .i64 now] w fun r w' => r = .int .i64 0 ∧ (∃ v, WQ w' T p c z v) ∧ Mod (fun k => k = p) w w' := by
  refine fn_intro Tt_ok Tryz.func18 (by rfl) rfl _ rfl rfl (by rfl) ?_; (conv=>whnf)
  refine (sparts_spec w).mono ?_
  rintro _ w1 ⟨rfl, hx1⟩; (conv=>whnf)
  intro b2 w2 hn2; (conv=>whnf)
  refine store_ptr Tt_ok (e := ty95) rfl hn2.At rfl rfl rfl (by simp [cellsL, fnsL, Value.oneCell']) fun w3 h3 ho3 => ?_
  have h3 : At w3 b2 95 fnsL := h3
  have e2 := hn2.block
  have hx3 : Ext w w3 := ho3.ext (hx1.trans hn2.ext) (by have := hx1.size; omega)
  clear ho3
  (conv=>whnf)
  constructor
  · intro hc
    exfalso
    simp at hc
    omega
  intro _
  (conv=>whnf)
  refine ⟨⟨by decide, by decide⟩, ?_⟩; (conv=>whnf)
  refine ⟨_, h3.one rfl, ?_⟩; (conv=>whnf)
  refine (snear0_spec (h.ext hx3) h0 person item now).mono ?_
  rintro _ w4 ⟨rfl, hW4, hM4⟩; (conv=>whnf)
  exact ⟨rfl, hW4, (Mod.of_ext hx3).trans hM4⟩
theorem raw3_spec {w : World} {T : Nat → Prop} {p : Nat} {c : Cfg} {z : List Ev} {v : Value} (h : WQ w T p c z v) (h0 : NoPe c z) (hw : 1 ≤ halfN c.width ∧ halfN c.width ≤ 1099511627776) (hs : 1 ≤ c.span ∧ c.span ≤ 1099511627776) (hd : c.span.tmod (halfN c.width) = 0) (hf : 0 ≤ c.floor ∧ c.floor ≤ 1099511627776) (person item : ByteArray) (now : Int) (hn : 0 ≤ now ∧ now ≤ 1099511627776) :
    Cal Tryz.prog 18 [.pointer (some ⟨p, 0, none⟩), .int .i64 3, .string person, .string item, .int .i64 now] w fun r w' => r = .int .i64 0 ∧ Ext w w' := by
  refine fn_intro Tt_ok Tryz.func18 (by rfl) rfl _ rfl rfl (by rfl) ?_; (conv=>whnf)
  refine (sparts_spec w).mono ?_
  rintro _ w1 ⟨rfl, hx1⟩; (conv=>whnf)
  intro b2 w2 hn2; (conv=>whnf)
  refine store_ptr Tt_ok (e := ty95) rfl hn2.At rfl rfl rfl (by simp [cellsL, fnsL, Value.oneCell']) fun w3 h3 ho3 => ?_
  have h3 : At w3 b2 95 fnsL := h3
  have e2 := hn2.block
  have hx3 : Ext w w3 := ho3.ext (hx1.trans hn2.ext) (by have := hx1.size; omega)
  clear ho3
  (conv=>whnf)
  constructor
  · intro hc
    exfalso
    simp at hc
    omega
  intro _
  (conv=>whnf)
  refine ⟨⟨by decide, by decide⟩, ?_⟩; (conv=>whnf)
  refine ⟨_, h3.one rfl, ?_⟩; (conv=>whnf)
  refine (srises0_spec (h.ext hx3) h0 person item now hn hw hs hd hf).mono ?_
  rintro _ w4 ⟨rfl, hx4⟩; (conv=>whnf)
  exact ⟨rfl, hx3.trans hx4⟩
theorem raw4_spec {w : World} {T : Nat → Prop} {p : Nat} {c : Cfg} {z : List Ev} {v : Value} (h : WQ w T p c z v) (h0 : NoPe c z) (person item : ByteArray) (now : Int) (hn : 0 ≤ now ∧ now ≤ 1099511627776) :
    Cal Tryz.prog 18 [.pointer (some ⟨p, 0, none⟩), .int .i64 4, .string person, .string item, .int .i64 now] w fun r w' => r = .int .i64 0 ∧ Ext w w' := by
  refine fn_intro Tt_ok Tryz.func18 (by rfl) rfl _ rfl rfl (by rfl) ?_; (conv=>whnf)
  refine (sparts_spec w).mono ?_
  rintro _ w1 ⟨rfl, hx1⟩; (conv=>whnf)
  intro b2 w2 hn2; (conv=>whnf)
  refine store_ptr Tt_ok (e := ty95) rfl hn2.At rfl rfl rfl (by simp [cellsL, fnsL, Value.oneCell']) fun w3 h3 ho3 => ?_
  have h3 : At w3 b2 95 fnsL := h3
  have e2 := hn2.block
  have hx3 : Ext w w3 := ho3.ext (hx1.trans hn2.ext) (by have := hx1.size; omega)
  clear ho3
  (conv=>whnf)
  constructor
  · intro hc
    exfalso
    simp at hc
    omega
  intro _
  (conv=>whnf)
  refine ⟨⟨by decide, by decide⟩, ?_⟩; (conv=>whnf)
  refine ⟨_, h3.one rfl, ?_⟩; (conv=>whnf)
  refine (sfollow0_spec (h.ext hx3) h0 person item now).mono ?_
  rintro _ w4 ⟨rfl, hx4⟩; (conv=>whnf)
  exact ⟨rfl, hx3.trans hx4⟩
theorem raw5_spec {w : World} {T : Nat → Prop} {p : Nat} {c : Cfg} {z : List Ev} {v : Value} (h : WQ w T p c z v) (person item : ByteArray) (now : Int) (hn : 0 ≤ now ∧ now ≤ 1099511627776) (hb : 0 ≤ (catAt (thingsE z) item now).1.born ∧ (catAt (thingsE z) item now).1.born ≤ 1099511627776) :
    Cal Tryz.prog 18 [.pointer (some ⟨p, 0, none⟩), .int .i64 5, .string person, .string item, .int .i64 now] w fun r w' => r = .int .i64 (if (catAt (thingsE z) item now).1.listed = true then weightF (now - (catAt (thingsE z) item now).1.born) c.half else 0) ∧ Ext w w' := by
  refine fn_intro Tt_ok Tryz.func18 (by rfl) rfl _ rfl rfl (by rfl) ?_; (conv=>whnf)
  refine (sparts_spec w).mono ?_
  rintro _ w1 ⟨rfl, hx1⟩; (conv=>whnf)
  intro b2 w2 hn2; (conv=>whnf)
  refine store_ptr Tt_ok (e := ty95) rfl hn2.At rfl rfl rfl (by simp [cellsL, fnsL, Value.oneCell']) fun w3 h3 ho3 => ?_
  have h3 : At w3 b2 95 fnsL := h3
  have e2 := hn2.block
  have hx3 : Ext w w3 := ho3.ext (hx1.trans hn2.ext) (by have := hx1.size; omega)
  clear ho3
  (conv=>whnf)
  constructor
  · intro hc
    exfalso
    simp at hc
    omega
  intro _
  (conv=>whnf)
  refine ⟨⟨by decide, by decide⟩, ?_⟩; (conv=>whnf)
  refine ⟨_, h3.one rfl, ?_⟩; (conv=>whnf)
  refine (fresh_spec (h.ext hx3) person item now hn hb).mono ?_
  rintro _ w4 ⟨rfl, hx4⟩; (conv=>whnf)
  exact ⟨rfl, hx3.trans hx4⟩
end Go.Proofs.YtoancknoinilaaaGreatDoor


/- The sum of any parts; the six parts, where nobody did anything; the chapter's example. -/
namespace Go.Proofs.YtoancknoinilaaaGreatDoor
open Go.Se Go.RowKit

abbrev Pt := Int × Int × Int
def ptC (x : Pt) : List Value := [.int .i64 x.1, .int .i64 x.2.1, .int .i64 x.2.2]
theorem ptC_len (x : Pt) : (ptC x).length = 3 := rfl
theorem ptC_one (x : Pt) : ∀ u ∈ ptC x, u.oneCell' = true := by simp [ptC, Value.oneCell']
theorem rowPt : RowT Tryz.prog 38 42 ptC 3 24 := ⟨by kernel_rfl, ⟨_, ty42_ok, rfl, rfl⟩, by42, by decide, by decide, ptC_len, ptC_one⟩
def totL (l : List Pt) : Int := IntKind.i64.wrap ((l.map fun x => x.2.2).sum)
theorem tot_nil : totL [] = 0 := wrap_0
theorem tot_snoc (l : List Pt) (x : Pt) : totL (l ++ [x]) = IntKind.i64.wrap (totL l + x.2.2) := by
  unfold totL
  rw [wrap_add_l, List.map_append, List.sum_append]
  simp
theorem total_spec (l : List Pt) (A : Option Addr) (c : Nat) (w : World) (hs : Sl ptC 3 w A l) (hl : l.length < 1000000) :
    Cal Tryz.prog 23 [.slice A l.length c] w fun r w' => r = .int .i64 (totL l) ∧ Ext w w' := by
  refine fn_intro Tt_ok Tryz.func23 (by rfl) rfl _ rfl rfl (by rfl) ?_; (conv=>whnf)
  refine loop_rule Tt_ok (fun (q : Nat × Int) w' => q.1 ≤ l.length ∧ q.2 = totL (l.take q.1) ∧ Ext w w')
    (fun | (k, s) => [(6, .slice A l.length c), (7, .int .i64 l.length), (8, .int .i64 k), (3, .int .i64 s)]) (fun q => l.length - q.1) (0, 0) ⟨by simp, tot_nil.symm, Ext.refl _⟩ ⟨rfl, rfl, rfl, rfl, trivial⟩ ?_
  rintro ⟨k, s⟩ w1 ⟨hk, hs1, hx1⟩
  simp only at hk hs1
  (conv=>whnf)
  constructor
  · intro hlt
    have hlt : k < l.length := by simpa using hlt
    obtain ⟨a, hA, hc⟩ := (hs.ext hx1).get hlt
    subst hA
    have htk : totL (l.take (k + 1)) = IntKind.i64.wrap (s + (l[k]).2.2) := by rw [hs1, List.take_succ_eq_append_getElem hlt, tot_snoc]
    generalize l[k] = x at hc htk
    (conv=>whnf)
    refine ⟨a, ⟨rfl, by omega, by omega⟩, ?_⟩; (conv=>whnf)
    refine ⟨ptC x, ⟨rfl, hc⟩, ?_⟩; (conv=>whnf)
    intro b2 w2 hn2; (conv=>whnf)
    refine store_ptr Tt_ok (e := ty42) rfl hn2.At rfl rfl rfl (ptC_one x) fun w3 h3 ho3 => ?_
    have h3 : At w3 b2 42 (ptC x) := h3
    have e2 := hn2.block
    have hx3 : Ext w w3 := ho3.ext (hx1.trans hn2.ext) (by have := hx1.size; omega)
    clear ho3
    (conv=>whnf)
    refine ⟨.int .i64 x.2.2, h3.one rfl, ?_⟩; (conv=>whnf)
    refine ⟨_, rfl, ?_⟩; (conv=>whnf)
    refine ⟨((k + 1 : Nat) : Int), wrap_succ (by omega), ?_⟩; (conv=>whnf)
    exact ⟨(k + 1, _), by simp; omega, ⟨by simp; omega, htk.symm, hx3⟩, ⟨rfl, rfl, rfl, rfl, trivial⟩⟩
  · intro hge
    have hge : l.length ≤ k := by simpa using hge
    (conv=>whnf)
    exact ⟨by rw [hs1, List.take_of_length_le hge], hx1⟩

def rawE (k : Nat) : Int := if k = 5 then 1048576 else 0
structure Ex0 (c : Cfg) (z : List Ev) (item : ByteArray) (now : Int) : Prop where
  no : NoPe c z
  nowOk : 0 ≤ now ∧ now ≤ 1099511627776
  width : 1 ≤ halfN c.width ∧ halfN c.width ≤ 1099511627776
  span : 1 ≤ c.span ∧ c.span ≤ 1099511627776
  div : c.span.tmod (halfN c.width) = 0
  floor : 0 ≤ c.floor ∧ c.floor ≤ 1099511627776
  born : 0 ≤ (catAt (thingsE z) item now).1.born ∧ (catAt (thingsE z) item now).1.born ≤ 1099511627776
  fresh : (if (catAt (thingsE z) item now).1.listed = true then weightF (now - (catAt (thingsE z) item now).1.born) c.half else 0) = 1048576
theorem raw_spec {w : World} {T : Nat → Prop} {p : Nat} {c : Cfg} {z : List Ev} {v : Value} (h : WQ w T p c z v) (person item : ByteArray) (now : Int) (e : Ex0 c z item now) (k : Nat) (hk : k < 6) (hv : k ≤ 2 → v = .pointer none ∧ Gl w) :
    Cal Tryz.prog 18 [.pointer (some ⟨p, 0, none⟩), .int .i64 (k : Nat), .string person, .string item, .int .i64 now] w fun r w' => r = .int .i64 (rawE k) ∧ Mod T w w' ∧ ∃ v', WQ w' T p c z v' ∧ (k < 2 → v' = v ∧ Gl w') := by
  rcases k with _ | _ | _ | _ | _ | _ | k
  · exact (raw0_spec h e.no person item now e.nowOk).mono fun r w' hh => ⟨hh.1, Mod.of_ext hh.2, v, h.ext hh.2, fun _ => ⟨rfl, (hv (by omega)).2.ext hh.2⟩⟩
  · exact (raw1_spec h e.no (hv (by omega)).2 person item now e.nowOk).mono fun r w' hh => ⟨hh.1, Mod.of_ext hh.2, v, h.ext hh.2, fun _ => ⟨rfl, (hv (by omega)).2.ext hh.2⟩⟩
  · have hv0 := (hv (by omega)).1
    subst hv0
    refine (raw2_spec h e.no person item now e.nowOk).mono ?_
    rintro r w' ⟨h1, ⟨v', h2⟩, h3⟩
    exact ⟨h1, h3.mono fun k _ hk => by rw [hk]; exact h.tp, v', h2, fun hh => by omega⟩
  · exact (raw3_spec h e.no e.width e.span e.div e.floor person item now e.nowOk).mono fun r w' hh => ⟨hh.1, Mod.of_ext hh.2, v, h.ext hh.2, fun hh => by omega⟩
  · exact (raw4_spec h e.no person item now e.nowOk).mono fun r w' hh => ⟨hh.1, Mod.of_ext hh.2, v, h.ext hh.2, fun hh => by omega⟩
  · have := raw5_spec h person item now e.nowOk e.born
    rw [e.fresh] at this
    exact this.mono fun r w' hh => ⟨hh.1, Mod.of_ext hh.2, v, h.ext hh.2, fun hh => by omega⟩
  · omega
def clampW (n : Int) : Int := min (max n 0) 1000
def ptsF (F a : Nat → Int) (n : Nat) : List Pt := (List.range n).map fun (k : Nat) => ((k : Int), F k, IntKind.i64.wrap (F k * clampW (a k)))
theorem ptsF_snoc (F a : Nat → Int) (n : Nat) : ptsF F a (n + 1) = ptsF F a n ++ [((n : Int), F n, IntKind.i64.wrap (F n * clampW (a n)))] := by
  unfold ptsF; rw [List.range_succ, List.map_append]; rfl
theorem ptsF_len (F a : Nat → Int) (n : Nat) : (ptsF F a n).length = n := by simp [ptsF]
def wsV (a : Nat → Int) : Value := .agg #[.int .i64 (a 0), .int .i64 (a 1), .int .i64 (a 2), .int .i64 (a 3), .int .i64 (a 4), .int .i64 (a 5)]
theorem sof_spec (F a : Nat → Int) (J : Nat → (Nat → Prop) → World → Prop) (T0 : Nat → Prop) (p : Nat) (person item : ByteArray) (now : Int) (w : World) (hJ : J 0 T0 w) (hJlt : ∀ k T w1, J k T w1 → ∀ b, T b → b < w1.heap.size) (hJk : ∀ k T w1 w2, J k T w1 → Mod (fun b => ¬ T b ∧ w.heap.size ≤ b) w1 w2 → J k T w2)
    (hraw : ∀ k, k < 6 → ∀ T w1, J k T w1 → Cal Tryz.prog 18 [.pointer (some ⟨p, 0, none⟩), .int .i64 (k : Nat), .string person, .string item, .int .i64 now] w1 fun r w' => r = .int .i64 (F k) ∧ Mod T w1 w' ∧ ∃ T', J (k + 1) T' w' ∧ ∀ b, T' b → T b ∨ w1.heap.size ≤ b) :
    Cal Tryz.prog 21 [.pointer (some ⟨p, 0, none⟩), wsV a, .string person, .string item, .int .i64 now] w fun r w' => ∃ A cap T, r = .tuple #[.slice A 6 cap, .int .i64 (totL (ptsF F a 6))] ∧ Own ptC 3 42 w.heap.size w' A cap (ptsF F a 6) ∧ J 6 T w' ∧ (∀ b, T b → T0 b ∨ w.heap.size ≤ b) ∧ (∀ a, A = some a → ¬ T a.block) ∧ Mod T0 w w' := by
  refine fn_intro Tt_ok Tryz.func21 (by rfl) rfl _ rfl rfl (by rfl) ?_; (conv=>whnf)
  intro b1 w1 hn1; (conv=>whnf)
  refine ⟨_, ⟨rfl, hn1.At.all⟩, ?_⟩; (conv=>whnf)
  refine loop_rule Tt_ok (fun (q : Nat × Option Addr × Nat × List Pt) w' => q.1 ≤ 6 ∧ q.2.2.2 = ptsF F a q.1 ∧ (∃ T, J q.1 T w' ∧ (∀ b, T b → T0 b ∨ w.heap.size ≤ b) ∧ ∀ a, q.2.1 = some a → ¬ T a.block) ∧ Mod T0 w w' ∧ Own ptC 3 42 w.heap.size w' q.2.1 q.2.2.1 q.2.2.2)
    (fun | (k, A, cap, T) => [(0, .pointer (some ⟨p, 0, none⟩)), (2, .string person), (3, .string item), (4, .int .i64 now), (16, wsV a), (17, .int .i64 k), (12, .slice A T.length cap)]) (fun q => 6 - q.1) (0, none, 0, []) ⟨by simp, rfl, ⟨T0, hJk _ _ _ _ hJ (Mod.of_ext hn1.ext), fun b hb => .inl hb, by simp⟩, Mod.of_ext hn1.ext, Own.nil⟩ ⟨rfl, rfl, rfl, rfl, rfl, rfl, rfl, trivial⟩ ?_
  rintro ⟨k, A, cap, Q⟩ w2 ⟨hk, hT, ⟨T, hJ2, hT0, hTA⟩, hM, hown⟩
  simp only at hk hT hJ2 hown hTA
  have hlen : Q.length = k := by rw [hT, ptsF_len]
  (conv=>whnf)
  constructor
  · intro hlt
    have hlt : k < 6 := by
      have : (k : Int) < 6 := by simpa using hlt
      omega
    have hst := ptsF_snoc F a k
    rw [← hT] at hst
    (conv=>whnf)
    refine ⟨.int .i64 (a k), arr_index1 Tryz.underlying37 Tryz.isAgg3 Tryz.sizeOf3 hlt (by rcases k with _ | _ | _ | _ | _ | _ | k <;> first | rfl | omega), ?_⟩; (conv=>whnf)
    refine (hraw k hlt T w2 hJ2).mono ?_
    rintro _ w3 ⟨rfl, hM3, T3, hJ3, hT3⟩
    have hown3 := hown.keep (w' := w3) fun a ha => hM3.block a.block (hown.block ha).2 (hTA a ha)
    generalize F k = n at hst ⊢
    generalize a k = m at hst ⊢
    have s2 := hM.size
    have s3 := hM3.size
    (conv=>whnf)
    refine ⟨_, rfl, ?_⟩; (conv=>whnf)
    intro b4 w4 hn4; (conv=>whnf)
    have s4 := hn4.ext.size
    have hJ4 := hJk _ _ _ _ hJ3 (Mod.of_ext hn4.ext)
    refine append_row rowPt (l := Q) (news := [((k : Int), n, IntKind.i64.wrap (n * clampW m))]) rfl (hown3.ext hn4.ext) rfl (rowPt.new1 (x := ((k : Int), n, IntKind.i64.wrap (n * clampW m))) hn4) (by simp; omega) (by omega) fun A5 c5 w5 hown5 hg5 hA5 => ?_
    have hA3 : ∀ a, A = some a → ¬ T3 a.block := fun a ha h3 => by
      rcases hT3 _ h3 with h3 | h3
      · exact hTA a ha h3
      · have := (hown.block ha).2; omega
    have hJ5 : J (k + 1) T3 w5 := hJk _ _ _ _ hJ4 (mod_grown hg5 fun b hb => by
      cases A with
      | none => simp at hb
      | some x => simp at hb; rw [← hb]; exact ⟨hA3 x rfl, (hown.block rfl).1⟩)
    have hM5 : Mod T0 w w5 := by
      refine mod_trans_grow (mod_trans_grow hM (hM3.mono fun b _ hb => hT0 b hb)) ?_
      exact (Mod.of_ext hn4.ext).trans (mod_grown hg5 fun b hb => .inr (own_ge hown b hb))
    have hA5 : ∀ a, A5 = some a → ¬ T3 a.block := by
      intro x hx h3
      have hlt5 := hJlt _ _ _ hJ4 _ h3
      subst hx
      rcases hA5 with h | h | h
      · exact hA3 x h.symm h3
      · cases A with
        | none => simp at h
        | some y => simp at h; rw [h] at h3; exact hA3 y rfl h3
      · simp at h; omega
    generalize hT1 : Q ++ [((k : Int), n, IntKind.i64.wrap (n * clampW m))] = Q1 at hown5 hst ⊢
    (conv=>whnf)
    refine ⟨((k + 1 : Nat) : Int), wrap_succ (by omega), ?_⟩; (conv=>whnf)
    refine ⟨(k + 1, A5, c5, Q1), by simp only; omega, ⟨by simp only; omega, hst.symm, ⟨T3, hJ5, fun b hb => ?_, hA5⟩, hM5, hown5⟩, ⟨rfl, rfl, rfl, rfl, rfl, rfl, rfl, trivial⟩⟩
    rcases hT3 b hb with h | h
    · exact hT0 b h
    · exact .inr (by omega)
  · intro hge
    have hge : k = 6 := by
      have : ¬ (k : Int) < 6 := by simpa using hge
      omega
    subst hge
    rw [← hT]
    have h6 : (.slice A 6 cap : Value) = .slice A Q.length cap := by rw [hlen]
    (conv=>whnf)
    refine (total_spec Q A cap w2 (hown.sl ptC_len) (by omega)).mono ?_
    rintro _ w3 ⟨rfl, hx3⟩; (conv=>whnf)
    exact ⟨A, cap, T, by rw [h6], hown.ext hx3, hJk _ _ _ _ hJ2 (Mod.of_ext hx3), hT0, hTA, hM.trans (Mod.of_ext hx3)⟩
end Go.Proofs.YtoancknoinilaaaGreatDoor


/- The chapter's example; the law ScoreTotals. -/
namespace Go.Proofs.YtoancknoinilaaaGreatDoor
open Go.Se Go.RowKit

def cfg1 : Cfg := ⟨10, 10, 0, 10, 0, 0⟩
def sv1 : Ev := ⟨⟨#[115]⟩, 1, 5, 11, ⟨#[]⟩, ⟨#[97]⟩, 0, ⟨#[109, 59]⟩⟩
theorem sv_may : ∀ e ∈ [sv1], mayB e = true := by decide +kernel
theorem sv_anew : anewL [sv1] = [sv1] := by
  have h : leftL (onceL [sv1]) = [sv1] := by decide +kernel
  exact (anew_eq sv_may (by rw [h]) (by unfold Srt; decide +kernel)).symm
theorem sv_ex : Ex0 cfg1 [sv1] ⟨#[97]⟩ 5 where
  no := ⟨by decide +kernel, by decide +kernel, by decide +kernel, by decide +kernel⟩
  nowOk := by decide
  width := by decide
  span := by decide
  div := by decide
  floor := by decide
  born := by decide +kernel
  fresh := by decide +kernel
def ones (_ : Nat) : Int := 1
theorem sv_tot : totL (ptsF rawE ones 6) = 1048576 := by decide +kernel
theorem sv_5 : (ptsF rawE ones 6)[5]? = some (5, 1048576, 1048576) := by decide +kernel
theorem slives_spec (w : World) (hg0 : Gl w) : Cal Tryz.prog 15 [] w fun r w' => r = .bool true ∧ Ext w w' := by
  refine fn_intro Tt_ok Tryz.func15 (by rfl) rfl _ rfl rfl (by rfl) ?_; (conv=>whnf)
  intro b1 w1 hn1; (conv=>whnf)
  have hs1 : SlE w1 (some ⟨b1, 0, none⟩) [sv1] := sl_new evC_len hn1
  refine (made_spec cfg1 (by rfl) [sv1] (some ⟨b1, 0, none⟩) 1 w1 (hg0.ext hn1.ext) hs1 (by decide) sv_may).mono ?_
  rintro _ w2 ⟨p, rfl, hW, hx2⟩
  rw [sv_anew] at hW
  obtain ⟨T, hQ, hT⟩ := hW.q
  (conv=>whnf)
  refine ⟨fun h => (by simp at h), fun _ => ?_⟩
  have hx := hn1.ext.trans hx2
  (conv=>whnf)
  refine (sof_spec rawE ones (fun k T w' => ∃ v, WQ w' T p cfg1 [sv1] v ∧ (k ≤ 2 → v = .pointer none ∧ Gl w')) T p ⟨#[112]⟩ ⟨#[97]⟩ 5 w2 ⟨_, hQ, fun _ => ⟨rfl, hg0.ext hx⟩⟩ ?_ ?_ ?_).mono ?_
  · rintro k T w3 ⟨v, h, _⟩
    exact h.lt
  · rintro k T w3 w4 ⟨v, h, hv⟩ hm
    exact ⟨v, h.keep fun b hb => hm.block b (h.lt b hb) (fun hn => hn.1 hb), fun hk => ⟨(hv hk).1, (hv hk).2.mod hm fun k hk => Nat.le_trans (hg0.ext hx).size hk.2⟩⟩
  · rintro k hk T w3 ⟨v, h, hv⟩
    refine (raw_spec h ⟨#[112]⟩ ⟨#[97]⟩ 5 sv_ex k hk hv).mono ?_
    rintro r w4 ⟨h1, h2, v', h3, h4⟩
    exact ⟨h1, h2, T, ⟨v', h3, fun hk => ⟨(h4 (by omega)).1.trans (hv (by omega)).1, (h4 (by omega)).2⟩⟩, fun b hb => .inl hb⟩
  rintro _ w3 ⟨A, cap, T3, rfl, hown, _, _, _, hM3⟩
  rw [sv_tot]
  have hx3 : Ext w w3 := (mod_trans_grow (Mod.of_ext (S := fun _ => False) hx) (hM3.mono fun k _ hk => .inr (by have := hT k hk; have := hn1.ext.size; omega))).ext fun _ _ h => h
  have hl : (ptsF rawE ones 6).length = 6 := by rfl
  have htot := sv_tot
  have hsl := hown.sl ptC_len
  obtain ⟨a, rfl, hc⟩ := hsl 5 _ sv_5
  generalize ptsF rawE ones 6 = Q at hl hsl htot
  have htt := total_spec Q (some a) cap w3 hsl (by omega)
  rw [htot, hl] at htt
  (conv=>whnf)
  refine ⟨a, fun _ => ⟨rfl, by omega, by omega⟩, ?_⟩; (conv=>whnf)
  refine ⟨.int .i64 1048576, fun _ => cells_at hc (k := 1) rfl, ?_⟩; (conv=>whnf)
  refine ⟨Unit, fun _ => (.int .i64 1048576), fun _ w' => Ext w3 w', (), fun hg => (htt).mono fun r w' h => ⟨(), h.1, h.2⟩, ?_⟩
  intro _ w4 h2
  have hx4 : Ext w3 w4 := by
    rcases h2 with ⟨_, h⟩ | ⟨_, h⟩
    · exact h
    · rw [h]; exact Ext.refl _
  clear h2
  (conv=>whnf)
  exact ⟨rfl, hx3.trans hx4⟩
end Go.Proofs.YtoancknoinilaaaGreatDoor
