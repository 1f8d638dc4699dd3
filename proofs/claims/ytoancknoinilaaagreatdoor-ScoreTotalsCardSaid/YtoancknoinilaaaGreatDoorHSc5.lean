import Derived.Test.YtoancknoinilaaaGreatDoorHSc4
import Derived.Test.YtoancknoinilaaaGreatDoorHGrw
import Derived.Test.YtoancknoinilaaaGreatDoorGC

/- The sum of any parts; the six parts, where nobody did anything; the chapter's example. -/
set_option linter.unusedVariables false
set_option linter.unusedSimpArgs false
namespace Go.Proofs.YtoancknoinilaaaGreatDoor
open Go.Se Go.RowKit

/-- A part: what it is, raw points, points. -/
abbrev Pt := Int × Int × Int
def ptC (x : Pt) : List Value := [.int .i64 x.1, .int .i64 x.2.1, .int .i64 x.2.2]
theorem ptC_len (x : Pt) : (ptC x).length = 3 := rfl
theorem ptC_one (x : Pt) : ∀ u ∈ ptC x, u.oneCell' = true := by simp [ptC, Value.oneCell']
theorem rowPt : RowT Tryz.prog 38 42 ptC 3 24 := ⟨by kernel_rfl, ⟨_, ty42_ok, rfl, rfl⟩, by42, by decide, by decide, ptC_len, ptC_one⟩
def totL (l : List Pt) : Int := IntKind.i64.wrap ((l.map fun x => x.2.2).sum)
theorem tot_nil : totL [] = 0 := wrap_0
theorem tot_snoc (l : List Pt) (x : Pt) : totL (l ++ [x]) = IntKind.i64.wrap (totL l + x.2.2) := by
  unfold totL
  rw [wrap_add_l, List.map_append, List.sum_append]
  simp
theorem tot_append (l m : List Pt) : totL (l ++ m) = IntKind.i64.wrap (totL l + totL m) := by
  unfold totL
  rw [wrap_add_l, wrap_add_r, List.map_append, List.sum_append]
theorem total_spec (l : List Pt) (A : Option Addr) (c : Nat) (w : World) (hs : Sl ptC 3 w A l) (hl : l.length < 1000000) :
    Cal Tryz.prog 23 [.slice A l.length c] w fun r w' => r = .int .i64 (totL l) ∧ Ext w w' := by
  refine fn_intro Tt_ok Tryz.func23 (by rfl) rfl _ rfl rfl (by rfl) ?_; (conv => whnf)
  refine loop_rule Tt_ok (fun (q : Nat × Int) w' => q.1 ≤ l.length ∧ q.2 = totL (l.take q.1) ∧ Ext w w')
    (fun | (k, s) => [(6, .slice A l.length c), (7, .int .i64 l.length), (8, .int .i64 k), (3, .int .i64 s)]) (fun q => l.length - q.1) (0, 0) ⟨by simp, tot_nil.symm, Ext.refl _⟩ ⟨rfl, rfl, rfl, rfl, trivial⟩ ?_
  rintro ⟨k, s⟩ w1 ⟨hk, hs1, hx1⟩
  simp only at hk hs1
  (conv => whnf)
  constructor
  · intro hlt
    have hlt : k < l.length := by simpa using hlt
    obtain ⟨a, hA, hc⟩ := (hs.ext hx1).get hlt
    subst hA
    have htk : totL (l.take (k + 1)) = IntKind.i64.wrap (s + (l[k]).2.2) := by rw [hs1, List.take_succ_eq_append_getElem hlt, tot_snoc]
    generalize l[k] = x at hc htk
    (conv => whnf)
    refine ⟨a, ⟨rfl, by omega, by omega⟩, ?_⟩; (conv => whnf)
    refine ⟨ptC x, ⟨rfl, hc⟩, ?_⟩; (conv => whnf)
    intro b2 w2 hn2; (conv => whnf)
    refine store_ptr Tt_ok (e := ty42) rfl hn2.At rfl rfl rfl (ptC_one x) fun w3 h3 ho3 => ?_
    have h3 : At w3 b2 42 (ptC x) := h3
    have e2 := hn2.block
    have hx3 : Ext w w3 := ho3.ext (hx1.trans hn2.ext) (by have := hx1.size; omega)
    clear ho3
    (conv => whnf)
    refine ⟨.int .i64 x.2.2, h3.one rfl, ?_⟩; (conv => whnf)
    refine ⟨_, rfl, ?_⟩; (conv => whnf)
    refine ⟨((k + 1 : Nat) : Int), wrap_succ (by omega), ?_⟩; (conv => whnf)
    exact ⟨(k + 1, _), by simp; omega, ⟨by simp; omega, htk.symm, hx3⟩, ⟨rfl, rfl, rfl, rfl, trivial⟩⟩
  · intro hge
    have hge : l.length ≤ k := by simpa using hge
    (conv => whnf)
    exact ⟨by rw [hs1, List.take_of_length_le hge], hx1⟩

def rawE (k : Nat) : Int := if k = 5 then 1048576 else 0
structure Ex0 (c : Cfg) (z : List Ev) (item : ByteArray) (now : Int) : Prop where
  no : NoPe c z
  nowOk : 0 ≤ now ∧ now ≤ 1099511627776
  width : 1 ≤ halfN c.width ∧ halfN c.width ≤ 1099511627776
  span : 1 ≤ c.span ∧ c.span ≤ 1099511627776
  div : c.span.tmod (halfN c.width) = 0
  floor : 0 ≤ c.floor ∧ c.floor ≤ 1099511627776
  born : 0 ≤ (catAt (thingsE z) item now).1.born ∧ (catAt (thingsE z) item now).1.born ≤ 1099511627776
  fresh : (if (catAt (thingsE z) item now).1.listed = true then weightF (now - (catAt (thingsE z) item now).1.born) c.half else 0) = 1048576
theorem raw_spec {w : World} {T : Nat → Prop} {p : Nat} {c : Cfg} {z : List Ev} {v : Value} (h : WQ w T p c z v) (person item : ByteArray) (now : Int) (e : Ex0 c z item now) (k : Nat) (hk : k < 6) (hv : k ≤ 2 → v = .pointer none ∧ Gl w) :
    Cal Tryz.prog 18 [.pointer (some ⟨p, 0, none⟩), .int .i64 (k : Nat), .string person, .string item, .int .i64 now] w fun r w' => r = .int .i64 (rawE k) ∧ Mod T w w' ∧ ∃ v', WQ w' T p c z v' ∧ (k < 2 → v' = v ∧ Gl w') := by
  rcases k with _ | _ | _ | _ | _ | _ | k
  · exact (raw0_spec h e.no person item now e.nowOk).mono fun r w' hh => ⟨hh.1, Mod.of_ext hh.2, v, h.ext hh.2, fun _ => ⟨rfl, (hv (by omega)).2.ext hh.2⟩⟩
  · exact (raw1_spec h e.no (hv (by omega)).2 person item now e.nowOk).mono fun r w' hh => ⟨hh.1, Mod.of_ext hh.2, v, h.ext hh.2, fun _ => ⟨rfl, (hv (by omega)).2.ext hh.2⟩⟩
  · have hv0 := (hv (by omega)).1
    subst hv0
    refine (raw2_spec h e.no person item now e.nowOk).mono ?_
    rintro r w' ⟨h1, ⟨v', h2⟩, h3⟩
    exact ⟨h1, h3.mono fun k _ hk => by rw [hk]; exact h.tp, v', h2, fun hh => by omega⟩
  · exact (raw3_spec h e.no e.width e.span e.div e.floor person item now e.nowOk).mono fun r w' hh => ⟨hh.1, Mod.of_ext hh.2, v, h.ext hh.2, fun hh => by omega⟩
  · exact (raw4_spec h e.no person item now e.nowOk).mono fun r w' hh => ⟨hh.1, Mod.of_ext hh.2, v, h.ext hh.2, fun hh => by omega⟩
  · have := raw5_spec h person item now e.nowOk e.born
    rw [e.fresh] at this
    exact this.mono fun r w' hh => ⟨hh.1, Mod.of_ext hh.2, v, h.ext hh.2, fun hh => by omega⟩
  · omega
/-- Weights, held within their bounds. -/
def clampW (n : Int) : Int := min (max n 0) 1000
def ptsF (F a : Nat → Int) (n : Nat) : List Pt := (List.range n).map fun (k : Nat) => ((k : Int), F k, IntKind.i64.wrap (F k * clampW (a k)))
theorem ptsF_snoc (F a : Nat → Int) (n : Nat) : ptsF F a (n + 1) = ptsF F a n ++ [((n : Int), F n, IntKind.i64.wrap (F n * clampW (a n)))] := by
  unfold ptsF; rw [List.range_succ, List.map_append]; rfl
theorem ptsF_len (F a : Nat → Int) (n : Nat) : (ptsF F a n).length = n := by simp [ptsF]
def wsV (a : Nat → Int) : Value := .agg #[.int .i64 (a 0), .int .i64 (a 1), .int .i64 (a 2), .int .i64 (a 3), .int .i64 (a 4), .int .i64 (a 5)]
/-- The six parts of a score, whatever the raw points are. -/
theorem sof_spec (F a : Nat → Int) (J : Nat → (Nat → Prop) → World → Prop) (T0 : Nat → Prop) (p : Nat) (person item : ByteArray) (now : Int) (w : World) (hJ : J 0 T0 w) (hJlt : ∀ k T w1, J k T w1 → ∀ b, T b → b < w1.heap.size) (hJk : ∀ k T w1 w2, J k T w1 → Mod (fun b => ¬ T b ∧ w.heap.size ≤ b) w1 w2 → J k T w2)
    (hraw : ∀ k, k < 6 → ∀ T w1, J k T w1 → Cal Tryz.prog 18 [.pointer (some ⟨p, 0, none⟩), .int .i64 (k : Nat), .string person, .string item, .int .i64 now] w1 fun r w' => r = .int .i64 (F k) ∧ Mod T w1 w' ∧ ∃ T', J (k + 1) T' w' ∧ ∀ b, T' b → T b ∨ w1.heap.size ≤ b) :
    Cal Tryz.prog 21 [.pointer (some ⟨p, 0, none⟩), wsV a, .string person, .string item, .int .i64 now] w fun r w' => ∃ A cap T, r = .tuple #[.slice A 6 cap, .int .i64 (totL (ptsF F a 6))] ∧ Own ptC 3 42 w.heap.size w' A cap (ptsF F a 6) ∧ J 6 T w' ∧ (∀ b, T b → T0 b ∨ w.heap.size ≤ b) ∧ (∀ a, A = some a → ¬ T a.block) ∧ Mod T0 w w' := by
  refine fn_intro Tt_ok Tryz.func21 (by rfl) rfl _ rfl rfl (by rfl) ?_; (conv => whnf)
  intro b1 w1 hn1; (conv => whnf)
  refine ⟨_, ⟨rfl, hn1.At.all⟩, ?_⟩; (conv => whnf)
  refine loop_rule Tt_ok (fun (q : Nat × Option Addr × Nat × List Pt) w' => q.1 ≤ 6 ∧ q.2.2.2 = ptsF F a q.1 ∧ (∃ T, J q.1 T w' ∧ (∀ b, T b → T0 b ∨ w.heap.size ≤ b) ∧ ∀ a, q.2.1 = some a → ¬ T a.block) ∧ Mod T0 w w' ∧ Own ptC 3 42 w.heap.size w' q.2.1 q.2.2.1 q.2.2.2)
    (fun | (k, A, cap, T) => [(0, .pointer (some ⟨p, 0, none⟩)), (2, .string person), (3, .string item), (4, .int .i64 now), (16, wsV a), (17, .int .i64 k), (12, .slice A T.length cap)]) (fun q => 6 - q.1) (0, none, 0, []) ⟨by simp, rfl, ⟨T0, hJk _ _ _ _ hJ (Mod.of_ext hn1.ext), fun b hb => .inl hb, by simp⟩, Mod.of_ext hn1.ext, Own.nil⟩ ⟨rfl, rfl, rfl, rfl, rfl, rfl, rfl, trivial⟩ ?_
  rintro ⟨k, A, cap, Q⟩ w2 ⟨hk, hT, ⟨T, hJ2, hT0, hTA⟩, hM, hown⟩
  simp only at hk hT hJ2 hown hTA
  have hlen : Q.length = k := by rw [hT, ptsF_len]
  (conv => whnf)
  constructor
  · intro hlt
    have hlt : k < 6 := by
      have : (k : Int) < 6 := by simpa using hlt
      omega
    have hst := ptsF_snoc F a k
    rw [← hT] at hst
    (conv => whnf)
    refine ⟨.int .i64 (a k), arr_index1 Tryz.underlying37 Tryz.isAgg3 Tryz.sizeOf3 hlt (by rcases k with _ | _ | _ | _ | _ | _ | k <;> first | rfl | omega), ?_⟩; (conv => whnf)
    refine (hraw k hlt T w2 hJ2).mono ?_
    rintro _ w3 ⟨rfl, hM3, T3, hJ3, hT3⟩
    have hown3 := hown.keep (w' := w3) fun a ha => hM3.block a.block (hown.block ha).2 (hTA a ha)
    generalize F k = n at hst ⊢
    generalize a k = m at hst ⊢
    have s2 := hM.size
    have s3 := hM3.size
    (conv => whnf)
    refine ⟨_, rfl, ?_⟩; (conv => whnf)
    intro b4 w4 hn4; (conv => whnf)
    have s4 := hn4.ext.size
    have hJ4 := hJk _ _ _ _ hJ3 (Mod.of_ext hn4.ext)
    refine append_row rowPt (l := Q) (news := [((k : Int), n, IntKind.i64.wrap (n * clampW m))]) rfl (hown3.ext hn4.ext) rfl (rowPt.new1 (x := ((k : Int), n, IntKind.i64.wrap (n * clampW m))) hn4) (by simp; omega) (by omega) fun A5 c5 w5 hown5 hg5 hA5 => ?_
    have hA3 : ∀ a, A = some a → ¬ T3 a.block := fun a ha h3 => by
      rcases hT3 _ h3 with h3 | h3
      · exact hTA a ha h3
      · have := (hown.block ha).2; omega
    have hJ5 : J (k + 1) T3 w5 := hJk _ _ _ _ hJ4 (mod_grown hg5 fun b hb => by
      cases A with
      | none => simp at hb
      | some x => simp at hb; rw [← hb]; exact ⟨hA3 x rfl, (hown.block rfl).1⟩)
    have hM5 : Mod T0 w w5 := by
      refine mod_trans_grow (mod_trans_grow hM (hM3.mono fun b _ hb => hT0 b hb)) ?_
      exact (Mod.of_ext hn4.ext).trans (mod_grown hg5 fun b hb => .inr (own_ge hown b hb))
    have hA5 : ∀ a, A5 = some a → ¬ T3 a.block := by
      intro x hx h3
      have hlt5 := hJlt _ _ _ hJ4 _ h3
      subst hx
      rcases hA5 with h | h | h
      · exact hA3 x h.symm h3
      · cases A with
        | none => simp at h
        | some y => simp at h; rw [h] at h3; exact hA3 y rfl h3
      · simp at h; omega
    generalize hT1 : Q ++ [((k : Int), n, IntKind.i64.wrap (n * clampW m))] = Q1 at hown5 hst ⊢
    (conv => whnf)
    refine ⟨((k + 1 : Nat) : Int), wrap_succ (by omega), ?_⟩; (conv => whnf)
    refine ⟨(k + 1, A5, c5, Q1), by simp only; omega, ⟨by simp only; omega, hst.symm, ⟨T3, hJ5, fun b hb => ?_, hA5⟩, hM5, hown5⟩, ⟨rfl, rfl, rfl, rfl, rfl, rfl, rfl, trivial⟩⟩
    rcases hT3 b hb with h | h
    · exact hT0 b h
    · exact .inr (by omega)
  · intro hge
    have hge : k = 6 := by
      have : ¬ (k : Int) < 6 := by simpa using hge
      omega
    subst hge
    rw [← hT]
    have h6 : (.slice A 6 cap : Value) = .slice A Q.length cap := by rw [hlen]
    (conv => whnf)
    refine (total_spec Q A cap w2 (hown.sl ptC_len) (by omega)).mono ?_
    rintro _ w3 ⟨rfl, hx3⟩; (conv => whnf)
    exact ⟨A, cap, T, by rw [h6], hown.ext hx3, hJk _ _ _ _ hJ2 (Mod.of_ext hx3), hT0, hTA, hM.trans (Mod.of_ext hx3)⟩
end Go.Proofs.YtoancknoinilaaaGreatDoor
