import Derived.Test.YtoancknoinilaaaGreatDoorHRd2
import Derived.Test.YtoancknoinilaaaGreatDoorHRd3

/- The world whose pairs may be counted: its parts; pairs of no sessions. -/
set_option linter.unusedVariables false
set_option linter.unusedSimpArgs false
namespace Go.Proofs.YtoancknoinilaaaGreatDoor
open Go.Se Go.RowKit

theorem eqRun_ptr_nil' {P : Program} {t : TypeId} (h : P.underlying t = some (.pointer (P.pointee t))) (p : Option Addr) (ox oy : Operand) : EqRun P t ox oy (.pointer p) (.pointer none) p.isNone := by
  intro w
  have h1 := run_equal_pointer_nil (P := P) w t p h
  constructor
  · simp [eqGuard, binOp, h1]
  · simp [eqGuard, binOp, h1]
theorem map_len {κ : Type} {enc : κ → Value} {P : Program} {w : World} {b : Nat} {L : List (κ × Value)} {mt kt et : TypeId} (ht : P.underlying mt = some (.map kt et)) {cl : Cl} (hk : Kept cl w b) (hm : MapAt w b enc L) :
    RdS P cl w (Builtin.len_ #[mt] 0 #[.map (some b)]) (.int .i64 (L.length : Int)) := fun w' hw => by
  obtain ⟨E, c, hE, rfl⟩ := hm.keep (hk w' hw)
  simp [Builtin.len_, run_underlying ht, run_gobj hE.block, strip, goInt]

def wCv (c : Cfg) (A : Option Addr) (n cap : Nat) (any : Bool) (last : Ev) (q : WP) (v : Value) : List Value :=
  [vi c.half, vi c.width, vi c.gap, vi c.span, vi c.floor, vi c.crowd, .slice A n cap, .bool any,
   .string last.src, .int .i64 last.num, .int .i64 last.at_, .int .i64 last.kind, .string last.person, .string last.item, .int .i64 last.val, .string last.text,
   .map (some q.ba), .map (some q.bf), .pointer (some ⟨q.pc, 0, none⟩), .pointer (some ⟨q.pw, 0, none⟩), .pointer (some ⟨q.pd, 0, none⟩), .pointer (some ⟨q.pp, 0, none⟩), .pointer (some ⟨q.ps, 0, none⟩), v]
/-- Where the parts of a world lie. -/
structure WQL (w : World) (T : Nat → Prop) (p : Nat) (c : Cfg) (z : List Ev) (v : Value) (col : Nat → Nat) (q : WP) (A : Option Addr) (n cap : Nat) (any : Bool) (last : Ev) : Prop where
  head : At w p 92 (wCv c A n cap any last q v)
  cts : CtsAt w col c q (countAll c.width z)
  colp : col p = 6
  tset : ∀ k, col k ≠ 0 → T k
  tlt : ∀ k, T k → k < w.heap.size
/-- A world of the counted events z; v is what its field pairs holds. -/
structure WQ (w : World) (T : Nat → Prop) (p : Nat) (c : Cfg) (z : List Ev) (v : Value) : Prop where
  at_ : ∃ col q A n cap any last, WQL w T p c z v col q A n cap any last
  may : ∀ x ∈ z, mayB x = true
  rise : Rise z
  len : z.length < 1000000
theorem WV.q {w : World} {base p : Nat} {c : Cfg} {z : List Ev} (h : WV w base p c z) : ∃ T, WQ w T p c z (.pointer none) ∧ ∀ k, T k → base ≤ k := by
  obtain ⟨col, q, A, cap, hL⟩ := h.at_
  have hc := hL.cts
  rw [(ofW_es c.width z).2] at hc
  have hp := hL.head.lt
  refine ⟨fun k => (if k < w.heap.size then col k else 0) ≠ 0, ⟨⟨fun k => if k < w.heap.size then col k else 0, q, A, _, cap, _, _, hL.head, hc.keep fun k hk _ => ⟨rfl, if_pos hk⟩, by rw [if_pos hp]; exact hL.cols.1, fun k hk => hk, fun k hk => ?_⟩, h.may, h.rise, h.len⟩, fun k hk => ?_⟩
  · by_cases h1 : k < w.heap.size
    · exact h1
    · exact absurd (if_neg h1) hk
  · by_cases h1 : k < w.heap.size
    · simp only [if_pos h1] at hk
      exact hL.low.2 k hk
    · exact absurd (if_neg h1) hk
theorem WQ.keep {w w1 : World} {T : Nat → Prop} {p : Nat} {c : Cfg} {z : List Ev} {v : Value} (h : WQ w T p c z v) (hx : ∀ k, T k → w1.heap[k]? = w.heap[k]?) : WQ w1 T p c z v := by
  obtain ⟨⟨col, q, A, n, cap, any, last, hL⟩, h1, h2, h3⟩ := h
  exact ⟨⟨col, q, A, n, cap, any, last, (hx p (hL.tset p (by rw [hL.colp]; decide))).trans hL.head, hL.cts.keep fun k hk hc => ⟨hx k (hL.tset k (by omega)), rfl⟩, hL.colp, hL.tset, fun k hk => lt_keep (hL.tlt k hk) (hx k hk)⟩, h1, h2, h3⟩
theorem WQ.lt {w : World} {T : Nat → Prop} {p : Nat} {c : Cfg} {z : List Ev} {v : Value} (h : WQ w T p c z v) : ∀ k, T k → k < w.heap.size := by
  obtain ⟨⟨col, q, A, n, cap, any, last, hL⟩, h1, h2, h3⟩ := h
  exact hL.tlt
theorem WQ.tp {w : World} {T : Nat → Prop} {p : Nat} {c : Cfg} {z : List Ev} {v : Value} (h : WQ w T p c z v) : T p := by
  obtain ⟨⟨col, q, A, n, cap, any, last, hL⟩, h1, h2, h3⟩ := h
  exact hL.tset p (by rw [hL.colp]; decide)
theorem WQ.ext {w w1 : World} {T : Nat → Prop} {p : Nat} {c : Cfg} {z : List Ev} {v : Value} (h : WQ w T p c z v) (hx : Ext w w1) : WQ w1 T p c z v := by
  exact h.keep fun k hk => hx.block k (h.lt k hk)
theorem WQL.set {w w1 : World} {T : Nat → Prop} {p : Nat} {c : Cfg} {z : List Ev} {v v1 : Value} {col : Nat → Nat} {q : WP} {A : Option Addr} {n cap : Nat} {any : Bool} {last : Ev} (h : WQL w T p c z v col q A n cap any last) (ho : Only w w1 p) (hh : At w1 p 92 (wCv c A n cap any last q v1)) : WQL w1 T p c z v1 col q A n cap any last :=
  ⟨hh, h.cts.keep fun k _ hk => ⟨ho.block k (fun e => by have := h.colp; rw [← e] at this; omega), rfl⟩, h.colp, h.tset, fun k hk => by rw [ho.size]; exact h.tlt k hk⟩
theorem WQL.keep {w w1 : World} {T : Nat → Prop} {p : Nat} {c : Cfg} {z : List Ev} {v : Value} {col : Nat → Nat} {q : WP} {A : Option Addr} {n cap : Nat} {any : Bool} {last : Ev} (h : WQL w T p c z v col q A n cap any last) (hx : ∀ k, k < w.heap.size → w1.heap[k]? = w.heap[k]?) : WQL w1 T p c z v col q A n cap any last :=
  ⟨(hx p h.head.lt).trans h.head, h.cts.keep fun k hk _ => ⟨hx k hk, rfl⟩, h.colp, h.tset, fun k hk => lt_keep (h.tlt k hk) (hx k (h.tlt k hk))⟩
theorem WQ.rows {w : World} {T : Nat → Prop} {p : Nat} {c : Cfg} {z : List Ev} {v : Value} (h : WQ w T p c z v) {name : ByteArray} : (catRows (thingsE z) name).length < 1000000000000 := by
  have h1 := (catRows_bounds (thingsE z) (fun e he => h.may e ((List.mem_filter.1 he).1)) name).1
  have h2 := List.length_filter_le thB z
  have h3 := h.len
  unfold thingsE at *
  omega
theorem qcatalog_spec {w : World} {T : Nat → Prop} {p : Nat} {c : Cfg} {z : List Ev} {v : Value} (h : WQ w T p c z v) :
    Cal Tryz.prog 111 [.pointer (some ⟨p, 0, none⟩)] w fun r w' => ∃ pc S, r = .pointer (some ⟨pc, 0, none⟩) ∧ CatAt w' S pc (thingsE z) ∧ Ext w w' := by
  obtain ⟨col, q, A, n, cap, any, last, hL⟩ := h.at_
  have hc := hL.cts.cat
  rw [(count_parts c.width z).1] at hc
  refine fn_intro Tt_ok Tryz.func111 (by rfl) rfl _ rfl rfl (by rfl) ?_; (conv => whnf)
  refine ⟨_, hL.head.one rfl, ?_⟩; (conv => whnf)
  exact ⟨q.pc, _, rfl, hc, Ext.refl _⟩
theorem qcrowd_spec {w : World} {T : Nat → Prop} {p : Nat} {c : Cfg} {z : List Ev} {v : Value} (h : WQ w T p c z v) :
    Cal Tryz.prog 34 [.pointer (some ⟨p, 0, none⟩)] w fun r w' => ∃ pw S, r = .pointer (some ⟨pw, 0, none⟩) ∧ CrowdAt w' S pw (halfN c.half) (countAll c.width z).rs ∧ Ext w w' := by
  obtain ⟨col, q, A, n, cap, any, last, hL⟩ := h.at_
  have hc := hL.cts.crowd
  refine fn_intro Tt_ok Tryz.func34 (by rfl) rfl _ rfl rfl (by rfl) ?_; (conv => whnf)
  refine ⟨_, hL.head.one rfl, ?_⟩; (conv => whnf)
  exact ⟨q.pw, _, rfl, hc, Ext.refl _⟩
theorem qpopular_spec {w : World} {T : Nat → Prop} {p : Nat} {c : Cfg} {z : List Ev} {v : Value} (h : WQ w T p c z v) :
    Cal Tryz.prog 157 [.pointer (some ⟨p, 0, none⟩)] w fun r w' => ∃ pd S, r = .pointer (some ⟨pd, 0, none⟩) ∧ CtAt w' S pd (halfN c.half) (countAll c.width z).dn (countAll c.width z).ds ∧ Ext w w' := by
  obtain ⟨col, q, A, n, cap, any, last, hL⟩ := h.at_
  have hc := hL.cts.dec
  refine fn_intro Tt_ok Tryz.func157 (by rfl) rfl _ rfl rfl (by rfl) ?_; (conv => whnf)
  refine ⟨_, hL.head.one rfl, ?_⟩; (conv => whnf)
  exact ⟨q.pd, _, rfl, hc, Ext.refl _⟩
theorem qpanes_spec {w : World} {T : Nat → Prop} {p : Nat} {c : Cfg} {z : List Ev} {v : Value} (h : WQ w T p c z v) :
    Cal Tryz.prog 163 [.pointer (some ⟨p, 0, none⟩)] w fun r w' => ∃ pp S, r = .pointer (some ⟨pp, 0, none⟩) ∧ PaAt w' S pp (halfN c.width) (countAll c.width z).pn (countAll c.width z).ps ∧ Ext w w' := by
  obtain ⟨col, q, A, n, cap, any, last, hL⟩ := h.at_
  have hc := hL.cts.pane
  refine fn_intro Tt_ok Tryz.func163 (by rfl) rfl _ rfl rfl (by rfl) ?_; (conv => whnf)
  refine ⟨_, hL.head.one rfl, ?_⟩; (conv => whnf)
  exact ⟨q.pp, _, rfl, hc, Ext.refl _⟩
theorem qconfig_spec {w : World} {T : Nat → Prop} {p : Nat} {c : Cfg} {z : List Ev} {v : Value} (h : WQ w T p c z v) :
    Cal Tryz.prog 66 [.pointer (some ⟨p, 0, none⟩)] w fun r w' => r = cfgV c ∧ Ext w w' := by
  obtain ⟨col, q, A, n, cap, any, last, hL⟩ := h.at_
  have hh : At w p 92 ([] ++ (cfgC c ++ (wCv c A n cap any last q v).drop 6)) := hL.head
  refine fn_intro Tt_ok Tryz.func66 (by rfl) rfl _ rfl rfl (by rfl) ?_; (conv => whnf)
  intro b1 w1 hn1; (conv => whnf)
  refine ⟨cfgC c, ⟨rfl, At.sub (hh.ext hn1.ext)⟩, ?_⟩; (conv => whnf)
  refine store_ptr Tt_ok (e := ty23) rfl hn1.At rfl rfl rfl (by simp [cellsL, cfgC, Value.oneCell']) fun w2 h2 ho2 => ?_
  have e1 := hn1.block
  (conv => whnf)
  refine ⟨cfgC c, ⟨rfl, h2.all⟩, ?_⟩; (conv => whnf)
  exact ⟨rfl, ho2.ext hn1.ext (by omega)⟩

theorem newTable_spec (w : World) : Cal Tryz.prog 226 [] w fun r w' => ∃ t b1 b2, r = .pointer (some ⟨t, 0, none⟩) ∧ w.heap.size ≤ t ∧ At w' t 310 [.map (some b1), .map (some b2)] ∧ MapAt w' b1 Value.string [] ∧ MapAt w' b2 Value.string [] ∧ Ext w w' := by
  refine fn_intro Tt_ok Tryz.func226 (by rfl) rfl _ rfl rfl (by rfl) ?_; (conv => whnf)
  intro b1 w1 hn1; (conv => whnf)
  intro b2 w2 hn2; (conv => whnf)
  intro b3 w3 hn3; (conv => whnf)
  have e3 := hn3.block; have s1 := hn1.size; have s2 := hn2.size
  exact ⟨b3, b1, b2, rfl, by omega, hn3.At, ((MapAt.new hn1).ext hn2.ext).ext hn3.ext, (MapAt.new hn2).ext hn3.ext, (hn1.ext.trans hn2.ext).trans hn3.ext⟩
theorem pairsNew_spec (w : World) : Cal Tryz.prog 180 [] w fun r w' => ∃ p t b1 b2, r = .pointer (some ⟨p, 0, none⟩) ∧ w.heap.size ≤ p ∧ w.heap.size ≤ t ∧ At w' p 307 [.pointer (some ⟨t, 0, none⟩), .bool false] ∧ At w' t 310 [.map (some b1), .map (some b2)] ∧ MapAt w' b1 Value.string [] ∧ MapAt w' b2 Value.string [] ∧ Ext w w' := by
  refine fn_intro Tt_ok Tryz.func180 (by rfl) rfl _ rfl rfl (by rfl) ?_; (conv => whnf)
  refine (newTable_spec w).mono ?_
  rintro _ w1 ⟨t, b1, b2, rfl, ht, hat, hm1, hm2, hx1⟩; (conv => whnf)
  intro b3 w3 hn3; (conv => whnf)
  have e3 := hn3.block; have s1 := hx1.size
  exact ⟨b3, t, b1, b2, rfl, by omega, ht, hn3.At, hat.ext hn3.ext, hm1.ext hn3.ext, hm2.ext hn3.ext, hx1.trans hn3.ext⟩
theorem undSIx : Tryz.prog.underlying 126 = some (.map 9 3) := by kernel_rfl
theorem undPP : Tryz.prog.underlying 90 = some (.pointer (Tryz.prog.pointee 90)) := by kernel_rfl
/-- Merge into pairs without things: the table is shared. -/
theorem merge0_spec (w : World) (a o ta to_ b1 b2 : Nat) (sa so : Bool) (hao : a ≠ o) (ha : At w a 307 [.pointer (some ⟨ta, 0, none⟩), .bool sa]) (hta : At w ta 310 [.map (some b1), .map (some b2)]) (hm : MapAt w b1 Value.string []) (ho : At w o 307 [.pointer (some ⟨to_, 0, none⟩), .bool so]) :
    Cal Tryz.prog 181 [.pointer (some ⟨a, 0, none⟩), .pointer (some ⟨o, 0, none⟩)] w fun r w' => r = .tuple #[] ∧ At w' a 307 [.pointer (some ⟨to_, 0, none⟩), .bool true] ∧ At w' o 307 [.pointer (some ⟨to_, 0, none⟩), .bool true] ∧ Mod (fun k => k = a ∨ k = o) w w' := by
  refine fn_intro Tt_ok Tryz.func181 (by rfl) rfl _ rfl rfl (by rfl) ?_; (conv => whnf)
  refine ⟨_, eqRun_ptr_nil' undPP _ _ _, ?_⟩; (conv => whnf)
  constructor
  · intro h; cases h
  intro _
  (conv => whnf)
  refine ⟨_, ha.one rfl, ?_⟩; (conv => whnf)
  refine ⟨_, hta.one rfl, ?_⟩; (conv => whnf)
  refine ⟨_, map_len undSIx kept_same hm, ?_⟩; (conv => whnf)
  constructor
  · intro _
    (conv => whnf)
    refine ⟨_, ho.one rfl, ?_⟩; (conv => whnf)
    refine store_ptr Tt_ok (e := ty304) rfl ha rfl rfl rfl (by simp [cellsL, Value.oneCell']) fun w1 h1 ho1 => ?_; (conv => whnf)
    refine store_ptr Tt_ok (e := ty4) rfl h1 rfl rfl rfl (by simp [cellsL, Value.oneCell']) fun w2 h2 ho2 => ?_; (conv => whnf)
    have ho3 : At w2 o 307 [.pointer (some ⟨to_, 0, none⟩), .bool so] := (ho2.block o (Ne.symm hao)).trans ((ho1.block o (Ne.symm hao)).trans ho)
    refine store_ptr Tt_ok (e := ty4) rfl ho3 rfl rfl rfl (by simp [cellsL, Value.oneCell']) fun w3 h3 ho3 => ?_; (conv => whnf)
    exact ⟨rfl, (ho3.block a hao).trans h2, h3, ((mod_only ho1 (.inl rfl)).trans (mod_only ho2 (.inl rfl))).trans (mod_only ho3 (.inr rfl))⟩
  · intro h; simp at h
theorem own_none {α : Type} {enc : α → List Value} {sz : Nat} {te : TypeId} {base : Nat} {w : World} {A : Option Addr} {c : Nat} (_h : Own enc sz te base w A c ([] : List α)) : True := trivial
/-- All sessions, where there are none. -/
theorem seAll0_spec (w : World) (S : Nat → Prop) (p : Nat) (gap : Int) (h : SeAt w S p gap []) :
    Cal Tryz.prog 179 [.pointer (some ⟨p, 0, none⟩)] w fun r w' => r = .slice none 0 0 ∧ Ext w w' := by
  obtain ⟨bm, h⟩ := h
  obtain ⟨L, col, hL⟩ := h.sums
  have hL0 : L = [] := by simpa using hL.eq
  subst hL0
  have hm := hL.map
  refine fn_intro Tt_ok Tryz.func179 (by rfl) rfl _ rfl rfl (by rfl) ?_; (conv => whnf)
  refine ⟨_, h.head.one rfl, ?_⟩; (conv => whnf)
  refine (keysP_spec (some bm) w).mono ?_
  rintro _ w1 ⟨rfl, hc1, hx1⟩; (conv => whnf)
  refine (sortedP_spec hc1 (hm.ext hx1) (by simp) (by simp)).mono ?_
  rintro _ w2 ⟨A, c, rfl, ho, hx2⟩
  simp only [List.map_nil, sortT_nil, List.length_nil] at ho ⊢
  (conv => whnf)
  refine loop_rule Tt_ok (fun (_ : Unit) w' => w' = w2) (fun _ => [(12, .int .i64 0), (13, .int .i64 0), (3, .slice none 0 0)]) (fun _ => 0) () rfl ⟨rfl, rfl, rfl, trivial⟩ ?_
  rintro _ w3 rfl
  (conv => whnf)
  constructor
  · intro hh; simp at hh
  intro _
  (conv => whnf)
  exact ⟨rfl, hx1.trans hx2⟩
/-- Pairs of no sessions. -/
theorem pairsOf0_spec (w : World) : Cal Tryz.prog 178 [.slice none 0 0] w fun r w' => ∃ p t b1 b2, r = .pointer (some ⟨p, 0, none⟩) ∧ w.heap.size ≤ p ∧ w.heap.size ≤ t ∧ At w' p 307 [.pointer (some ⟨t, 0, none⟩), .bool false] ∧ At w' t 310 [.map (some b1), .map (some b2)] ∧ MapAt w' b1 Value.string [] ∧ MapAt w' b2 Value.string [] ∧ Ext w w' := by
  refine fn_intro Tt_ok Tryz.func178 (by rfl) rfl _ rfl rfl (by rfl) ?_; (conv => whnf)
  refine (pairsNew_spec w).mono ?_
  rintro _ w1 ⟨p, t, b1, b2, rfl, hp⟩; (conv => whnf)
  refine loop_rule Tt_ok (fun (_ : Unit) w' => w' = w1) (fun _ => [(8, .int .i64 0), (9, .int .i64 0), (3, .pointer (some ⟨p, 0, none⟩))]) (fun _ => 0) () rfl ⟨rfl, rfl, rfl, trivial⟩ ?_
  rintro _ w3 rfl
  (conv => whnf)
  constructor
  · intro hh; simp at hh
  intro _
  (conv => whnf)
  exact ⟨p, t, b1, b2, rfl, hp⟩
/-- The pairs of a world without sessions. -/
theorem qpairs0_spec {w : World} {T : Nat → Prop} {p : Nat} {c : Cfg} {z : List Ev} (h : WQ w T p c z (.pointer none)) (h0 : (countAll c.width z).ss = []) :
    Cal Tryz.prog 114 [.pointer (some ⟨p, 0, none⟩)] w fun r w' => ∃ pp v, r = .pointer (some ⟨pp, 0, none⟩) ∧ WQ w' T p c z v ∧ Mod (fun k => k = p) w w' := by
  obtain ⟨col, q, A, n, cap, any, last, hL⟩ := h.at_
  have hs := hL.cts.ses
  rw [h0] at hs
  have hplt := hL.head.lt
  refine fn_intro Tt_ok Tryz.func114 (by rfl) rfl _ rfl rfl (by rfl) ?_; (conv => whnf)
  repeat (refine seq_go Tt_ok ?_; (conv => whnf))
  refine ⟨_, hL.head.one rfl, ?_⟩; (conv => whnf)
  refine ⟨_, eqRun_ptr_nil' undPP _ _ _, ?_⟩; (conv => whnf)
  constructor
  · intro _
    (conv => whnf)
    refine ⟨_, hL.head.one rfl, ?_⟩; (conv => whnf)
    refine (seAll0_spec w _ q.ps _ hs).mono ?_
    rintro _ w1 ⟨rfl, hx1⟩; (conv => whnf)
    refine (pairsOf0_spec w1).mono ?_
    rintro _ w2 ⟨o, to_, b1, b2, rfl, hog, htg, hoat, htat, hm1, hm2, hx2⟩; (conv => whnf)
    have hL2 := hL.keep fun k hk => (hx1.trans hx2).block k hk
    refine store_ptr Tt_ok (e := ty90) rfl hL2.head rfl rfl rfl (by simp [cellsL, Value.oneCell']) fun w3 h3 ho3 => ?_
    have hL3 := hL2.set (v1 := .pointer (some ⟨o, 0, none⟩)) ho3 h3
    have s1 := hx1.size
    have hop : o ≠ p := by omega
    have hoat3 := (ho3.block o hop).trans hoat
    have hM3 : Mod (fun k => k = p) w w3 := (Mod.of_ext (hx1.trans hx2)).trans (mod_only ho3 rfl)
    have hog3 : w.heap.size ≤ o := by omega
    have hol3 : o < w3.heap.size := by rw [ho3.size]; exact hoat.lt
    clear hL2 h3 ho3 hoat htat hm1 hm2
    (conv => whnf)
    refine (pairsNew_spec w3).mono ?_
    rintro _ w4 ⟨a, ta, c1, c2, rfl, hag, htag, haat, htaat, hn1, hn2, hx4⟩; (conv => whnf)
    have hL4 := hL3.keep fun k hk => hx4.block k hk
    refine ⟨_, hL4.head.one rfl, ?_⟩; (conv => whnf)
    refine (merge0_spec w4 a o ta to_ c1 c2 false false (by omega) haat htaat hn1 ((hx4.block o hol3).trans hoat3)).mono ?_
    rintro _ w5 ⟨rfl, ha5, ho5, hm5⟩; (conv => whnf)
    have s3 := hM3.size
    have hM5 : Mod (fun k => k = p) w w5 := mod_trans_grow (hM3.trans (Mod.of_ext hx4)) (hm5.mono fun k _ hk => .inr (by rcases hk with rfl | rfl <;> omega))
    refine ⟨a, .pointer (some ⟨o, 0, none⟩), rfl, ⟨⟨col, q, A, n, cap, any, last, ?_, ?_, hL.colp, hL.tset, fun k hk => Nat.lt_of_lt_of_le (hL.tlt k hk) hM5.size⟩, h.may, h.rise, h.len⟩, hM5⟩
    · exact hL4.head.mod hm5 (by rintro (e | e) <;> omega)
    · exact hL.cts.keep fun k hk hc => ⟨hM5.block k hk (fun e => by have := hL.colp; rw [← e] at this; omega), rfl⟩
  · intro hh; cases hh
end Go.Proofs.YtoancknoinilaaaGreatDoor
