import Derived.Test.YtoancknoinilaaaGreatDoorHSc1
import Derived.Test.YtoancknoinilaaaGreatDoorHSfCount
import Derived.Test.YtoancknoinilaaaGreatDoorHSfRise

/- Where nobody did anything: taste, makers, rises. -/
set_option linter.unusedVariables false
set_option linter.unusedSimpArgs false
namespace Go.Proofs.YtoancknoinilaaaGreatDoor
open Go.Se Go.RowKit
open Go.Maps Go.Sort Go.Shelf

theorem sortStr0_spec (w : World) (A : Option Addr) (c : Nat) : Cal Tryz.prog 250 [.slice A 0 c] w fun r w' => r = .tuple #[] ∧ w' = w :=
  cal_of ⟨_, Tryz.func250, rfl, rfl⟩ (AnyM.slices_Sort_string_none Tryz.sort250 A c w) fun w' hw => ⟨rfl, hw⟩
theorem sortCount0_spec (w : World) (A : Option Addr) (c : Nat) (fv : Value) : Cal Tryz.prog 207 [.slice A 0 c, fv] w fun r w' => r = .tuple #[] ∧ w' = w :=
  cal_of ⟨_, Tryz.func207, rfl, rfl⟩ (AnyF.slices_SortFunc_none Tryz.sortCount A c fv w) fun w' hw => ⟨rfl, hw⟩
theorem sortRise0_spec (w : World) (A : Option Addr) (c : Nat) (fv : Value) : Cal Tryz.prog 217 [.slice A 0 c, fv] w fun r w' => r = .tuple #[] ∧ w' = w :=
  cal_of ⟨_, Tryz.func217, rfl, rfl⟩ (AnyF.slices_SortFunc_none Tryz.sortRise A c fv w) fun w' hw => ⟨rfl, hw⟩
theorem undSI64 : Tryz.prog.underlying 282 = some (.map 9 2) := by kernel_rfl
theorem deeds0 {w : World} {S : Nat → Prop} {p : Nat} {half : Int} {bp : Nat} {b : CwB} {D : List (Ev × SV)} {L : List (ByteArray × (Option Addr × Nat))} {R Tg : Nat → Prop} (h : CrowdL w S p half [] bp b D L R Tg) (person : ByteArray) : deedsOf D person = [] := by
  have hD : D = [] := by
    have := h.tags.len
    simpa using this
  rw [hD]; rfl
/-- The taste of anybody, where nobody did anything. -/
theorem taste0_spec (w : World) (S : Nat → Prop) (p : Nat) (half : Int) (h : CrowdAt w S p half []) (person : ByteArray) (now : Int) :
    Cal Tryz.prog 159 [.pointer (some ⟨p, 0, none⟩), .string person, .int .i64 now] w fun r w' => r = .slice none 0 0 ∧ Ext w w' := by
  obtain ⟨bp, b, D, L, R, Tg, h⟩ := h
  have hd := deeds0 h person
  refine fn_intro Tt_ok Tryz.func159 (by rfl) rfl _ rfl rfl (by rfl) ?_; (conv => whnf)
  intro b1 w1 hn1; (conv => whnf)
  have hm1 : MapAt w1 b1 Value.string [] := MapAt.new hn1
  have hx1 := hn1.ext
  refine ⟨.map (some bp), (h.head.ext hx1).one rfl, ?_⟩; (conv => whnf)
  have hrows := h.rows.look undPeople undStr (e := ty129) ty129_ok rfl person (cl := .ext) (kept_ext h.rows.map.lt)
  rw [hd] at hrows
  refine ⟨_, fun w' hw => (by cases hw; exact hrows w1 hx1), ?_⟩; (conv => whnf)
  refine loop_rule Tt_ok (fun (_ : Unit) w' => w' = w1) (fun _ => [(23, .int .i64 0), (24, .int .i64 0), (7, .map (some b1))]) (fun _ => 0) () rfl ⟨rfl, rfl, rfl, trivial⟩ ?_
  rintro _ w2 rfl
  (conv => whnf)
  constructor
  · intro hh; simp at hh
  intro _
  (conv => whnf)
  refine map_range undSI64 hm1 fun w3 hi3 hx3 => ?_
  generalize w2.heap.size = r at hi3 ⊢
  (conv => whnf)
  refine loop_rule Tt_ok (fun (_ : Unit) w' => w' = w3) (fun _ => [(62, .pointer (some ⟨r, 0, none⟩)), (13, .slice none 0 0)]) (fun _ => 0) () rfl ⟨rfl, rfl, trivial⟩ ?_
  rintro _ w4 rfl
  (conv => whnf)
  refine map_step hi3 (fun hp => ?_) (fun x w5 hin hnew hlt hi5 ho5 hen => ?_)
  · (conv => whnf)
    constructor
    · intro hh; cases hh
    intro _
    (conv => whnf)
    refine (sortCount0_spec w4 none 0 _).mono ?_
    rintro _ _ ⟨rfl, rfl⟩
    (conv => whnf)
    exact ⟨rfl, hx1.trans hx3⟩
  · simp at hin
/-- Whom anybody follows, where nobody did anything. -/
theorem makers0_spec (w : World) (S : Nat → Prop) (p : Nat) (half : Int) (h : CrowdAt w S p half []) (person : ByteArray) (kind : Int) (mb : Value) :
    Cal Tryz.prog 219 [.pointer (some ⟨p, 0, none⟩), .string person, .int .i64 kind, mb] w fun r w' => (∃ A c, r = .slice A 0 c) ∧ Ext w w' := by
  obtain ⟨bp, b, D, L, R, Tg, h⟩ := h
  have hd := deeds0 h person
  refine fn_intro Tt_ok Tryz.func219 (by rfl) rfl _ rfl rfl (by rfl) ?_; (conv => whnf)
  intro b1 w1 hn1; (conv => whnf)
  have hm1 : MapAt w1 b1 Value.string [] := MapAt.new hn1
  have hx1 := hn1.ext
  refine ⟨.map (some bp), (h.head.ext hx1).one rfl, ?_⟩; (conv => whnf)
  have hrows := h.rows.look undPeople undStr (e := ty129) ty129_ok rfl person (cl := .ext) (kept_ext h.rows.map.lt)
  rw [hd] at hrows
  refine ⟨_, fun w' hw => (by cases hw; exact hrows w1 hx1), ?_⟩; (conv => whnf)
  refine loop_rule Tt_ok (fun (_ : Unit) w' => w' = w1) (fun _ => [(19, .int .i64 0), (20, .int .i64 0), (9, .map (some b1))]) (fun _ => 0) () rfl ⟨rfl, rfl, rfl, trivial⟩ ?_
  rintro _ w2 rfl
  (conv => whnf)
  constructor
  · intro hh; simp at hh
  intro _
  (conv => whnf)
  refine (keysB_spec (some b1) w2).mono ?_
  rintro _ w3 ⟨rfl, hc3, hx3⟩; (conv => whnf)
  refine (sortedB_spec hc3 (hm1.ext hx3) (by simp) (by simp)).mono ?_
  rintro _ w4 ⟨A, c, rfl, ho, hx4⟩
  simp only [List.map_nil, sortT_nil, List.length_nil] at ho ⊢
  (conv => whnf)
  exact ⟨⟨A, c, rfl⟩, hx1.trans (hx3.trans hx4)⟩
theorem follows0_spec (w : World) (S : Nat → Prop) (p : Nat) (half : Int) (h : CrowdAt w S p half []) (person : ByteArray) :
    Cal Tryz.prog 165 [.pointer (some ⟨p, 0, none⟩), .string person] w fun r w' => (∃ A c, r = .slice A 0 c) ∧ Ext w w' := by
  have h' := h
  obtain ⟨bp, b, D, L, R, Tg, hL⟩ := h'
  refine fn_intro Tt_ok Tryz.func165 (by rfl) rfl _ rfl rfl (by rfl) ?_; (conv => whnf)
  refine ⟨.map (some b.follows), hL.head.one rfl, ?_⟩; (conv => whnf)
  refine (makers0_spec w S p half h person 7 _).mono ?_
  rintro _ w1 ⟨⟨A, c, rfl⟩, hx⟩; (conv => whnf)
  exact ⟨⟨A, c, rfl⟩, hx⟩
/-- The pane of any tick. -/
theorem paOfG_spec (w : World) (p : Nat) (width n : Int) (bs br : Nat) (hp : At w p 271 [vi width, vi n, .map (some bs), .map (some br)]) (hw : 1 ≤ width ∧ width ≤ 1099511627776) (t : Int) (ht : -9223372036854775807 ≤ t ∧ t ≤ 9223372036854775807) :
    Cal Tryz.prog 205 [.pointer (some ⟨p, 0, none⟩), .int .i64 t] w fun r w' => r = .int .i64 (t / width) ∧ w' = w := by
  have hd : t.tdiv width = t / width + if 0 ≤ t ∨ width ∣ t then 0 else width.sign := Int.tdiv_eq_ediv
  have hm := Int.tmod_eq_emod (a := t) (b := width)
  have hs : width.sign = 1 := Int.sign_eq_one_of_pos (by omega)
  have h5 : 0 ≤ t % width := Int.emod_nonneg _ (by omega)
  have h6 : t % width < width := Int.emod_lt_of_pos _ (by omega)
  have hna : (width.natAbs : Int) = width := by omega
  rw [hs] at hd
  have hr1 : -9223372036854775807 ≤ t / width := by
    have := Int.ediv_emod_unique (a := t) (b := width) (r := t % width) (q := t / width) (by omega)
    rcases Int.lt_or_le t 0 with h | h
    · have : t ≤ t / width := by
        rw [Int.le_ediv_iff_mul_le (by omega)]
        have : t * width ≤ t * 1 := Int.mul_le_mul_of_nonpos_left (by omega) (by omega)
        omega
      omega
    · have := Int.ediv_nonneg h (show 0 ≤ width by omega); omega
  have hr2 : t / width ≤ 9223372036854775806 ∨ (0 ≤ t ∧ t / width ≤ t) := by
    rcases Int.lt_or_le t 0 with h | h
    · left
      have := Int.ediv_neg_of_neg_of_pos h (show 0 < width by omega)
      omega
    · right; exact ⟨h, Int.ediv_le_self _ h⟩
  refine fn_intro Tt_ok Tryz.func205 (by rfl) rfl _ rfl rfl (by rfl) ?_; (conv => whnf)
  refine ⟨_, hp.one0, ?_⟩; (conv => whnf)
  by_cases hc : 0 ≤ t ∨ width ∣ t
  · rw [if_pos hc] at hd hm
    refine ⟨t / width, ⟨by omega, wrap_eq (by omega) ⟨by omega, by omega⟩⟩, ?_⟩; (conv => whnf)
    refine seq_go Tt_ok ?_; (conv => whnf)
    refine ⟨_, hp.one0, ?_⟩; (conv => whnf)
    refine ⟨t.tmod width, ⟨by omega, rfl⟩, ?_⟩; (conv => whnf)
    constructor
    · intro q
      have q : t.tmod width < 0 := by simpa using q
      omega
    · intro _
      (conv => whnf)
      exact ⟨rfl, rfl⟩
  · rw [if_neg hc] at hd hm
    have hneg : t < 0 := by omega
    have hd0 := Int.ediv_neg_of_neg_of_pos hneg (show 0 < width by omega)
    refine ⟨t / width + 1, ⟨by omega, wrap_eq (by omega) ⟨by omega, by omega⟩⟩, ?_⟩; (conv => whnf)
    refine seq_go Tt_ok ?_; (conv => whnf)
    refine ⟨_, hp.one0, ?_⟩; (conv => whnf)
    refine ⟨t.tmod width, ⟨by omega, rfl⟩, ?_⟩; (conv => whnf)
    constructor
    · intro _
      (conv => whnf)
      refine ⟨t / width, wrap_eq (by omega) ⟨by omega, by omega⟩, ?_⟩; (conv => whnf)
      exact ⟨rfl, rfl⟩
    · intro q
      have q : ¬ t.tmod width < 0 := by simpa using q
      omega
theorem rows0 {w : World} {S : Nat → Prop} {p : Nat} {width n : Int} {bs br : Nat} {L : List (ByteArray × (Option Addr × Nat))} {R : Nat → Prop} (h : PaL w S p width n [] bs br L R) : L = [] := by
  cases L with
  | nil => rfl
  | cons x L => exact absurd rfl (h.rows.ne x (by simp))
/-- The keys of panes to which nothing was added. -/
theorem paKeys0_spec (w : World) (S : Nat → Prop) (p : Nat) (width n : Int) (h : PaAt w S p width n []) (hw : 1 ≤ width ∧ width ≤ 1099511627776) (a b : Int) (ha : -9223372036854775807 ≤ a ∧ a ≤ 9223372036854775807) (hb : -9223372036854775807 ≤ b ∧ b ≤ 9223372036854775807) :
    Cal Tryz.prog 215 [.pointer (some ⟨p, 0, none⟩), .int .i64 a, .int .i64 b] w fun r w' => r = .slice none 0 0 ∧ Ext w w' := by
  obtain ⟨bs, br, L, R, h⟩ := h
  have hL := rows0 h
  subst hL
  have hm := h.rows.map
  have hh := h.head
  refine fn_intro Tt_ok Tryz.func215 (by rfl) rfl _ rfl rfl (by rfl) ?_; (conv => whnf)
  refine (paOfG_spec w p width n bs br hh hw a ha).mono ?_
  rintro _ _ ⟨rfl, rfl⟩; (conv => whnf)
  refine (paOfG_spec _ p width n bs br hh hw b hb).mono ?_
  rintro _ w1 ⟨rfl, rfl⟩; (conv => whnf)
  intro b3 w3 hn3; (conv => whnf)
  intro b4 w4 hn4; (conv => whnf)
  have e3 := hn3.block; have e4 := hn4.block; have s3 := hn3.size
  refine store_ptr Tt_ok (e := ty3) rfl (hn3.At.ext hn4.ext) rfl rfl rfl (by simp [cellsL, Value.oneCell']) fun w5 h5 ho5 => ?_; (conv => whnf)
  have h45 : At w5 b4 3 [.int .i64 0] := (ho5.block b4 (by omega)).trans hn4.At
  refine store_ptr Tt_ok (e := ty3) rfl h45 rfl rfl rfl (by simp [cellsL, Value.oneCell']) fun w6 h6 ho6 => ?_
  have hx6 : Ext w1 w6 := ho6.ext (ho5.ext (hn3.ext.trans hn4.ext) (by omega)) (by omega)
  clear h5 h45 h6
  (conv => whnf)
  refine ⟨.map (some br), (hh.ext hx6).one rfl, ?_⟩; (conv => whnf)
  refine map_range undPr (hm.ext hx6) fun w7 hi7 hx7 => ?_
  generalize w6.heap.size = r at hi7 ⊢
  (conv => whnf)
  refine loop_rule Tt_ok (fun (_ : Unit) w' => w' = w7) (fun _ => [(22, .pointer (some ⟨r, 0, none⟩)), (9, .slice none 0 0)]) (fun _ => 0) () rfl ⟨rfl, rfl, trivial⟩ ?_
  rintro _ w8 rfl
  (conv => whnf)
  refine map_step hi7 (fun hp => ?_) (fun x w9 hin hnew hlt hi9 ho9 hen => ?_)
  · (conv => whnf)
    constructor
    · intro hx; cases hx
    intro _
    (conv => whnf)
    refine (sortStr0_spec w8 none 0).mono ?_
    rintro _ _ ⟨rfl, rfl⟩
    (conv => whnf)
    exact ⟨rfl, hx6.trans hx7⟩
  · simp [toV] at hin
theorem paWidth_spec (w : World) (S : Nat → Prop) (p : Nat) (width n : Int) (s : PSums) (h : PaAt w S p width n s) :
    Cal Tryz.prog 214 [.pointer (some ⟨p, 0, none⟩)] w fun r w' => r = .int .i64 width ∧ Ext w w' := by
  obtain ⟨bs, br, L, R, h⟩ := h
  refine fn_intro Tt_ok Tryz.func214 (by rfl) rfl _ rfl rfl (by rfl) ?_; (conv => whnf)
  refine ⟨_, h.head.one rfl, ?_⟩; (conv => whnf)
  exact ⟨rfl, Ext.refl _⟩
theorem PaAt.ext {w w1 : World} {S : Nat → Prop} {p : Nat} {width n : Int} {s : PSums} (h : PaAt w S p width n s) (hx : Ext w w1) : PaAt w1 S p width n s := h.keep fun k hk hs => ⟨hx.block k hk, hs⟩
theorem undPa : Tryz.prog.underlying 88 = some (.pointer (Tryz.prog.pointee 88)) := by kernel_rfl
/-- The rises of panes to which nothing was added. -/
theorem rising0_spec (w : World) (S : Nat → Prop) (p : Nat) (width n : Int) (h : PaAt w S p width n []) (hw : 1 ≤ width ∧ width ≤ 1099511627776) (span now floor : Int) (hs : 1 ≤ span ∧ span ≤ 1099511627776) (hd : span.tmod width = 0) (hn : 0 ≤ now ∧ now ≤ 1099511627776) :
    Cal Tryz.prog 162 [.pointer (some ⟨p, 0, none⟩), .int .i64 span, .int .i64 now, .int .i64 floor] w fun r w' => r = .slice none 0 0 ∧ Ext w w' := by
  have hm0 : 0 ≤ now.tmod width := Int.tmod_nonneg _ hn.1
  have hm1 : now.tmod width < width := Int.tmod_lt_of_pos _ (by omega)
  refine fn_intro Tt_ok Tryz.func162 (by rfl) rfl _ rfl rfl (by rfl) ?_; (conv => whnf)
  refine ⟨_, eqRun_ptr_nil' undPa _ _ _, ?_⟩; (conv => whnf)
  refine ⟨Unit, fun _ => (.int .i64 width), fun _ w' => Ext w w', (), fun hg => ((paWidth_spec w S p width n [] h)).mono fun r w' h => ⟨(), h.1, h.2⟩, ?_⟩
  intro _ w1 h2
  have hx1 : Ext w w1 := by
    rcases h2 with ⟨_, h⟩ | ⟨_, h⟩
    · exact h
    · rw [h]; exact Ext.refl _
  clear h2
  (conv => whnf)
  refine ⟨span.tmod width, fun _ => ⟨by omega, rfl⟩, ?_⟩; (conv => whnf)
  constructor
  · intro hc
    exfalso
    simp [hd] at hc
    omega
  intro _
  (conv => whnf)
  refine (paWidth_spec w1 S p width n [] (h.ext hx1)).mono ?_
  rintro _ w1b ⟨rfl, hx1b⟩
  replace hx1 := hx1.trans hx1b
  (conv => whnf)
  refine ⟨now.tmod width, ⟨by omega, rfl⟩, ?_⟩; (conv => whnf)
  refine ⟨now - now.tmod width, wrap_eq rfl ⟨by omega, by omega⟩, ?_⟩; (conv => whnf)
  generalize hb : now - now.tmod width = b
  refine ⟨b - span, wrap_eq rfl ⟨by omega, by omega⟩, ?_⟩; (conv => whnf)
  refine (paKeys0_spec _ S p width n (h.ext hx1) hw (b - span) b ⟨by omega, by omega⟩ ⟨by omega, by omega⟩).mono ?_
  rintro _ w2 ⟨rfl, hx2⟩; (conv => whnf)
  refine loop_rule Tt_ok (fun (_ : Unit) w' => w' = w2) (fun _ => [(51, .int .i64 0), (52, .int .i64 0), (10, .slice none 0 0)]) (fun _ => 0) () rfl ⟨rfl, rfl, rfl, trivial⟩ ?_
  rintro _ w3 rfl
  (conv => whnf)
  constructor
  · intro hh; simp at hh
  intro _
  (conv => whnf)
  refine (sortRise0_spec w3 none 0 _).mono ?_
  rintro _ _ ⟨rfl, rfl⟩
  (conv => whnf)
  exact ⟨rfl, hx1.trans hx2⟩
end Go.Proofs.YtoancknoinilaaaGreatDoor
