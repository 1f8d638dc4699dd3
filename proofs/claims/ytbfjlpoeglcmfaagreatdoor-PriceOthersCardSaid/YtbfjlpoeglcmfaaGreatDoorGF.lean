/- Several texts in one: Bu1, Bu2, Bu3, Bu4, Bu5, Bu6. -/
import Derived.Test.YtbfjlpoeglcmfaaGreatDoorGE
import Derived.Test.YtbfjlpoeglcmfaaGreatDoorGC
set_option linter.unusedVariables false
set_option linter.unusedSimpArgs false

/- A world that holds counted events, as it is read. -/
namespace Go.Proofs.YtbfjlpoeglcmfaaGreatDoor
open Go.Se Go.RowKit

/-- The catalog's events; people's. -/
def thB (e : Ev) : Bool := decide (e.kind = 11 ∨ e.kind = 12 ∨ e.kind = 13)
def peB (e : Ev) : Bool := !thB e && !decide (e.kind = 14)
def thingsE (z : List Ev) : List Ev := z.filter thB
def peopleE (z : List Ev) : List Ev := z.filter peB
theorem count_parts (width : Int) (z : List Ev) : (countAll width z).cs = thingsE z ∧ evs (countAll width z).rs = peopleE z := by
  induction z using snoc_ind with
  | h0 => exact ⟨rfl, rfl⟩
  | h1 l a ih =>
    rw [countAll_snoc]
    unfold thingsE peopleE at *
    rw [List.filter_append, List.filter_append, ← ih.1, ← ih.2]
    unfold countW
    by_cases h1 : a.kind = 11 ∨ a.kind = 12 ∨ a.kind = 13
    · rw [if_pos h1]
      simp [thB, peB, h1]
    · rw [if_neg h1]
      by_cases h2 : a.kind = 14
      · rw [if_pos h2]
        simp [thB, peB, h1, h2]
      · rw [if_neg h2]
        split <;> simp [thB, peB, h1, h2, evs]
/-- A thing, as it is at a tick. -/
def itemAt (z : List Ev) (name : ByteArray) (t : Int) : It := (catAt (thingsE z) name t).1
def itemIs (z : List Ev) (name : ByteArray) (t : Int) : Bool := (catAt (thingsE z) name t).2
/-- A person's events. -/
def histE (z : List Ev) (person : ByteArray) : List Ev := hist (peopleE z) person

/-- The world at p holds the events z. -/
structure WV (w : World) (base p : Nat) (c : Cfg) (z : List Ev) : Prop where
  at_ : WorldAt w base p c (ofW c.width z)
  may : ∀ x ∈ z, mayB x = true
  rise : Rise z
  len : z.length < 1000000
theorem WV.ext {w w1 : World} {base p : Nat} {c : Cfg} {z : List Ev} (h : WV w base p c z) (hx : Ext w w1) : WV w1 base p c z := ⟨h.at_.ext hx, h.may, h.rise, h.len⟩
theorem WV.rows {w : World} {base p : Nat} {c : Cfg} {z : List Ev} (h : WV w base p c z) {name : ByteArray} : (catRows (thingsE z) name).length < 1000000000000 := by
  have h1 := (catRows_bounds (thingsE z) (fun e he => h.may e ((List.mem_filter.1 he).1)) name).1
  have h2 := List.length_filter_le thB z
  have h3 := h.len
  unfold thingsE at *
  omega
theorem WV.people {w : World} {base p : Nat} {c : Cfg} {z : List Ev} (h : WV w base p c z) : (peopleE z).length < 1000000 := by
  have h2 := List.length_filter_le peB z
  have h3 := h.len
  unfold peopleE
  omega
theorem made_spec (c : Cfg) (hcf : cfgB c = true) (l : List Ev) (A : Option Addr) (cap : Nat) (w : World) (hg0 : Gl w) (hs : SlE w A l) (hl : l.length < 1000000) (hm : ∀ e ∈ l, mayB e = true) :
    Cal Tryz.prog 27 [cfgV c, .slice A l.length cap] w fun r w' => ∃ p, r = .tuple #[.pointer (some ⟨p, 0, none⟩), .int .i64 0] ∧ WV w' w.heap.size p c (anewL l) ∧ Ext w w' :=
  (wof_spec c hcf l A cap w hg0 hs hl hm).mono fun r w' ⟨p, h1, h2, h3⟩ => ⟨p, h1, ⟨h2, fun x hx => hm x (anew_mem hx), anew_rise hm, Nat.lt_of_le_of_lt (anew_len l) hl⟩, h3⟩
theorem wcatalog_spec {w : World} {base p : Nat} {c : Cfg} {z : List Ev} (h : WV w base p c z) :
    Cal Tryz.prog 36 [.pointer (some ⟨p, 0, none⟩)] w fun r w' => ∃ pc S, r = .pointer (some ⟨pc, 0, none⟩) ∧ CatAt w' S pc (thingsE z) ∧ Ext w w' := by
  obtain ⟨col, q, A, cap, hL⟩ := h.at_
  have hc := hL.cts.cat
  rw [(ofW_es c.width z).2, (count_parts c.width z).1] at hc
  refine fn_intro Tt_ok Tryz.func36 (by rfl) rfl _ rfl rfl (by rfl) ?_; (conv => whnf)
  refine ⟨_, hL.head.one rfl, ?_⟩; (conv => whnf)
  exact ⟨q.pc, _, rfl, hc, Ext.refl _⟩
theorem wcrowd_spec {w : World} {base p : Nat} {c : Cfg} {z : List Ev} (h : WV w base p c z) :
    Cal Tryz.prog 48 [.pointer (some ⟨p, 0, none⟩)] w fun r w' => ∃ pw S, r = .pointer (some ⟨pw, 0, none⟩) ∧ CrowdAt w' S pw (halfN c.half) (countAll c.width z).rs ∧ Ext w w' := by
  obtain ⟨col, q, A, cap, hL⟩ := h.at_
  have hc := hL.cts.crowd
  rw [(ofW_es c.width z).2] at hc
  refine fn_intro Tt_ok Tryz.func48 (by rfl) rfl _ rfl rfl (by rfl) ?_; (conv => whnf)
  refine ⟨_, hL.head.one rfl, ?_⟩; (conv => whnf)
  exact ⟨q.pw, _, rfl, hc, Ext.refl _⟩
theorem whistory_spec {w : World} {base p : Nat} {c : Cfg} {z : List Ev} (h : WV w base p c z) {pw : Nat} {S : Nat → Prop} (hc : CrowdAt w S pw (halfN c.half) (countAll c.width z).rs) (person : ByteArray) :
    Cal Tryz.prog 49 [.pointer (some ⟨pw, 0, none⟩), .string person] w fun r w' => ∃ A c, r = .slice A (histE z person).length c ∧ Own evC 8 47 w.heap.size w' A c (histE z person) ∧ Ext w w' := by
  have hp := h.people
  have he := (count_parts c.width z).2
  have := history_spec w S pw (halfN c.half) (countAll c.width z).rs hc person (by
    have : (evs (countAll c.width z).rs).length = (peopleE z).length := by rw [he]
    simp [evs] at this
    omega)
  rw [he] at this
  exact this
theorem hist_len (z : List Ev) (person : ByteArray) : (histE z person).length ≤ z.length := by
  unfold histE hist peopleE
  have h1 := List.length_filter_le (fun e : Ev => decide (e.person = person)) (z.filter peB)
  have h2 := List.length_filter_le peB z
  omega
end Go.Proofs.YtbfjlpoeglcmfaaGreatDoor


/- The budget: May, tick, maker, show, shown. -/
namespace Go.Proofs.YtbfjlpoeglcmfaaGreatDoor
open Go.Se Go.RowKit

def i64ok' (n : Int) : Prop := -9223372036854775808 ≤ n ∧ n ≤ 9223372036854775807
structure Bd where
  item : Int
  maker : Int
  all : Int
def bdC (b : Bd) : List Value := [vi b.item, vi b.maker, vi b.all]
def bdV (b : Bd) : Value := .agg (bdC b).toArray
def bdB (b : Bd) : Bool := inB b.item 0 1048576 && inB b.maker 0 1048576 && inB b.all 0 1048576
def tickB (t : Int) : Bool := inB t 0 1099511627776
theorem btick_spec (t : Int) (w : World) : Cal Tryz.prog 44 [.int .i64 t] w fun r w' => r = .bool (tickB t) ∧ w' = w := by
  refine fn_intro Tt_ok Tryz.func44 (by rfl) rfl _ rfl rfl (by rfl) ?_; (conv => whnf)
  exact ⟨rfl, rfl⟩
theorem bmay1_spec (t : Int) (w : World) : Cal Tryz.prog 50 [.int .i64 t] w fun r w' => r = .bool (inB t 0 1048576) ∧ Ext w w' := by
  refine fn_intro Tt_ok Tryz.func50 (by rfl) rfl _ rfl rfl (by rfl) ?_; (conv => whnf)
  exact ⟨rfl, Ext.refl _⟩
theorem bmay_spec (b : Bd) (w : World) : Cal Tryz.prog 23 [bdV b] w fun r w' => r = .bool (bdB b) ∧ Ext w w' := by
  refine fn_intro Tt_ok Tryz.func23 (by rfl) rfl _ rfl rfl (by rfl) ?_; (conv => whnf)
  intro b1 w1 hn1; (conv => whnf)
  have h1 := hn1.At
  refine ⟨_, h1.one rfl, ?_⟩; (conv => whnf)
  refine (bmay1_spec b.item w1).mono ?_; rintro _ w2 ⟨rfl, hx2⟩; (conv => whnf)
  replace h1 := h1.ext hx2
  refine ⟨_, fun _ => h1.one rfl, ?_⟩; (conv => whnf)
  refine ⟨Unit, fun _ => (.bool (inB b.maker 0 1048576)), fun _ w' => Ext w2 w', (), fun hg => ((bmay1_spec b.maker w2)).mono fun r w' h => ⟨(), h.1, h.2⟩, ?_⟩
  intro _ w3 h2
  have hx3 : Ext w2 w3 := by
    rcases h2 with ⟨_, h⟩ | ⟨_, h⟩
    · exact h
    · rw [h]; exact Ext.refl _
  clear h2
  (conv => whnf)
  replace h1 := h1.ext hx3
  refine ⟨_, fun _ => h1.one rfl, ?_⟩; (conv => whnf)
  refine ⟨Unit, fun _ => (.bool (inB b.all 0 1048576)), fun _ w' => Ext w3 w', (), fun hg => ((bmay1_spec b.all w3)).mono fun r w' h => ⟨(), h.1, h.2⟩, ?_⟩
  intro _ w4 h2
  have hx4 : Ext w3 w4 := by
    rcases h2 with ⟨_, h⟩ | ⟨_, h⟩
    · exact h
    · rw [h]; exact Ext.refl _
  clear h2
  (conv => whnf)
  exact ⟨rfl, ((hn1.ext.trans hx2).trans hx3).trans hx4⟩

/-- How often. -/
def cntB (l : List ByteArray) (x : ByteArray) : Int := ((l.filter fun y => decide (y = x)).length : Nat)
theorem cnt_snoc (l : List ByteArray) (x y : ByteArray) : cntB (l ++ [y]) x = cntB l x + if x = y then 1 else 0 := by
  unfold cntB
  rw [List.filter_append, List.length_append]
  by_cases h : x = y
  · subst h; simp
  · simp [h, Ne.symm h]
theorem cnt_le (l : List ByteArray) (x : ByteArray) : 0 ≤ cntB l x ∧ cntB l x ≤ l.length := by
  unfold cntB
  have := List.length_filter_le (fun y => decide (y = x)) l
  omega
/-- How much was shown: of each thing, of each maker, in all. -/
structure CntL (w : World) (S : Nat → Prop) (pn p : Nat) (now : Int) (z : List Ev) (l : List ByteArray) (bi bm : Nat) (mi mm : List (ByteArray × Int)) : Prop where
  head : At w pn 90 [.pointer (some ⟨p, 0, none⟩), vi now, .map (some bi), .map (some bm), vi l.length]
  low : S pn ∧ S bi ∧ S bm
  ne : pn ≠ bi ∧ pn ≠ bm ∧ bi ≠ bm
  items : MapAt w bi Value.string (venc vi mi)
  makers : MapAt w bm Value.string (venc vi mm)
  ci : ∀ x, (alook mi x).getD 0 = cntB l x
  cm : ∀ m, m ≠ ⟨#[]⟩ → (alook mm m).getD 0 = cntB (l.map fun x => (itemAt z x now).maker) m
def CntAt (w : World) (S : Nat → Prop) (pn p : Nat) (now : Int) (z : List Ev) (l : List ByteArray) : Prop := ∃ bi bm mi mm, CntL w S pn p now z l bi bm mi mm
theorem CntAt.ext {w w1 : World} {S : Nat → Prop} {pn p : Nat} {now : Int} {z : List Ev} {l : List ByteArray} (h : CntAt w S pn p now z l) (hx : Ext w w1) : CntAt w1 S pn p now z l := by
  obtain ⟨bi, bm, mi, mm, h⟩ := h
  exact ⟨bi, bm, mi, mm, h.head.ext hx, h.low, h.ne, h.items.ext hx, h.makers.ext hx, h.ci, h.cm⟩
theorem CntAt.mod {w w1 : World} {S T : Nat → Prop} {pn p : Nat} {now : Int} {z : List Ev} {l : List ByteArray} (h : CntAt w S pn p now z l) (hM : Mod T w w1) (hd : ∀ k, S k → ¬ T k) : CntAt w1 S pn p now z l := by
  obtain ⟨bi, bm, mi, mm, h⟩ := h
  exact ⟨bi, bm, mi, mm, h.head.mod hM (hd _ h.low.1), h.low, h.ne, h.items.mod hM (hd _ h.low.2.1), h.makers.mod hM (hd _ h.low.2.2), h.ci, h.cm⟩
theorem undSI : Tryz.prog.underlying 51 = some (.map 9 3) := by kernel_rfl
/-- 'm[k]' of a map of counts. -/
theorem look_cnt {w : World} {b : Nat} {m : List (ByteArray × Int)} (h : MapAt w b Value.string (venc vi m)) {cl : Cl} (hk : Kept cl w b) (x : ByteArray) {n : Int} (hn : (alook m x).getD 0 = n) :
    RdS Tryz.prog cl w (Instr.lookup 51 (.map (some b)) (.string x) false) (.int .i64 n) := by
  have := map_look (cl := cl) undSI (key_string undStr) (e := ty3) ty3_ok hk h x
  rw [show ty3.zero = vi 0 from rfl, getD_venc, hn] at this
  exact this
theorem bmaker_head {w0 w : World} {base' pn p : Nat} {c : Cfg} {now n : Int} {z : List Ev} {bi bm : Nat} (hW : WV w0 base' p c z) (hx0 : Ext w0 w) (h : At w pn 90 [.pointer (some ⟨p, 0, none⟩), vi now, .map (some bi), .map (some bm), vi n]) (x : ByteArray) :
    Cal Tryz.prog 76 [.pointer (some ⟨pn, 0, none⟩), .string x] w fun r w' => r = .string (itemAt z x now).maker ∧ Ext w w' := by
  refine fn_intro Tt_ok Tryz.func76 (by rfl) rfl _ rfl rfl (by rfl) ?_; (conv => whnf)
  refine sem_cut (ι := Nat) (fun b5 => [(5, .pointer (some ⟨b5, 0, none⟩))]) (fun b5 w' => Ext w w' ∧ At w' b5 66 (itC (itemAt z x now))) ?_ ?_
  · refine draw_plan (.mods (fun k => w.heap.size ≤ k)) (Pl.seq [0, 1, 2, 3, 5, 6, 7, 8, 9] (Pl.two 4 (Pl.seq [] (Pl.two 10 (Pl.seq [11, 12, 13, 14, 15, 16] Pl.done) 14 (Pl.seq [10, 11, 12, 13, 15, 16] Pl.done))) 14 (Pl.seq [4, 10, 11, 12, 13, 15, 16] Pl.done))) (by intro h; cases h) Tt_ok mixed (by kernel_rfl) ?_; (conv => whnf)
    have hhd : At w.drew pn _ _ := h
    have hx : Ext w w.drew := (Ext.refl w).drew
    have hW1 := hW.ext (hx0.trans hx)
    have hlt : ¬ (w.heap.size ≤ pn) := by have := h.lt; omega
    generalize w.drew = w1 at hhd hx hW1 ⊢
    refine ⟨_, ⟨hhd.one rfl, by rw [add_block]; exact hlt⟩, ?_⟩; (conv => whnf)
    refine ⟨_, ⟨hhd.one rfl, by rw [add_block]; exact hlt⟩, ?_⟩; (conv => whnf)
    refine ⟨?_, ?_⟩
    · refine (wcatalog_spec hW1).mono ?_
      rintro _ w3 ⟨pc, S0, rfl, hcat, hx3⟩
      refine ⟨Mod.of_ext hx3, ?_⟩; (conv => whnf)
      refine ⟨?_, ?_⟩
      · refine (catAt_spec _ _ pc _ hcat x now (hW1).rows).mono ?_
        rintro _ w4 ⟨rfl, hx4⟩
        refine ⟨Mod.of_ext hx4, ?_⟩; (conv => whnf)
        intro b5 w5 hn5
        have e5 := hn5.block
        refine ⟨Mod.of_ext hn5.ext, ?_⟩; (conv => whnf)
        refine store_ptr Tt_ok (e := ty66) rfl (hn5.At) rfl rfl rfl (by simp [cellsL, itC, Value.oneCell']) fun w6 h6 ho6 => ?_
        refine ⟨mod_only ho6 (by have := (hx).size; have := hx3.size; have := hx4.size; omega), ?_⟩; (conv => whnf)
        exact ⟨b5, ⟨ho6.ext (((hx).trans hx3).trans (hx4.trans hn5.ext)) (by have := (hx).size; have := hx3.size; have := hx4.size; omega), h6⟩, ⟨rfl, trivial⟩⟩
      · intro b5 w5 hn5
        have e5 := hn5.block
        refine ⟨Mod.of_ext hn5.ext, ?_⟩; (conv => whnf)
        replace hcat := hcat.ext hn5.ext
        refine (catAt_spec _ _ pc _ hcat x now (hW1).rows).mono ?_
        rintro _ w4 ⟨rfl, hx4⟩
        refine ⟨Mod.of_ext hx4, ?_⟩; (conv => whnf)
        refine store_ptr Tt_ok (e := ty66) rfl (hn5.At.ext hx4) rfl rfl rfl (by simp [cellsL, itC, Value.oneCell']) fun w6 h6 ho6 => ?_
        refine ⟨mod_only ho6 (by have := (hx).size; have := hx3.size; omega), ?_⟩; (conv => whnf)
        exact ⟨b5, ⟨ho6.ext (((hx).trans hx3).trans (hn5.ext.trans hx4)) (by have := (hx).size; have := hx3.size; omega), h6⟩, ⟨rfl, trivial⟩⟩
    · intro b5 w5 hn5
      have e5 := hn5.block
      refine ⟨Mod.of_ext hn5.ext, ?_⟩; (conv => whnf)
      refine (wcatalog_spec ((hW1).ext hn5.ext)).mono ?_
      rintro _ w3 ⟨pc, S0, rfl, hcat, hx3⟩
      refine ⟨Mod.of_ext hx3, ?_⟩; (conv => whnf)
      refine (catAt_spec _ _ pc _ hcat x now (hW1).rows).mono ?_
      rintro _ w4 ⟨rfl, hx4⟩
      refine ⟨Mod.of_ext hx4, ?_⟩; (conv => whnf)
      refine store_ptr Tt_ok (e := ty66) rfl ((hn5.At.ext hx3).ext hx4) rfl rfl rfl (by simp [cellsL, itC, Value.oneCell']) fun w6 h6 ho6 => ?_
      refine ⟨mod_only ho6 (by have := (hx).size; omega), ?_⟩; (conv => whnf)
      exact ⟨b5, ⟨ho6.ext ((hx).trans ((hn5.ext.trans hx3).trans hx4)) (by have := (hx).size; omega), h6⟩, ⟨rfl, trivial⟩⟩
  rintro b5 w5 ⟨hx5, h5⟩
  (conv => whnf)
  refine ⟨_, h5.one rfl, ?_⟩; (conv => whnf)
  exact ⟨rfl, hx5⟩
theorem bmaker_spec {w0 w : World} {S : Nat → Prop} {base' pn p : Nat} {c : Cfg} {now : Int} {z : List Ev} {l : List ByteArray} (hW : WV w0 base' p c z) (hx0 : Ext w0 w) (h : CntAt w S pn p now z l) (x : ByteArray) :
    Cal Tryz.prog 76 [.pointer (some ⟨pn, 0, none⟩), .string x] w fun r w' => r = .string (itemAt z x now).maker ∧ Ext w w' := by
  obtain ⟨bi, bm, mi, mm, h⟩ := h
  exact bmaker_head hW hx0 h.head x
theorem bshow_spec {w0 w : World} {S : Nat → Prop} {base' pn p : Nat} {c : Cfg} {now : Int} {z : List Ev} {l : List ByteArray} (hW : WV w0 base' p c z) (hx0 : Ext w0 w) (hS : ∀ k, S k → w0.heap.size ≤ k) (h : CntAt w S pn p now z l) (hl : l.length < 100000000) (x : ByteArray) :
    Cal Tryz.prog 47 [.pointer (some ⟨pn, 0, none⟩), .string x] w fun r w' => r = .tuple #[] ∧ CntAt w' S pn p now z (l ++ [x]) ∧ Ext w0 w' ∧ Mod S w w' := by
  obtain ⟨bi, bm, mi, mm, h⟩ := h
  have hc1 := cnt_le l x
  refine fn_intro Tt_ok Tryz.func47 (by rfl) rfl _ rfl rfl (by rfl) ?_; (conv => whnf)
  refine ⟨_, h.head.one rfl, ?_⟩; (conv => whnf)
  refine ⟨_, look_cnt h.items kept_same x (h.ci x), ?_⟩; (conv => whnf)
  refine ⟨cntB l x + 1, wrap_eq rfl ⟨by omega, by omega⟩, ?_⟩; (conv => whnf)
  refine map_update undSI (key_string undStr) h.items x _ fun w1 hm1 ho1 => ?_
  have hm1 : MapAt w1 bi Value.string (aset (venc vi mi) x (vi (cntB l x + 1))) := hm1
  rw [aset_venc] at hm1
  have hh1 := ho1.at_ h.head h.ne.1
  have hk1 := h.makers.only ho1 (Ne.symm h.ne.2.2)
  have hx1 := ho1.ext hx0 (hS _ h.low.2.1)
  (conv => whnf)
  refine ⟨_, hh1.one rfl, ?_⟩; (conv => whnf)
  refine ⟨((l ++ [x]).length : Int), wrap_eq (by simp) ⟨by omega, by omega⟩, ?_⟩; (conv => whnf)
  refine store_ptr Tt_ok (e := ty3) rfl hh1 rfl rfl rfl (by simp [cellsL, Value.oneCell']) fun w2 h2 ho2 => ?_
  have h2 : At w2 pn 90 [.pointer (some ⟨p, 0, none⟩), vi now, .map (some bi), .map (some bm), vi (l ++ [x]).length] := h2
  have hm2 := hm1.only ho2 (Ne.symm h.ne.1)
  have hk2 := hk1.only ho2 (Ne.symm h.ne.2.1)
  have hx2 := ho2.ext hx1 (hS _ h.low.1)
  have hci : ∀ y, (alook (aset mi x (cntB l x + 1)) y).getD 0 = cntB (l ++ [x]) y := fun y => by
    rw [alook_aset, cnt_snoc]
    by_cases hy : y = x
    · subst hy; simp
    · rw [if_neg hy, if_neg hy, h.ci y]; simp
  have hM2 : Mod S w w2 := (mod_only ho1 h.low.2.1).trans (mod_only ho2 h.low.1)
  (conv => whnf)
  -- the maker: the count as it stands, with the makers of before
  have hmk : Cal Tryz.prog 76 [.pointer (some ⟨pn, 0, none⟩), .string x] w2 fun r w' => r = .string (itemAt z x now).maker ∧ Ext w2 w' :=
    bmaker_head hW hx2 h2 x
  refine hmk.mono ?_
  rintro _ w3 ⟨rfl, hx3⟩
  replace hx3' := hx2.trans hx3
  have h3 := h2.ext hx3
  have hm3 := hm2.ext hx3
  have hk3 := hk2.ext hx3
  have hM3 := hM2.trans (Mod.of_ext hx3)
  (conv => whnf)
  constructor
  · intro hc
    have hc : ¬ (itemAt z x now).maker = ⟨#[]⟩ := by simpa using hc
    have hcm := cnt_le (l.map fun x => (itemAt z x now).maker) (itemAt z x now).maker
    rw [List.length_map] at hcm
    (conv => whnf)
    refine ⟨_, h3.one rfl, ?_⟩; (conv => whnf)
    refine ⟨_, look_cnt hk3 kept_same _ (h.cm _ hc), ?_⟩; (conv => whnf)
    refine ⟨cntB (l.map fun x => (itemAt z x now).maker) (itemAt z x now).maker + 1, wrap_eq rfl ⟨by omega, by omega⟩, ?_⟩; (conv => whnf)
    refine map_update undSI (key_string undStr) hk3 (itemAt z x now).maker _ fun w4 hk4 ho4 => ?_
    have hk4 : MapAt w4 bm Value.string (aset (venc vi mm) (itemAt z x now).maker (vi (cntB (l.map fun x => (itemAt z x now).maker) (itemAt z x now).maker + 1))) := hk4
    rw [aset_venc] at hk4
    (conv => whnf)
    refine ⟨rfl, ⟨bi, bm, _, _, ho4.at_ h3 h.ne.2.1, h.low, h.ne, hm3.only ho4 h.ne.2.2, hk4, hci, fun m hm => ?_⟩, ho4.ext hx3' (hS _ h.low.2.2), hM3.trans (mod_only ho4 h.low.2.2)⟩
    rw [alook_aset, List.map_append, List.map_cons, List.map_nil, cnt_snoc]
    by_cases hy : m = (itemAt z x now).maker
    · subst hy; simp
    · rw [if_neg hy, if_neg hy, h.cm m hm]; simp
  · intro hc
    have hc : (itemAt z x now).maker = ⟨#[]⟩ := by simpa using hc
    (conv => whnf)
    refine ⟨rfl, ⟨bi, bm, _, _, h3, h.low, h.ne, hm3, hk3, hci, fun m hm => ?_⟩, hx3', hM3⟩
    rw [List.map_append, List.map_cons, List.map_nil, cnt_snoc, hc, if_neg hm, h.cm m hm]; simp
end Go.Proofs.YtbfjlpoeglcmfaaGreatDoor


/- The budget: shown, Shown, left, Left, Pass. -/
namespace Go.Proofs.YtbfjlpoeglcmfaaGreatDoor
open Go.Se Go.RowKit

def seenQ (now : Int) (e : Ev) : Bool := decide (e.kind = 0) && decide (e.at_ ≤ now) && decide (e.at_.tdiv 86400 = now.tdiv 86400)
/-- What was shown to a person on the day of a now. -/
def shownL (z : List Ev) (person : ByteArray) (now : Int) : List ByteArray := ((histE z person).filter (seenQ now)).map (·.item)
theorem shown_len (z : List Ev) (person : ByteArray) (now : Int) : (shownL z person now).length ≤ z.length := by
  unfold shownL
  rw [List.length_map]
  have h1 := List.length_filter_le (seenQ now) (histE z person)
  have h2 := hist_len z person
  omega
theorem tdiv_small {a b : Int} (h : -9223372036854775808 ≤ a ∧ a ≤ 9223372036854775807) (hb : 1 < b) : -9223372036854775808 ≤ a.tdiv b ∧ a.tdiv b ≤ 9223372036854775807 := by
  rcases Int.le_total 0 a with h0 | h0
  · rw [Int.tdiv_eq_ediv_of_nonneg h0]
    have h1 := Int.ediv_nonneg h0 (show 0 ≤ b by omega)
    have h2 := Int.ediv_le_self b h0
    omega
  · have e : a.tdiv b = -((-a).tdiv b) := by rw [Int.neg_tdiv]; simp
    rw [e, Int.tdiv_eq_ediv_of_nonneg (show 0 ≤ -a by omega)]
    have h1 := Int.ediv_nonneg (show 0 ≤ -a by omega) (show 0 ≤ b by omega)
    have h2 := Int.ediv_le_self b (show 0 ≤ -a by omega)
    omega
theorem bshown_spec {w : World} {base p : Nat} {c : Cfg} {z : List Ev} (hW : WV w base p c z) (person : ByteArray) (now : Int) (hn : i64ok' now) :
    Cal Tryz.prog 45 [.pointer (some ⟨p, 0, none⟩), .string person, .int .i64 now] w fun r w' => ∃ pn S, r = .pointer (some ⟨pn, 0, none⟩) ∧ CntAt w' S pn p now z (shownL z person now) ∧ (∀ k, S k → w.heap.size ≤ k ∧ k < w'.heap.size) ∧ Ext w w' := by
  refine fn_intro Tt_ok Tryz.func45 (by rfl) rfl _ rfl rfl (by rfl) ?_; (conv => whnf)
  intro b1 w1 hn1; (conv => whnf)
  intro b2 w2 hn2; (conv => whnf)
  intro b3 w3 hn3; (conv => whnf)
  have e1 := hn1.block
  have e2 := hn2.block
  have e3 := hn3.block
  have s1 := hn1.size
  have s2 := hn2.size
  have hx3 := (hn1.ext.trans hn2.ext).trans hn3.ext
  have s3 := hn3.size
  have hC3 : CntAt w3 (fun k => w.heap.size ≤ k ∧ k < w3.heap.size) b3 p now z [] := ⟨b1, b2, [], [], hn3.At, ⟨by omega, by omega, by omega⟩, by omega, (MapAt.new (enc := Value.string) hn1).ext (hn2.ext.trans hn3.ext), (MapAt.new (enc := Value.string) hn2).ext hn3.ext, fun x => rfl, fun m _ => rfl⟩
  clear hn1 hn2 hn3
  refine (wcrowd_spec (hW.ext hx3)).mono ?_
  rintro _ w4 ⟨pw, S, rfl, hcr, hx4⟩; (conv => whnf)
  refine (whistory_spec (hW.ext (hx3.trans hx4)) hcr person).mono ?_
  rintro _ w5 ⟨A5, c5, rfl, hown5, hx5⟩; (conv => whnf)
  have hs5 := hown5.sl evC_len
  have hA5 : ∀ a, A5 = some a → w3.heap.size ≤ a.block ∧ a.block < w5.heap.size := fun a ha => by have := hown5.block ha; have := hx4.size; omega
  have hx5' := (hx3.trans hx4).trans hx5
  have hC5 := (hC3.ext hx4).ext hx5
  have hhl := hist_len z person
  have hzl := hW.len
  clear hown5
  generalize hH : histE z person = H at hs5 hhl
  have hmH : ∀ e ∈ H, mayB e = true := fun e he => by
    rw [← hH] at he
    exact hW.may e (List.mem_filter.1 (List.mem_filter.1 he).1).1
  refine loop_rule Tt_ok (fun (k : Nat) w' => k ≤ H.length ∧ Ext w w' ∧ SlE w' A5 H ∧ w5.heap.size ≤ w'.heap.size ∧ CntAt w' (fun k => w.heap.size ≤ k ∧ k < w3.heap.size) b3 p now z (((H.take k).filter (seenQ now)).map (·.item)))
    (fun k => [(2, .int .i64 now), (7, .pointer (some ⟨b3, 0, none⟩)), (19, .slice A5 H.length c5), (20, .int .i64 H.length), (21, .int .i64 k)]) (fun k => H.length - k) 0 ⟨by omega, hx5', hs5, Nat.le_refl _, hC5⟩ ⟨rfl, rfl, rfl, rfl, rfl, trivial⟩ ?_
  have z35 : w3.heap.size ≤ w5.heap.size := (hx4.trans hx5).size
  clear hC5 hC3 hcr hx4 hx5 hx5' hx3
  rintro k w6 ⟨hk, hx6, hs6, hz6, hC6⟩
  (conv => whnf)
  constructor
  · intro hc
    have hc : k < H.length := by simpa using hc
    obtain ⟨a2, rfl, hce⟩ := hs6.get hc
    have hme := hmH H[k] (List.getElem_mem hc)
    have htk := take_next H k hc
    generalize H[k] = e at hce hme htk
    have hat := (may_iff.1 hme).at_
    have hfl := List.length_filter_le (seenQ now) (H.take k)
    rw [List.length_take] at hfl
    have hsn : (((H.take (k + 1)).filter (seenQ now)).map (·.item)) = ((H.take k).filter (seenQ now)).map (·.item) ++ if seenQ now e then [e.item] else [] := by
      rw [htk, List.filter_append, List.map_append]
      cases h : seenQ now e <;> simp [List.filter_cons, h]
    (conv => whnf)
    repeat (refine seq_go Tt_ok ?_; (conv => whnf))
    refine ⟨a2, ⟨rfl, by omega, by omega⟩, ?_⟩; (conv => whnf)
    refine ⟨evC e, ⟨rfl, hce⟩, ?_⟩; (conv => whnf)
    intro b7 w7 hn7; (conv => whnf)
    have e7 := hn7.block
    refine store_ptr Tt_ok (e := ty47) rfl hn7.At rfl rfl rfl (by simp [cellsL, evC, Value.oneCell']) fun w8 h8 ho8 => ?_
    have h8 : At w8 b7 _ (evC e) := h8
    have hx8 : Ext w6 w8 := ho8.ext hn7.ext (by omega)
    have hC8 := hC6.ext hx8
    have hs8 := hs6.ext hx8
    have z8 := hx8.size
    replace hx6 := hx6.trans hx8
    clear hn7 ho8 hC6 hs6 hce
    (conv => whnf)
    refine ⟨_, h8.one rfl, ?_⟩; (conv => whnf)
    refine ⟨_, fun _ => h8.one rfl, ?_⟩; (conv => whnf)
    refine ⟨_, fun _ => h8.one rfl, ?_⟩; (conv => whnf)
    refine ⟨e.at_.tdiv 86400, fun _ => ⟨by decide, wrap_eq rfl (tdiv_small ⟨by omega, by omega⟩ (by decide))⟩, ?_⟩; (conv => whnf)
    refine ⟨now.tdiv 86400, fun _ => ⟨by decide, wrap_eq rfl (tdiv_small hn (by decide))⟩, ?_⟩; (conv => whnf)
    constructor
    · intro hq
      have hq : seenQ now e = true := hq
      rw [hq] at hsn
      (conv => whnf)
      refine ⟨_, h8.one rfl, ?_⟩; (conv => whnf)
      refine (bshow_spec hW hx6 (fun k hk => hk.1) hC8 (by rw [List.length_map]; omega) e.item).mono ?_
      rintro _ w9 ⟨rfl, hC9, hx9, hM9⟩; (conv => whnf)
      refine ⟨((k + 1 : Nat) : Int), wrap_succ (by omega), ?_⟩; (conv => whnf)
      refine ⟨k + 1, by omega, ⟨by omega, hx9, sl_stay hs8 (fun a ha => hM9.block _ (by have := (hA5 a ha).2; omega) (fun h => by have := (hA5 a ha).1; omega)), Nat.le_trans (Nat.le_trans hz6 z8) hM9.size, by rw [hsn]; exact hC9⟩, ⟨rfl, rfl, rfl, rfl, rfl, trivial⟩⟩
    · intro hq
      have hq : seenQ now e = false := hq
      rw [hq] at hsn
      simp only [Bool.false_eq_true, if_false, List.append_nil] at hsn
      (conv => whnf)
      refine ⟨((k + 1 : Nat) : Int), wrap_succ (by omega), ?_⟩; (conv => whnf)
      exact ⟨k + 1, by omega, ⟨by omega, hx6, hs8, by omega, by rw [hsn]; exact hC8⟩, ⟨rfl, rfl, rfl, rfl, rfl, trivial⟩⟩
  · intro hc
    have hc : H.length ≤ k := by simpa using hc
    rw [List.take_of_length_le hc] at hC6
    (conv => whnf)
    refine ⟨b3, fun k => w.heap.size ≤ k ∧ k < w3.heap.size, rfl, ?_, fun k hk => ⟨hk.1, by have := hk.2; omega⟩, hx6⟩
    unfold shownL
    rw [hH]; exact hC6
end Go.Proofs.YtbfjlpoeglcmfaaGreatDoor


/- The budget: Shown, left, Left, Pass. -/
namespace Go.Proofs.YtbfjlpoeglcmfaaGreatDoor
open Go.Se Go.RowKit

theorem bShown_spec {w : World} {base p : Nat} {c : Cfg} {z : List Ev} (hW : WV w base p c z) (person item : ByteArray) (now : Int) (hn : i64ok' now) :
    Cal Tryz.prog 22 [.pointer (some ⟨p, 0, none⟩), .string person, .string item, .int .i64 now] w fun r w' => r = .int .i64 (if tickB now = true then cntB (shownL z person now) item else 0) ∧ Ext w w' := by
  refine fn_intro Tt_ok Tryz.func22 (by rfl) rfl _ rfl rfl (by rfl) ?_; (conv => whnf)
  refine (btick_spec now w).mono ?_
  rintro _ w1 ⟨rfl, hw1⟩
  replace hw1 := hw1.symm
  subst hw1
  (conv => whnf)
  constructor
  · intro hc
    have hc : tickB now = false := by simpa using hc
    (conv => whnf)
    exact ⟨by rw [hc]; rfl, Ext.refl _⟩
  · intro hc
    have hc : tickB now = true := by simpa using hc
    (conv => whnf)
    refine (bshown_spec hW person now hn).mono ?_
    rintro _ w2 ⟨pn, S, rfl, ⟨bi, bm, mi, mm, hC⟩, _, hx2⟩; (conv => whnf)
    refine ⟨_, hC.head.one rfl, ?_⟩; (conv => whnf)
    refine ⟨_, look_cnt hC.items kept_same item (hC.ci item), ?_⟩; (conv => whnf)
    exact ⟨by rw [hc]; rfl, hx2⟩

def minL (a : Int) (l : List Int) : Int := l.foldl min a
theorem bleast_spec (x : Int) (l : List Int) (A : Option Addr) (c : Nat) (w : World) (hs : SlI w A (x :: l)) (hl : l.length < 1000000) :
    Cal Tryz.prog 75 [.slice A (l.length + 1) c] w fun r w' => r = .int .i64 (max (minL x (x :: l)) 0) ∧ Ext w w' := by
  obtain ⟨a, rfl, hc0⟩ := hs 0 x rfl
  refine fn_intro Tt_ok Tryz.func75 (by rfl) rfl _ rfl rfl (by rfl) ?_; (conv => whnf)
  refine ⟨a, ⟨rfl, by omega, by omega⟩, ?_⟩; (conv => whnf)
  refine ⟨_, cells_head hc0, ?_⟩; (conv => whnf)
  refine loop_rule Tt_ok (fun (k : Nat) w' => k ≤ l.length + 1 ∧ w' = w)
    (fun k => [(9, .slice (some a) (l.length + 1) c), (10, .int .i64 (l.length + 1 : Nat)), (11, .int .i64 k), (3, .int .i64 (minL x ((x :: l).take k)))]) (fun k => l.length + 1 - k) 0 ⟨by omega, rfl⟩ ⟨rfl, rfl, rfl, rfl, trivial⟩ ?_
  rintro k w1 ⟨hk, hw1⟩
  replace hw1 := hw1.symm
  subst hw1
  (conv => whnf)
  constructor
  · intro hc
    have hc : k < l.length + 1 := by simp at hc; omega
    have hc' : k < (x :: l).length := by simpa using hc
    obtain ⟨a', ha', hck⟩ := hs.get hc'
    obtain rfl : a = a' := by simpa using ha'
    (conv => whnf)
    refine ⟨a, ⟨rfl, by omega, by omega⟩, ?_⟩; (conv => whnf)
    refine ⟨_, cells_head hck, ?_⟩; (conv => whnf)
    refine ⟨((k + 1 : Nat) : Int), wrap_succ (by omega), ?_⟩; (conv => whnf)
    refine ⟨k + 1, by omega, ⟨by omega, rfl⟩, ⟨rfl, rfl, rfl, ?_, trivial⟩⟩
    rw [take_next (x :: l) k hc']
    unfold minL
    rw [List.foldl_append]
    rfl
  · intro hc
    have hc : l.length + 1 ≤ k := by simp at hc; omega
    (conv => whnf)
    rw [List.take_of_length_le (by simpa using hc)]
    exact ⟨rfl, Ext.refl _⟩
theorem min2 (a b : Int) : max (minL a [a, b]) 0 = max (min a b) 0 := by simp [minL]
def left2 (a b : Int) : Int := max (min a b) 0
def mkAt (z : List Ev) (now : Int) (x : ByteArray) : ByteArray := (itemAt z x now).maker
/-- What is left of a budget for a thing, behind what was shown. -/
def leftN (b : Bd) (z : List Ev) (now : Int) (l : List ByteArray) (x : ByteArray) : Int :=
  if mkAt z now x = ⟨#[]⟩ then left2 (b.item - cntB l x) (b.all - l.length) else left2 (left2 (b.item - cntB l x) (b.all - l.length)) (b.maker - cntB (l.map (mkAt z now)) (mkAt z now x))
theorem bd_bounds {b : Bd} (h : bdB b = true) : (0 ≤ b.item ∧ b.item ≤ 1048576) ∧ (0 ≤ b.maker ∧ b.maker ≤ 1048576) ∧ (0 ≤ b.all ∧ b.all ≤ 1048576) := by
  unfold bdB at h
  simp only [Bool.and_eq_true, in_iff] at h
  exact ⟨h.1.1, h.1.2, h.2⟩
theorem bleft_spec {w0 w : World} {S : Nat → Prop} {base pn p : Nat} {c : Cfg} {now : Int} {z : List Ev} {l : List ByteArray} (b : Bd) (hb : bdB b = true) (hW : WV w0 base p c z) (hx0 : Ext w0 w) (h : CntAt w S pn p now z l) (hl : l.length < 100000000) (x : ByteArray) :
    Cal Tryz.prog 46 [bdV b, .pointer (some ⟨pn, 0, none⟩), .string x] w fun r w' => r = .int .i64 (leftN b z now l x) ∧ Ext w w' := by
  obtain ⟨b1, b2, b3⟩ := bd_bounds hb
  have hc1 := cnt_le l x
  have h0 := h
  obtain ⟨bi, bm, mi, mm, h⟩ := h
  refine fn_intro Tt_ok Tryz.func46 (by rfl) rfl _ rfl rfl (by rfl) ?_; (conv => whnf)
  intro b1 w1 hn1
  have h1 := hn1.At
  have hh := h.head.ext hn1.ext
  have hi := h.items.ext hn1.ext
  have hk := h.makers.ext hn1.ext
  have hx1 := hn1.ext
  clear hn1
  (conv => whnf)
  refine draw_rule .ext [0, 1, 2, 3, 4, 5, 6, 7, 8, 9, 10, 11, 12, 13, 14, 15, 16, 17] [18, 19] Tt_ok mixed (by kernel_rfl) (by first | (intro h; cases h; done) | (intro _; rfl)) ?_; (conv => whnf)
  replace h1 := h1.ext (Ext.refl w1).drew
  replace hh := hh.ext (Ext.refl w1).drew
  replace hi := hi.ext (Ext.refl w1).drew
  replace hk := hk.ext (Ext.refl w1).drew
  replace hx1 := hx1.drew
  generalize w1.drew = w2 at h1 hh hi hk hx1 ⊢
  refine ⟨_, h1.one rfl, ?_⟩; (conv => whnf)
  refine ⟨_, hh.one rfl, ?_⟩; (conv => whnf)
  refine ⟨_, look_cnt hi (kept_ext hi.lt) x (h.ci x), ?_⟩; (conv => whnf)
  refine ⟨b.item - cntB l x, wrap_eq rfl ⟨by omega, by omega⟩, ?_⟩; (conv => whnf)
  refine ⟨_, h1.one rfl, ?_⟩; (conv => whnf)
  refine ⟨_, hh.one rfl, ?_⟩; (conv => whnf)
  refine ⟨b.all - l.length, wrap_eq rfl ⟨by omega, by omega⟩, ?_⟩; (conv => whnf)
  intro b5 w3 hn3
  refine ⟨hn3.ext, ?_⟩; (conv => whnf)
  refine (bleast_spec (b.item - cntB l x) [b.all - l.length] (some ⟨b5, 0, none⟩) 2 w3 (sl_new (enc := intC) intC_len hn3) (by simp)).mono ?_
  rintro _ w4 ⟨rfl, hx4⟩
  rw [min2]
  have hx4' := hx1.trans (hn3.ext.trans hx4)
  have h4 := (h1.ext hn3.ext).ext hx4
  have hh4 := (hh.ext hn3.ext).ext hx4
  have hk4 := (hk.ext hn3.ext).ext hx4
  clear hn3 h1 hh hi hk hx1 hx4
  (conv => whnf)
  repeat (refine seq_go Tt_ok ?_; (conv => whnf))
  refine (bmaker_spec hW (hx0.trans hx4') (h0.ext hx4') x).mono ?_
  rintro _ w5 ⟨rfl, hx5⟩
  replace h4 := h4.ext hx5
  replace hh4 := hh4.ext hx5
  replace hk4 := hk4.ext hx5
  replace hx5 := hx4'.trans hx5
  have hcm := cnt_le (l.map (mkAt z now)) (mkAt z now x)
  rw [List.length_map] at hcm
  (conv => whnf)
  constructor
  · intro hm
    have hm : ¬ (itemAt z x now).maker = ⟨#[]⟩ := by simpa using hm
    have hm : ¬ mkAt z now x = ⟨#[]⟩ := hm
    (conv => whnf)
    refine draw_rule .ext [0, 1, 2, 3, 4, 5, 6, 7, 8, 9, 10, 11] [12, 13] Tt_ok mixed (by kernel_rfl) (by first | (intro h; cases h; done) | (intro _; rfl)) ?_; (conv => whnf)
    replace h4 := h4.ext (Ext.refl w5).drew
    replace hh4 := hh4.ext (Ext.refl w5).drew
    replace hk4 := hk4.ext (Ext.refl w5).drew
    replace hx5 := hx5.drew
    generalize w5.drew = w6 at h4 hh4 hk4 hx5 ⊢
    refine ⟨_, h4.one rfl, ?_⟩; (conv => whnf)
    refine ⟨_, hh4.one rfl, ?_⟩; (conv => whnf)
    refine ⟨.int .i64 (cntB (l.map (mkAt z now)) (mkAt z now x)), look_cnt hk4 (kept_ext hk4.lt) _ (h.cm _ hm), ?_⟩; (conv => whnf)
    refine ⟨b.maker - cntB (l.map (mkAt z now)) (mkAt z now x), wrap_eq rfl ⟨by omega, by omega⟩, ?_⟩; (conv => whnf)
    intro b7 w7 hn7
    refine ⟨hn7.ext, ?_⟩; (conv => whnf)
    refine (bleast_spec (max (min (b.item - cntB l x) (b.all - l.length)) 0) [b.maker - cntB (l.map (mkAt z now)) (mkAt z now x)] (some ⟨b7, 0, none⟩) 2 w7 (sl_new (enc := intC) intC_len hn7) (by simp)).mono ?_
    rintro _ w8 ⟨rfl, hx8⟩
    rw [min2]
    (conv => whnf)
    refine ⟨?_, hx5.trans (hn7.ext.trans hx8)⟩
    unfold leftN
    rw [if_neg hm]
    rfl
  · intro hm
    have hm : (itemAt z x now).maker = ⟨#[]⟩ := by simpa using hm
    have hm : mkAt z now x = ⟨#[]⟩ := hm
    (conv => whnf)
    refine ⟨?_, hx5⟩
    unfold leftN
    rw [if_pos hm]
    rfl
theorem bLeft_spec {w : World} {base p : Nat} {c : Cfg} {z : List Ev} (b : Bd) (hW : WV w base p c z) (person item : ByteArray) (now : Int) (hn : i64ok' now) :
    Cal Tryz.prog 24 [bdV b, .pointer (some ⟨p, 0, none⟩), .string person, .string item, .int .i64 now] w fun r w' => r = .int .i64 (if (tickB now && bdB b) = true then leftN b z now (shownL z person now) item else 0) ∧ Ext w w' := by
  have hsl := shown_len z person now
  have hzl := hW.len
  refine fn_intro Tt_ok Tryz.func24 (by rfl) rfl _ rfl rfl (by rfl) ?_; (conv => whnf)
  intro b1 w1 hn1; (conv => whnf)
  have h1 := hn1.At
  refine (btick_spec now w1).mono ?_
  rintro _ w2 ⟨rfl, hw2⟩
  replace hw2 := hw2.symm
  subst hw2
  (conv => whnf)
  refine ⟨bdC b, fun _ => ⟨rfl, h1.all⟩, ?_⟩; (conv => whnf)
  refine ⟨Unit, fun _ => (.bool (bdB b)), fun _ w' => Ext w1 w', (), fun hg => ((bmay_spec b w1)).mono fun r w' h => ⟨(), h.1, h.2⟩, ?_⟩
  intro _ w3 h2
  have hx3 : Ext w1 w3 := by
    rcases h2 with ⟨_, h⟩ | ⟨_, h⟩
    · exact h
    · rw [h]; exact Ext.refl _
  clear h2
  (conv => whnf)
  replace h1 := h1.ext hx3
  have hx := hn1.ext.trans hx3
  constructor
  · intro hc
    have hc : (!tickB now || !bdB b) = true := hc
    rw [← Bool.not_and] at hc
    (conv => whnf)
    refine ⟨?_, hx⟩
    rw [if_neg (fun h => by rw [h] at hc; cases hc)]
  · intro hc
    have hc : (!tickB now || !bdB b) = false := hc
    rw [← Bool.not_and, Bool.not_eq_false'] at hc
    have hb : bdB b = true := (Bool.and_eq_true_iff.1 hc).2
    (conv => whnf)
    refine draw_rule .ext [0, 1, 2, 3, 5, 4] [6, 7] Tt_ok mixed (by kernel_rfl) (by first | (intro h; cases h; done) | (intro _; rfl)) ?_; (conv => whnf)
    replace h1 := h1.ext (Ext.refl w3).drew
    replace hx := hx.drew
    generalize w3.drew = w4 at h1 hx ⊢
    refine ⟨bdC b, ⟨rfl, h1.all⟩, ?_⟩; (conv => whnf)
    refine (bshown_spec (hW.ext hx) person now hn).mono ?_
    rintro _ w5 ⟨pn, S, rfl, hC, hS, hx5⟩
    refine ⟨hx5, ?_⟩; (conv => whnf)
    refine (bleft_spec b hb hW (hx.trans hx5) hC (by omega) item).mono ?_
    rintro _ w6 ⟨rfl, hx6⟩
    (conv => whnf)
    exact ⟨by rw [if_pos hc], (hx.trans hx5).trans hx6⟩

/-- Those of which something is left, one behind the other. -/
def passStep (b : Bd) (z : List Ev) (now : Int) (st : List ByteArray × List ByteArray) (x : ByteArray) : List ByteArray × List ByteArray :=
  if 0 < leftN b z now st.1 x then (st.1 ++ [x], st.2 ++ [x]) else st
def passS (b : Bd) (z : List Ev) (now : Int) (l items : List ByteArray) : List ByteArray × List ByteArray := items.foldl (passStep b z now) (l, [])
def passL (b : Bd) (z : List Ev) (now : Int) (l items : List ByteArray) : List ByteArray := (passS b z now l items).2
theorem passS_snoc (b : Bd) (z : List Ev) (now : Int) (l items : List ByteArray) (x : ByteArray) : passS b z now l (items ++ [x]) = passStep b z now (passS b z now l items) x := by simp [passS]
theorem passS_len (b : Bd) (z : List Ev) (now : Int) (l items : List ByteArray) : (passS b z now l items).1.length ≤ l.length + items.length ∧ (passS b z now l items).2.length ≤ items.length := by
  induction items using snoc_ind with
  | h0 => simp [passS]
  | h1 xs x ih =>
    rw [passS_snoc]
    unfold passStep
    split
    · simp; omega
    · simp; omega
set_option maxHeartbeats 1000000 in
theorem bPass_spec {w : World} {base p : Nat} {c : Cfg} {z : List Ev} (b : Bd) (hW : WV w base p c z) (person : ByteArray) (now : Int) (hn : i64ok' now) (items : List ByteArray) (A : Option Addr) (cA : Nat) (hs : SlT w A items) (hil : items.length < 1000000) :
    Cal Tryz.prog 17 [bdV b, .pointer (some ⟨p, 0, none⟩), .string person, .int .i64 now, .slice A items.length cA] w fun r w' => ∃ A' c', r = .slice A' (if (tickB now && bdB b) = true then passL b z now (shownL z person now) items else []).length c' ∧ SlT w' A' (if (tickB now && bdB b) = true then passL b z now (shownL z person now) items else []) ∧ Ext w w' := by
  have hsl := shown_len z person now
  have hzl := hW.len
  refine fn_intro Tt_ok Tryz.func17 (by rfl) rfl _ rfl rfl (by rfl) ?_; (conv => whnf)
  intro b1 w1 hn1; (conv => whnf)
  have h1 := hn1.At
  have e1 := hn1.block
  refine (btick_spec now w1).mono ?_
  rintro _ w2 ⟨rfl, hw2⟩
  replace hw2 := hw2.symm
  subst hw2
  (conv => whnf)
  refine ⟨bdC b, fun _ => ⟨rfl, h1.all⟩, ?_⟩; (conv => whnf)
  refine ⟨Unit, fun _ => (.bool (bdB b)), fun _ w' => Ext w1 w', (), fun hg => ((bmay_spec b w1)).mono fun r w' h => ⟨(), h.1, h.2⟩, ?_⟩
  intro _ w3 h2
  have hx3 : Ext w1 w3 := by
    rcases h2 with ⟨_, h⟩ | ⟨_, h⟩
    · exact h
    · rw [h]; exact Ext.refl _
  clear h2
  (conv => whnf)
  replace h1 := h1.ext hx3
  have hx := hn1.ext.trans hx3
  constructor
  · intro hc
    have hc : (!tickB now || !bdB b) = true := hc
    rw [← Bool.not_and] at hc
    (conv => whnf)
    rw [if_neg (fun h => by rw [h] at hc; cases hc)]
    exact ⟨none, 0, rfl, Sl.nil, hx⟩
  · intro hc
    have hc : (!tickB now || !bdB b) = false := hc
    rw [← Bool.not_and, Bool.not_eq_false'] at hc
    have hb : bdB b = true := (Bool.and_eq_true_iff.1 hc).2
    rw [if_pos hc]
    (conv => whnf)
    refine (bshown_spec (hW.ext hx) person now hn).mono ?_
    rintro _ w5 ⟨pn, S, rfl, hC, hS, hx5⟩
    (conv => whnf)
    generalize shownL z person now = l0 at hC hsl
    have hS' : ∀ k, S k → w.heap.size ≤ k := fun k hk => by have := (hS k hk).1; have := hx.size; omega
    have hb1 : ¬ S b1 := fun h => by have := (hS b1 h).1; have := h1.lt; omega
    have hx5' := hx.trans hx5
    have z5 := hx5'.size
    have hb1lt : b1 < w5.heap.size := (h1.ext hx5).lt
    refine loop_rule Tt_ok (fun (i : Nat × Option Addr × Nat) w' => i.1 ≤ items.length ∧ Ext w w' ∧ w5.heap.size ≤ w'.heap.size ∧ At w' b1 27 (bdC b) ∧ CntAt w' S pn p now z (passS b z now l0 (items.take i.1)).1 ∧ Own strE 1 9 w5.heap.size w' i.2.1 i.2.2 (passL b z now l0 (items.take i.1)))
      (fun i => [(5, .pointer (some ⟨b1, 0, none⟩)), (11, .pointer (some ⟨pn, 0, none⟩)), (12, .slice i.2.1 (passL b z now l0 (items.take i.1)).length i.2.2), (27, .slice A items.length cA), (28, .int .i64 items.length), (29, .int .i64 i.1)]) (fun i => items.length - i.1) (0, none, 0)
      ⟨by simp, hx5', Nat.le_refl _, h1.ext hx5, hC, Own.nil⟩ ⟨rfl, rfl, rfl, rfl, rfl, rfl, trivial⟩ ?_
    clear hC h1 hx5 hx5' hn1 hx3
    rintro ⟨k, A6, c6⟩ w6 ⟨hk, hx6, hz6, h6, hC6, hown6⟩
    simp only at hk hC6 hown6
    have hpl := passS_len b z now l0 (items.take k)
    rw [List.length_take] at hpl
    (conv => whnf)
    constructor
    · intro hlt
      have hlt : k < items.length := by simpa using hlt
      obtain ⟨a, rfl, hce⟩ := hs.get hlt
      have htk := take_next items k hlt
      generalize items[k] = x at hce htk
      have hps := passS_snoc b z now l0 (items.take k) x
      rw [← htk] at hps
      unfold passL at hown6 ⊢
      generalize passS b z now l0 (items.take k) = st at hC6 hown6 hps hpl
      (conv => whnf)
      repeat (refine seq_go Tt_ok ?_; (conv => whnf))
      refine ⟨a, ⟨rfl, by omega, by omega⟩, ?_⟩; (conv => whnf)
      refine ⟨_, hx6.cell (cells_head hce), ?_⟩; (conv => whnf)
      refine ⟨bdC b, ⟨rfl, h6.all⟩, ?_⟩; (conv => whnf)
      refine (bleft_spec b hb hW hx6 hC6 (by omega) x).mono ?_
      rintro _ w7 ⟨rfl, hx7⟩
      replace h6 := h6.ext hx7
      replace hC6 := hC6.ext hx7
      replace hown6 := hown6.ext hx7
      have z7 := hx7.size
      replace hx6 := hx6.trans hx7
      (conv => whnf)
      constructor
      · intro hq
        have hq : 0 < leftN b z now st.1 x := by simpa using hq
        have hst : passStep b z now st x = (st.1 ++ [x], st.2 ++ [x]) := if_pos hq
        rw [hst] at hps
        (conv => whnf)
        refine (bshow_spec hW hx6 hS' hC6 (by omega) x).mono ?_
        rintro _ w8 ⟨rfl, hC8, hx8, hM8⟩
        have h8 := h6.mod hM8 hb1
        have hown8 := hown6.keep fun a ha => hM8.block _ (hown6.block ha).2 (fun h => by have := (hS _ h).2; have := (hown6.block ha).1; omega)
        have z8 := hM8.size
        (conv => whnf)
        intro b9 w9 hn9; (conv => whnf)
        have s9 := hn9.size
        refine append_strs (l := st.2) (news := [x]) (hown8.ext hn9.ext) (sl_new strE_len hn9) (by simp; omega) (by omega) fun A10 c10 w10 hown10 hg10 hA10 => ?_
        (conv => whnf)
        have hM10 : Mod (fun k => w5.heap.size ≤ k) w9 w10 := mod_grown hg10 fun j hj => by
          cases A6 with
          | none => simp at hj
          | some a6 => have := (hown8.block (a := a6) rfl).1; simp at hj; omega
        refine ⟨((k + 1 : Nat) : Int), wrap_succ (by omega), ?_⟩; (conv => whnf)
        refine ⟨(k + 1, A10, c10), by simp; omega, ⟨by simp; omega, ext_trans_mod (hx8.trans hn9.ext) hM10 (fun j hj => by omega), by have := hM10.size; omega, (h8.ext hn9.ext).mod hM10 (by omega), ?_, by rw [hps]; exact hown10⟩, ⟨rfl, rfl, by rw [hps]; rfl, rfl, rfl, rfl, trivial⟩⟩
        rw [hps]
        exact (hC8.ext hn9.ext).mod hM10 fun j hj hj' => by have := (hS j hj).2; omega
      · intro hq
        have hq : ¬ 0 < leftN b z now st.1 x := by simpa using hq
        have hst : passStep b z now st x = st := if_neg hq
        rw [hst] at hps
        (conv => whnf)
        refine ⟨((k + 1 : Nat) : Int), wrap_succ (by omega), ?_⟩; (conv => whnf)
        exact ⟨(k + 1, A6, c6), by simp; omega, ⟨by simp; omega, hx6, by omega, h6, by rw [hps]; exact hC6, by rw [hps]; exact hown6⟩, ⟨rfl, rfl, by rw [hps]; rfl, rfl, rfl, rfl, trivial⟩⟩
    · intro hge
      have hge : items.length ≤ k := by simpa using hge
      rw [List.take_of_length_le hge] at hown6
      (conv => whnf)
      rw [List.take_of_length_le hge]
      exact ⟨A6, c6, rfl, hown6.sl strE_len, hx6⟩
end Go.Proofs.YtbfjlpoeglcmfaaGreatDoor


/- The document's budget; lists of texts that are alike. -/
namespace Go.Proofs.YtbfjlpoeglcmfaaGreatDoor
open Go.Se Go.RowKit

theorem texts_spec (l m : List ByteArray) (A B : Option Addr) (c d : Nat) (w : World) (hs : SlT w A l) (hm : SlT w B m) (hl : l.length < 1000000000000) :
    Cal Tryz.prog 19 [.slice A l.length c, .slice B m.length d] w fun r w' => r = .bool (decide (l = m)) ∧ Ext w w' := by
  refine fn_intro Tt_ok Tryz.func19 (by rfl) rfl _ rfl rfl (by rfl) ?_; (conv => whnf)
  constructor
  · intro h
    have h : ¬ l.length = m.length := by simp at h; omega
    (conv => whnf)
    refine ⟨?_, Ext.refl _⟩
    rw [decide_eq_false (fun e => h (by rw [e]))]
  · intro h
    have h : l.length = m.length := by simp at h; omega
    (conv => whnf)
    refine loop_rule Tt_ok (fun (k : Nat) w' => k ≤ l.length ∧ Ext w w' ∧ ∀ i, i < k → l[i]? = m[i]?)
      (fun k => [(0, .slice A l.length c), (1, .slice B m.length d), (5, .int .i64 k)]) (fun k => l.length - k) 0 ⟨by omega, Ext.refl _, fun i h => by omega⟩ ⟨rfl, rfl, rfl, trivial⟩ ?_
    rintro k w1 ⟨hk, hx, hall⟩
    (conv => whnf)
    constructor
    · intro hlt
      have hlt : k < l.length := by simpa using hlt
      obtain ⟨a, rfl, hc1⟩ := hs.get hlt
      obtain ⟨b, rfl, hc2⟩ := hm.get (show k < m.length by omega)
      (conv => whnf)
      refine draw_rule .same [0, 1, 2, 3, 4, 5, 6, 7, 8] [] Tt_ok mixed (by kernel_rfl) (by first | (intro h; cases h; done) | (intro _; rfl)) ?_; (conv => whnf)
      replace hx := hx.drew
      generalize w1.drew = w2 at hx ⊢
      refine ⟨a, ⟨rfl, by omega, by omega⟩, ?_⟩; (conv => whnf)
      refine ⟨_, hx.cell (cells_head hc1), ?_⟩; (conv => whnf)
      refine ⟨b, ⟨rfl, by omega, by omega⟩, ?_⟩; (conv => whnf)
      refine ⟨_, hx.cell (cells_head hc2), ?_⟩; (conv => whnf)
      constructor
      · intro hne
        have hne : ¬ l[k] = m[k]'(by omega) := by simpa using hne
        (conv => whnf)
        refine ⟨?_, hx⟩
        rw [decide_eq_false (fun e => hne (by subst e; rfl))]
      · intro heq
        have heq : l[k] = m[k]'(by omega) := by simpa using heq
        (conv => whnf)
        refine ⟨((k + 1 : Nat) : Int), wrap_succ (by omega), ?_⟩; (conv => whnf)
        refine ⟨k + 1, by omega, ⟨by omega, hx, fun i hi => ?_⟩, ⟨rfl, rfl, rfl, trivial⟩⟩
        by_cases e : i = k
        · subst e; rw [List.getElem?_eq_getElem hlt, List.getElem?_eq_getElem (by omega), heq]
        · exact hall i (by omega)
    · intro hge
      have hge : l.length ≤ k := by simpa using hge
      (conv => whnf)
      refine ⟨?_, hx⟩
      rw [decide_eq_true]
      apply List.ext_getElem?
      intro i
      by_cases hi : i < k
      · exact hall i hi
      · rw [List.getElem?_eq_none (by omega), List.getElem?_eq_none (by omega)]

theorem rleast_spec (a b : Int) (w : World) : Cal Tryz.prog 51 [.int .i64 a, .int .i64 b] w fun r w' => r = .int .i64 (left2 a b) ∧ w' = w := by
  refine fn_intro Tt_ok Tryz.func51 (by rfl) rfl _ rfl rfl (by rfl) ?_; (conv => whnf)
  repeat (refine seq_go Tt_ok ?_; (conv => whnf))
  unfold left2
  constructor
  · intro hc
    have hc : b < a := by simpa using hc
    (conv => whnf)
    constructor
    · intro h
      have h : b < 0 := by simpa using h
      (conv => whnf)
      refine ⟨?_, rfl⟩
      congr 1; omega
    · intro h
      have h : ¬ b < 0 := by simpa using h
      (conv => whnf)
      refine ⟨?_, rfl⟩
      congr 1; omega
  · intro hc
    have hc : ¬ b < a := by simpa using hc
    (conv => whnf)
    constructor
    · intro h
      have h : a < 0 := by simpa using h
      (conv => whnf)
      refine ⟨?_, rfl⟩
      congr 1; omega
    · intro h
      have h : ¬ a < 0 := by simpa using h
      (conv => whnf)
      refine ⟨?_, rfl⟩
      congr 1; omega
/-- A thing that was shown, and its maker. -/
abbrev Sh := ByteArray × ByteArray
def shC (s : Sh) : List Value := [.string s.1, .string s.2]
theorem shC_len (s : Sh) : (shC s).length = 2 := rfl
theorem shC_one (s : Sh) : ∀ u ∈ shC s, u.oneCell' = true := by simp [shC, Value.oneCell']
abbrev SlS2 := Sl shC 2
theorem rowSh : RowT Tryz.prog 31 33 shC 2 32 := ⟨by kernel_rfl, ⟨_, ty33_ok, rfl, rfl⟩, by33, by decide, by decide, shC_len, shC_one⟩
def rleftN (item maker all : Int) (l : List Sh) (x : Sh) : Int :=
  if x.2 = ⟨#[]⟩ then left2 (item - cntB (l.map (·.1)) x.1) (all - l.length) else left2 (left2 (item - cntB (l.map (·.1)) x.1) (all - l.length)) (maker - cntB (l.map (·.2)) x.2)
theorem rleft_spec (item maker all : Int) (hi : 0 ≤ item ∧ item ≤ 1048576) (hm : 0 ≤ maker ∧ maker ≤ 1048576) (ha : 0 ≤ all ∧ all ≤ 1048576) (l : List Sh) (x : Sh) (A : Option Addr) (c : Nat) (w : World) (hs : SlS2 w A l) (hl : l.length < 1000000) :
    Cal Tryz.prog 25 [.int .i64 item, .int .i64 maker, .int .i64 all, .slice A l.length c, .agg (shC x).toArray] w fun r w' => r = .int .i64 (rleftN item maker all l x) ∧ Ext w w' := by
  refine fn_intro Tt_ok Tryz.func25 (by rfl) rfl _ rfl rfl (by rfl) ?_; (conv => whnf)
  intro b1 w1 hn1; (conv => whnf)
  have h1 : At w1 b1 _ (shC x) := hn1.At
  refine loop_rule Tt_ok (fun (k : Nat) w' => k ≤ l.length ∧ Ext w w' ∧ At w' b1 33 (shC x))
    (fun k => [(0, .int .i64 item), (1, .int .i64 maker), (2, .int .i64 all), (3, .slice A l.length c), (9, .pointer (some ⟨b1, 0, none⟩)), (13, .int .i64 k), (11, .int .i64 (cntB ((l.take k).map (·.1)) x.1)), (12, .int .i64 (cntB ((l.take k).map (·.2)) x.2))]) (fun k => l.length - k) 0
    ⟨by omega, hn1.ext, h1⟩ ⟨rfl, rfl, rfl, rfl, rfl, rfl, rfl, rfl, trivial⟩ ?_
  rintro k w2 ⟨hk, hx2, h2⟩
  have hc1 := cnt_le ((l.take k).map (·.1)) x.1
  have hc2 := cnt_le ((l.take k).map (·.2)) x.2
  rw [List.length_map, List.length_take] at hc1 hc2
  (conv => whnf)
  constructor
  · intro hlt
    have hlt : k < l.length := by simpa using hlt
    obtain ⟨a, rfl, hce⟩ := hs.get hlt
    have htk := take_next l k hlt
    generalize l[k] = y at hce htk
    have hs1 : cntB ((l.take (k + 1)).map (·.1)) x.1 = cntB ((l.take k).map (·.1)) x.1 + if x.1 = y.1 then 1 else 0 := by rw [htk, List.map_append, List.map_cons, List.map_nil, cnt_snoc]
    have hs2 : cntB ((l.take (k + 1)).map (·.2)) x.2 = cntB ((l.take k).map (·.2)) x.2 + if x.2 = y.2 then 1 else 0 := by rw [htk, List.map_append, List.map_cons, List.map_nil, cnt_snoc]
    (conv => whnf)
    repeat (refine seq_go Tt_ok ?_; (conv => whnf))
    refine draw_rule .same [0, 1, 2, 3, 4, 5, 6, 7] [] Tt_ok mixed (by kernel_rfl) (by first | (intro h; cases h; done) | (intro _; rfl)) ?_; (conv => whnf)
    replace hx2 := hx2.drew
    replace h2 : At w2.drew b1 _ _ := h2
    generalize w2.drew = w3 at hx2 h2 ⊢
    have hce3 := hx2.cells hce
    refine ⟨a, ⟨rfl, by omega, by omega⟩, ?_⟩; (conv => whnf)
    refine ⟨_, cells_at hce3 (k := 0) rfl, ?_⟩; (conv => whnf)
    refine ⟨_, h2.one rfl, ?_⟩; (conv => whnf)
    constructor
    · intro hq
      have hq : y.1 = x.1 := by simpa using hq
      rw [if_pos hq.symm] at hs1
      (conv => whnf)
      refine ⟨cntB ((l.take (k + 1)).map (·.1)) x.1, wrap_eq (by omega) ⟨by omega, by omega⟩, ?_⟩; (conv => whnf)
      refine draw_rule .same [0, 1, 2, 3, 4, 5, 6, 7] [] Tt_ok mixed (by kernel_rfl) (by first | (intro h; cases h; done) | (intro _; rfl)) ?_; (conv => whnf)
      replace hx2 := hx2.drew
      replace h2 : At w3.drew b1 _ _ := h2
      generalize w3.drew = w4 at hx2 h2 ⊢
      have hce4 := hx2.cells hce
      refine ⟨a, ⟨rfl, by omega, by omega⟩, ?_⟩; (conv => whnf)
      refine ⟨_, cells_at hce4 (k := 1) rfl, ?_⟩; (conv => whnf)
      refine ⟨_, h2.one rfl, ?_⟩; (conv => whnf)
      constructor
      · intro hq2
        have hq2 : y.2 = x.2 := by simpa using hq2
        rw [if_pos hq2.symm] at hs2
        (conv => whnf)
        refine ⟨cntB ((l.take (k + 1)).map (·.2)) x.2, wrap_eq (by omega) ⟨by omega, by omega⟩, ?_⟩; (conv => whnf)
        refine ⟨((k + 1 : Nat) : Int), wrap_succ (by omega), ?_⟩; (conv => whnf)
        exact ⟨k + 1, by omega, ⟨by omega, hx2, h2⟩, ⟨rfl, rfl, rfl, rfl, rfl, rfl, rfl, rfl, trivial⟩⟩
      · intro hq2
        have hq2 : ¬ y.2 = x.2 := by simpa using hq2
        rw [if_neg (Ne.symm hq2), Int.add_zero] at hs2
        (conv => whnf)
        refine ⟨((k + 1 : Nat) : Int), wrap_succ (by omega), ?_⟩; (conv => whnf)
        exact ⟨k + 1, by omega, ⟨by omega, hx2, h2⟩, ⟨rfl, rfl, rfl, rfl, rfl, rfl, rfl, by rw [hs2]; rfl, trivial⟩⟩
    · intro hq
      have hq : ¬ y.1 = x.1 := by simpa using hq
      rw [if_neg (Ne.symm hq), Int.add_zero] at hs1
      (conv => whnf)
      refine draw_rule .same [0, 1, 2, 3, 4, 5, 6, 7] [] Tt_ok mixed (by kernel_rfl) (by first | (intro h; cases h; done) | (intro _; rfl)) ?_; (conv => whnf)
      replace hx2 := hx2.drew
      replace h2 : At w3.drew b1 _ _ := h2
      generalize w3.drew = w4 at hx2 h2 ⊢
      have hce4 := hx2.cells hce
      refine ⟨a, ⟨rfl, by omega, by omega⟩, ?_⟩; (conv => whnf)
      refine ⟨_, cells_at hce4 (k := 1) rfl, ?_⟩; (conv => whnf)
      refine ⟨_, h2.one rfl, ?_⟩; (conv => whnf)
      constructor
      · intro hq2
        have hq2 : y.2 = x.2 := by simpa using hq2
        rw [if_pos hq2.symm] at hs2
        (conv => whnf)
        refine ⟨cntB ((l.take (k + 1)).map (·.2)) x.2, wrap_eq (by omega) ⟨by omega, by omega⟩, ?_⟩; (conv => whnf)
        refine ⟨((k + 1 : Nat) : Int), wrap_succ (by omega), ?_⟩; (conv => whnf)
        exact ⟨k + 1, by omega, ⟨by omega, hx2, h2⟩, ⟨rfl, rfl, rfl, rfl, rfl, rfl, by rw [hs1]; rfl, rfl, trivial⟩⟩
      · intro hq2
        have hq2 : ¬ y.2 = x.2 := by simpa using hq2
        rw [if_neg (Ne.symm hq2), Int.add_zero] at hs2
        (conv => whnf)
        refine ⟨((k + 1 : Nat) : Int), wrap_succ (by omega), ?_⟩; (conv => whnf)
        exact ⟨k + 1, by omega, ⟨by omega, hx2, h2⟩, ⟨rfl, rfl, rfl, rfl, rfl, rfl, by rw [hs1]; rfl, by rw [hs2]; rfl, trivial⟩⟩
  · intro hge
    have hge : l.length ≤ k := by simpa using hge
    rw [List.take_of_length_le hge] at hc1 hc2 ⊢
    (conv => whnf)
    refine ⟨item - cntB (l.map (·.1)) x.1, wrap_eq rfl ⟨by omega, by omega⟩, ?_⟩; (conv => whnf)
    refine ⟨all - l.length, wrap_eq rfl ⟨by omega, by omega⟩, ?_⟩; (conv => whnf)
    refine (rleast_spec _ _ w2).mono ?_
    rintro _ w3 ⟨rfl, hw3⟩
    replace hw3 := hw3.symm
    subst hw3
    (conv => whnf)
    repeat (refine seq_go Tt_ok ?_; (conv => whnf))
    refine ⟨_, h2.one rfl, ?_⟩; (conv => whnf)
    unfold rleftN
    constructor
    · intro hq
      have hq : ¬ x.2 = ⟨#[]⟩ := by simpa using hq
      rw [if_neg hq]
      (conv => whnf)
      refine ⟨maker - cntB (l.map (·.2)) x.2, wrap_eq rfl ⟨by omega, by omega⟩, ?_⟩; (conv => whnf)
      refine (rleast_spec _ _ w2).mono ?_
      rintro _ w3 ⟨rfl, hw3⟩
      replace hw3 := hw3.symm
      subst hw3
      (conv => whnf)
      exact ⟨rfl, hx2⟩
    · intro hq
      have hq : x.2 = ⟨#[]⟩ := by simpa using hq
      rw [if_pos hq]
      (conv => whnf)
      exact ⟨rfl, hx2⟩
def rpassStep (item maker all : Int) (st : List Sh × List ByteArray) (x : Sh) : List Sh × List ByteArray := if 0 < rleftN item maker all st.1 x then (st.1 ++ [x], st.2 ++ [x.1]) else st
def rpassS (item maker all : Int) (l asked : List Sh) : List Sh × List ByteArray := asked.foldl (rpassStep item maker all) (l, [])
theorem rpassS_snoc (item maker all : Int) (l asked : List Sh) (x : Sh) : rpassS item maker all l (asked ++ [x]) = rpassStep item maker all (rpassS item maker all l asked) x := by simp [rpassS]
theorem rpassS_len (item maker all : Int) (l asked : List Sh) : (rpassS item maker all l asked).1.length ≤ l.length + asked.length ∧ (rpassS item maker all l asked).2.length ≤ asked.length := by
  induction asked using snoc_ind with
  | h0 => simp [rpassS]
  | h1 xs x ih =>
    rw [rpassS_snoc]
    unfold rpassStep
    split
    · simp; omega
    · simp; omega
set_option maxHeartbeats 1000000 in
theorem rpass_spec (item maker all : Int) (hi : 0 ≤ item ∧ item ≤ 1048576) (hm : 0 ≤ maker ∧ maker ≤ 1048576) (ha : 0 ≤ all ∧ all ≤ 1048576) (l asked : List Sh) (A B : Option Addr) (c d : Nat) (w : World) (hs : SlS2 w A l) (ht : SlS2 w B asked) (hl : l.length < 100000) (hal : asked.length < 100000) :
    Cal Tryz.prog 20 [.int .i64 item, .int .i64 maker, .int .i64 all, .slice A l.length c, .slice B asked.length d] w fun r w' => ∃ A' c', r = .slice A' (rpassS item maker all l asked).2.length c' ∧ SlT w' A' (rpassS item maker all l asked).2 ∧ Ext w w' := by
  refine fn_intro Tt_ok Tryz.func20 (by rfl) rfl _ rfl rfl (by rfl) ?_; (conv => whnf)
  refine loop_rule Tt_ok (fun (i : Nat × (Option Addr × Nat) × Option Addr × Nat) w' => i.1 ≤ asked.length ∧ Ext w w' ∧ SlS2 w' i.2.1.1 (rpassS item maker all l (asked.take i.1)).1 ∧ Own strE 1 9 w.heap.size w' i.2.2.1 i.2.2.2 (rpassS item maker all l (asked.take i.1)).2 ∧ (∀ a b, i.2.1.1 = some a → i.2.2.1 = some b → a.block ≠ b.block))
    (fun i => [(0, .int .i64 item), (1, .int .i64 maker), (2, .int .i64 all), (3, .slice i.2.1.1 (rpassS item maker all l (asked.take i.1)).1.length i.2.1.2), (4, .slice B asked.length d), (11, .slice i.2.2.1 (rpassS item maker all l (asked.take i.1)).2.length i.2.2.2), (12, .int .i64 i.1)]) (fun i => asked.length - i.1) (0, (A, c), none, 0)
    ⟨by simp, Ext.refl _, hs, Own.nil, by simp⟩ ⟨rfl, rfl, rfl, rfl, rfl, rfl, rfl, trivial⟩ ?_
  rintro ⟨k, ⟨A1, c1⟩, A2, c2⟩ w1 ⟨hk, hx1, hs1, hown1, hne1⟩
  simp only at hk hs1 hown1 hne1
  have hpl := rpassS_len item maker all l (asked.take k)
  rw [List.length_take] at hpl
  (conv => whnf)
  constructor
  · intro hlt
    have hlt : k < asked.length := by simpa using hlt
    obtain ⟨a, rfl, hce⟩ := ht.get hlt
    have htk := take_next asked k hlt
    generalize asked[k] = x at hce htk
    have hps := rpassS_snoc item maker all l (asked.take k) x
    rw [← htk] at hps
    generalize rpassS item maker all l (asked.take k) = st at hs1 hown1 hps hpl
    (conv => whnf)
    repeat (refine seq_go Tt_ok ?_; (conv => whnf))
    refine ⟨a, ⟨rfl, by omega, by omega⟩, ?_⟩; (conv => whnf)
    refine ⟨shC x, ⟨rfl, hx1.cells hce⟩, ?_⟩; (conv => whnf)
    refine (rleft_spec item maker all hi hm ha st.1 x A1 c1 w1 hs1 (by omega)).mono ?_
    rintro _ w2 ⟨rfl, hx2⟩
    replace hs1 := hs1.ext hx2
    replace hown1 := hown1.ext hx2
    replace hx1 := hx1.trans hx2
    (conv => whnf)
    constructor
    · intro hq
      have hq : 0 < rleftN item maker all st.1 x := by simpa using hq
      have hst : rpassStep item maker all st x = (st.1 ++ [x], st.2 ++ [x.1]) := if_pos hq
      rw [hst] at hps
      (conv => whnf)
      refine ⟨a, ⟨rfl, by omega, by omega⟩, ?_⟩; (conv => whnf)
      refine ⟨_, cells_at (hx1.cells hce) (k := 0) rfl, ?_⟩; (conv => whnf)
      intro b3 w3 hn3; (conv => whnf)
      have hx3 := hx1.trans hn3.ext
      refine append_row rowStr (l := st.2) (news := [x.1]) rfl (hown1.ext hn3.ext) rfl (rowStr.new1 hn3) (by simp; omega) hx3.size fun A4 c4 w4 hown4 hg4 hA4 => ?_
      have hx4 : Ext w w4 := ext_grown hx3 hg4 (own_ge hown1)
      have hce4 := hx4.cells hce
      have hs4 : SlS2 w4 A1 st.1 := rowSh.stay (hs1.ext hn3.ext) fun a' ha' hlt' => hg4.block _ hlt' (fun e' => by
        cases A2 with
        | none => simp at e'
        | some b' => have := hne1 a' b' ha' rfl; simp at e'; exact this e')
      (conv => whnf)
      refine sem_cut (ι := Option Addr × Nat) (fun j => [(0, .int .i64 item), (1, .int .i64 maker), (2, .int .i64 all), (3, .slice j.1 (st.1 ++ [x]).length j.2), (4, .slice (some a) asked.length d), (11, .slice A4 (st.2 ++ [x.1]).length c4), (12, .int .i64 k)])
        (fun j w' => Ext w4 w' ∧ Own shC 2 33 w4.heap.size w' j.1 j.2 (st.1 ++ [x])) ?_ ?_
      · refine draw_plan (.mods (fun k => w4.heap.size ≤ k)) (Pl.seq [1, 3, 4, 5, 6] (Pl.two 0 (Pl.seq [] (Pl.two 2 (Pl.seq [7, 8, 9] Pl.done) 7 (Pl.seq [2, 8, 9] Pl.done))) 7 (Pl.seq [0, 2, 8, 9] Pl.done))) (by intro h; cases h) Tt_ok mixed (by kernel_rfl) ?_; (conv => whnf)
        replace hce4 : CellsAt w4.drew (a.add (k * 2)) (shC x) := hce4
        replace hs4 := hs4.ext (Ext.refl w4).drew
        have hx5 := (Ext.refl w4).drew
        have ha4 : ¬ (w4.heap.size ≤ (a.add (k * 2)).block) := by have := cell_lt (cells_head hce4); exact Nat.not_le.2 this
        generalize w4.drew = w5 at hce4 hs4 hx5 ⊢
        refine ⟨a, ⟨rfl, by omega, by omega⟩, ?_⟩; (conv => whnf)
        refine ⟨shC x, ⟨rfl, hce4, ha4⟩, ?_⟩; (conv => whnf)
        refine ⟨?_, ?_⟩
        · intro b6 w6 hn6
          have o6 := (rowSh).made (base := w4.heap.size) hn6 (hx5).size
          refine ⟨Mod.of_ext hn6.ext, ?_⟩; (conv => whnf)
          refine ⟨?_, ?_⟩
          · refine append_row rowSh (l := []) (news := st.1) rfl (o6) (rfl) ((hs4).ext hn6.ext) (by simp; omega) (Nat.le_trans (hx5).size hn6.ext.size) fun A7 c7 w7 hown7 hg7 hA7 => ?_
            refine ⟨mod_grown hg7 (own_ge o6), ?_⟩; (conv => whnf)
            intro b8 w8 hn8
            refine ⟨Mod.of_ext hn8.ext, ?_⟩; (conv => whnf)
            refine append_row rowSh (l := st.1) (news := [x]) rfl (hown7.ext hn8.ext) rfl ((rowSh).new1 hn8) (by simp; omega) (Nat.le_trans (Nat.le_trans (Nat.le_trans (hx5).size hn6.ext.size) hg7.size) hn8.ext.size) fun A9 c9 w9 hown9 hg9 hA9 => ?_
            refine ⟨mod_grown hg9 (own_ge hown7), ?_⟩; (conv => whnf)
            exact ⟨(A9, c9), ⟨ext_grown ((ext_grown ((hx5).trans hn6.ext) hg7 (own_ge o6)).trans hn8.ext) hg9 (own_ge hown7), hown9⟩, ⟨rfl, rfl, rfl, rfl, rfl, rfl, rfl, trivial⟩⟩
          · intro b8 w8 hn8
            refine ⟨Mod.of_ext hn8.ext, ?_⟩; (conv => whnf)
            refine append_row rowSh (l := []) (news := st.1) rfl (o6.ext hn8.ext) (rfl) (((hs4).ext hn6.ext).ext hn8.ext) (by simp; omega) (Nat.le_trans (Nat.le_trans (hx5).size hn6.ext.size) hn8.ext.size) fun A7 c7 w7 hown7 hg7 hA7 => ?_
            refine ⟨mod_grown hg7 (own_ge o6), ?_⟩; (conv => whnf)
            have h8 := sl_stay ((rowSh).new1 hn8) (w1 := w7) (fun a' ha' => by
              obtain rfl : (⟨b8, 0, none⟩ : Addr) = a' := by simpa using ha'
              exact hg7.block b8 (by rw [hn8.block]; have := hn6.size; have := hn8.size; omega) (fun e' => by
                have h68 : b8 = b6 := by simpa using e'
                have := hn6.size
                have := hn8.size
                rw [hn6.block, hn8.block] at h68
                omega))
            refine append_row rowSh (l := st.1) (news := [x]) rfl (hown7) rfl (h8) (by simp; omega) (Nat.le_trans (Nat.le_trans (Nat.le_trans (hx5).size hn6.ext.size) hn8.ext.size) hg7.size) fun A9 c9 w9 hown9 hg9 hA9 => ?_
            refine ⟨mod_grown hg9 (own_ge hown7), ?_⟩; (conv => whnf)
            exact ⟨(A9, c9), ⟨ext_grown (ext_grown (((hx5).trans hn6.ext).trans hn8.ext) hg7 (own_ge o6)) hg9 (own_ge hown7), hown9⟩, ⟨rfl, rfl, rfl, rfl, rfl, rfl, rfl, trivial⟩⟩
        · intro b8 w8 hn8
          refine ⟨Mod.of_ext hn8.ext, ?_⟩; (conv => whnf)
          intro b6 w6 hn6
          have o6 := (rowSh).made (base := w4.heap.size) hn6 (Nat.le_trans (hx5).size hn8.ext.size)
          refine ⟨Mod.of_ext hn6.ext, ?_⟩; (conv => whnf)
          refine append_row rowSh (l := []) (news := st.1) rfl (o6) (rfl) (((hs4).ext hn8.ext).ext hn6.ext) (by simp; omega) (Nat.le_trans (Nat.le_trans (hx5).size hn8.ext.size) hn6.ext.size) fun A7 c7 w7 hown7 hg7 hA7 => ?_
          refine ⟨mod_grown hg7 (own_ge o6), ?_⟩; (conv => whnf)
          have h8 := sl_stay (((rowSh).new1 hn8).ext hn6.ext) (w1 := w7) (fun a' ha' => by
            obtain rfl : (⟨b8, 0, none⟩ : Addr) = a' := by simpa using ha'
            exact hg7.block b8 (by rw [hn8.block]; have := hn6.size; have := hn8.size; omega) (fun e' => by
              have h68 : b8 = b6 := by simpa using e'
              have := hn6.size
              have := hn8.size
              rw [hn6.block, hn8.block] at h68
              omega))
          refine append_row rowSh (l := st.1) (news := [x]) rfl (hown7) rfl (h8) (by simp; omega) (Nat.le_trans (Nat.le_trans (Nat.le_trans (hx5).size hn8.ext.size) hn6.ext.size) hg7.size) fun A9 c9 w9 hown9 hg9 hA9 => ?_
          refine ⟨mod_grown hg9 (own_ge hown7), ?_⟩; (conv => whnf)
          exact ⟨(A9, c9), ⟨ext_grown (ext_grown (((hx5).trans hn8.ext).trans hn6.ext) hg7 (own_ge o6)) hg9 (own_ge hown7), hown9⟩, ⟨rfl, rfl, rfl, rfl, rfl, rfl, rfl, trivial⟩⟩
      · rintro ⟨A5, c5⟩ w5 ⟨hx5, hown5⟩
        (conv => whnf)
        refine ⟨((k + 1 : Nat) : Int), wrap_succ (by omega), ?_⟩; (conv => whnf)
        refine ⟨(k + 1, (A5, c5), A4, c4), by simp; omega, ⟨by simp; omega, hx4.trans hx5, by rw [hps]; exact hown5.sl shC_len, by rw [hps]; exact hown4.ext hx5, fun a' b' h1 h2 => ?_⟩, ⟨rfl, rfl, rfl, by rw [hps]; rfl, rfl, by rw [hps]; rfl, rfl, trivial⟩⟩
        have := (hown5.block h1).1
        have := (hown4.block h2).2
        omega
    · intro hq
      have hq : ¬ 0 < rleftN item maker all st.1 x := by simpa using hq
      have hst : rpassStep item maker all st x = st := if_neg hq
      rw [hst] at hps
      (conv => whnf)
      refine ⟨((k + 1 : Nat) : Int), wrap_succ (by omega), ?_⟩; (conv => whnf)
      exact ⟨(k + 1, (A1, c1), A2, c2), by simp; omega, ⟨by simp; omega, hx1, by rw [hps]; exact hs1, by rw [hps]; exact hown1, hne1⟩, ⟨rfl, rfl, rfl, by rw [hps]; rfl, rfl, by rw [hps]; rfl, rfl, trivial⟩⟩
  · intro hge
    have hge : asked.length ≤ k := by simpa using hge
    rw [List.take_of_length_le hge] at hown1
    (conv => whnf)
    rw [List.take_of_length_le hge]
    exact ⟨A2, c2, rfl, hown1.sl strE_len, hx1⟩
end Go.Proofs.YtbfjlpoeglcmfaaGreatDoor


/- The statements' own helpers: lives, made, odd, show, shown. -/
namespace Go.Proofs.YtbfjlpoeglcmfaaGreatDoor
open Go.Se Go.RowKit

theorem eqRun_ptr_nil {P : Program} {t : TypeId} (h : P.underlying t = some (.pointer (P.pointee t))) (p : Option Addr) (ox oy : Operand) : EqRun P t ox oy (.pointer p) (.pointer none) p.isNone := by
  intro w
  have h1 := run_equal_pointer_nil (P := P) w t p h
  constructor
  · simp [eqGuard, binOp, h1]
  · simp [eqGuard, binOp, h1]
theorem undWp : Tryz.prog.underlying 29 = some (.pointer (Tryz.prog.pointee 29)) := by kernel_rfl
/-- What is let in. -/
def okL (n : Nat) (c : Cfg) (l : List Ev) : Bool := !(decide ((n : Int) < l.length)) && !(l.any (bigB 300)) && l.all mayB && cfgB c
theorem okL_iff {n : Nat} {c : Cfg} {l : List Ev} : okL n c l = true ↔ l.length ≤ n ∧ l.any (bigB 300) = false ∧ (∀ e ∈ l, mayB e = true) ∧ cfgB c = true := by
  unfold okL
  simp only [Bool.and_eq_true, Bool.not_eq_true', decide_eq_false_iff_not, List.all_eq_true]
  constructor
  · rintro ⟨⟨⟨h1, h2⟩, h3⟩, h4⟩
    exact ⟨by omega, h2, h3, h4⟩
  · rintro ⟨h1, h2, h3, h4⟩
    exact ⟨⟨⟨by omega, h2⟩, h3⟩, h4⟩
theorem any_big {l : List Ev} (h : l.any (bigB 300) = false) : ∀ e ∈ l, e.text.size < 1000000000000 := fun e he => by
  have := (List.any_eq_false.1 h) e he
  simp [bigB] at this
  omega
theorem lmade_spec (c : Cfg) (l : List Ev) (A : Option Addr) (cap : Nat) (w : World) (hg0 : Gl w) (hs : SlE w A l) :
    Cal Tryz.prog 15 [cfgV c, .slice A l.length cap] w fun r w' => Ext w w' ∧ ((okL 40 c l = false ∧ r = .pointer none) ∨ (okL 40 c l = true ∧ ∃ p base, r = .pointer (some ⟨p, 0, none⟩) ∧ WV w' base p c (anewL l))) := by
  refine fn_intro Tt_ok Tryz.func15 (by rfl) rfl _ rfl rfl (by rfl) ?_; (conv => whnf)
  intro b1 w1 hn1; (conv => whnf)
  have h1 := hn1.At
  refine ⟨Unit, fun _ => (.bool (l.any (bigB 300))), fun _ w' => Ext w1 w', (), fun hg => ((some_spec l A cap 300 w1 (hs.ext hn1.ext) (by simp at hg; omega))).mono fun r w' h => ⟨(), h.1, h.2⟩, ?_⟩
  intro _ w2 h2
  have hx2 : Ext w1 w2 := by
    rcases h2 with ⟨_, h⟩ | ⟨_, h⟩
    · exact h
    · rw [h]; exact Ext.refl _
  clear h2
  (conv => whnf)
  refine ⟨Unit, fun _ => (.bool (l.all mayB)), fun _ w' => Ext w2 w', (), fun hg => ((all_spec l A cap w2 ((hs.ext hn1.ext).ext hx2) (by have := (Bool.or_eq_false_iff.1 hg).1; simp at this; omega) (any_big (Bool.or_eq_false_iff.1 hg).2))).mono fun r w' h => ⟨(), h.1, h.2⟩, ?_⟩
  intro _ w3 h2
  have hx3 : Ext w2 w3 := by
    rcases h2 with ⟨_, h⟩ | ⟨_, h⟩
    · exact h
    · rw [h]; exact Ext.refl _
  clear h2
  (conv => whnf)
  replace h1 := (h1.ext hx2).ext hx3
  refine ⟨cfgC c, fun _ => ⟨rfl, h1.all⟩, ?_⟩; (conv => whnf)
  refine ⟨Unit, fun _ => (.bool (cfgB c)), fun _ w' => Ext w3 w', (), fun hg => ((rconfig_spec c w3)).mono fun r w' h => ⟨(), h.1, h.2⟩, ?_⟩
  intro _ w4 h2
  have hx4 : Ext w3 w4 := by
    rcases h2 with ⟨_, h⟩ | ⟨_, h⟩
    · exact h
    · rw [h]; exact Ext.refl _
  clear h2
  (conv => whnf)
  replace h1 := h1.ext hx4
  have hx := ((hn1.ext.trans hx2).trans hx3).trans hx4
  have hq : (((decide ((40 : Int) < l.length) || l.any (bigB 300)) || !l.all mayB) || !cfgB c) = !okL 40 c l := by
    unfold okL
    cases decide (((40 : Nat) : Int) < l.length) <;> cases l.any (bigB 300) <;> cases l.all mayB <;> cases cfgB c <;> rfl
  constructor
  · intro hc
    have hc : (((decide ((40 : Int) < l.length) || l.any (bigB 300)) || !l.all mayB) || !cfgB c) = true := hc
    rw [hq] at hc
    (conv => whnf)
    exact ⟨hx, .inl ⟨by simpa using hc, rfl⟩⟩
  · intro hc
    have hc : (((decide ((40 : Int) < l.length) || l.any (bigB 300)) || !l.all mayB) || !cfgB c) = false := hc
    rw [hq] at hc
    have hok : okL 40 c l = true := by simpa using hc
    obtain ⟨k1, k2, k3, k4⟩ := okL_iff.1 hok
    (conv => whnf)
    refine ⟨cfgC c, ⟨rfl, h1.all⟩, ?_⟩; (conv => whnf)
    refine (made_spec c k4 l A cap w4 (hg0.ext hx) (hs.ext hx) (by omega) k3).mono ?_
    rintro _ w5 ⟨p, rfl, hW, hx5⟩; (conv => whnf)
    refine ⟨fun h => (by simp at h), fun _ => ?_⟩
    (conv => whnf)
    exact ⟨hx.trans hx5, .inr ⟨hok, p, _, rfl, hW⟩⟩

theorem odd_spec (b : Bd) (now : Int) (w : World) : Cal Tryz.prog 18 [bdV b, .int .i64 now] w fun r w' => r = .bool (!(tickB now && bdB b)) ∧ Ext w w' := by
  refine fn_intro Tt_ok Tryz.func18 (by rfl) rfl _ rfl rfl (by rfl) ?_; (conv => whnf)
  intro b1 w1 hn1; (conv => whnf)
  have h1 := hn1.At
  repeat (first | (refine ⟨_, h1.one rfl, ?_⟩; (conv => whnf)) | (refine ⟨_, And.symm ⟨h1.all, rfl⟩, ?_⟩; (conv => whnf)) | (refine ⟨_, fun _ => h1.one rfl, ?_⟩; (conv => whnf)) | (refine ⟨_, fun _ => And.symm ⟨h1.all, rfl⟩, ?_⟩; (conv => whnf)) | (refine ⟨_, fun _ _ => h1.one rfl, ?_⟩; (conv => whnf)) | (refine ⟨_, fun _ _ => And.symm ⟨h1.all, rfl⟩, ?_⟩; (conv => whnf)))
  refine ⟨?_, hn1.ext⟩
  congr 1
  unfold tickB bdB inB
  have e : ∀ x y : Int, decide (x < y) = !decide (y ≤ x) := fun x y => by rw [Bool.eq_iff_iff]; simp
  simp only [e]
  cases decide (0 ≤ now) <;> cases decide (now ≤ 1099511627776) <;> cases decide (0 ≤ b.item) <;> cases decide (b.item ≤ 1048576) <;> cases decide (0 ≤ b.maker) <;> cases decide (b.maker ≤ 1048576) <;> cases decide (0 ≤ b.all) <;> cases decide (b.all ≤ 1048576) <;> rfl

def shOf (z : List Ev) (now : Int) (x : ByteArray) : Sh := (x, mkAt z now x)
theorem lshow_spec {w : World} {base p : Nat} {c : Cfg} {z : List Ev} (hW : WV w base p c z) (item : ByteArray) (now : Int) :
    Cal Tryz.prog 16 [.pointer (some ⟨p, 0, none⟩), .string item, .int .i64 now] w fun r w' => r = .agg (shC (shOf z now item)).toArray ∧ Ext w w' := by
  refine fn_intro Tt_ok Tryz.func16 (by rfl) rfl _ rfl rfl (by rfl) ?_; (conv => whnf)
  intro b1 w1 hn1; (conv => whnf)
  have h1 := hn1.At
  refine (wcatalog_spec (hW.ext hn1.ext)).mono ?_
  rintro _ w2 ⟨pc, S, rfl, hcat, hx2⟩; (conv => whnf)
  refine (catAt_spec _ _ pc _ hcat item now hW.rows).mono ?_
  rintro _ w3 ⟨rfl, hx3⟩; (conv => whnf)
  intro b4 w4 hn4; (conv => whnf)
  have e4 := hn4.block
  refine store_ptr Tt_ok (e := ty66) rfl hn4.At rfl rfl rfl (by simp [cellsL, itC, Value.oneCell']) fun w5 h5 ho5 => ?_
  have hx13 := hx2.trans hx3
  have h14 := (h1.ext hx13).ext hn4.ext
  have b1lt := (h1.ext hx13).lt
  have h15 := ho5.at_ h14 (by omega)
  have hx5 : Ext w w5 := ho5.ext ((hn1.ext.trans hx13).trans hn4.ext) (by have := (hn1.ext.trans hx13).size; omega)
  (conv => whnf)
  refine ⟨_, h5.one rfl, ?_⟩; (conv => whnf)
  refine store_ptr Tt_ok (e := ty33) rfl h15 rfl rfl rfl (by simp [cellsL, Value.oneCell']) fun w6 h6 ho6 => ?_
  (conv => whnf)
  refine ⟨shC (shOf z now item), ⟨rfl, h6.all⟩, rfl, ho6.ext hx5 ?_⟩
  rw [hn1.block]; exact Nat.le_refl _
theorem lshown_spec {w : World} {base p : Nat} {c : Cfg} {z : List Ev} (hW : WV w base p c z) (person : ByteArray) (now : Int) (hn : i64ok' now) :
    Cal Tryz.prog 21 [.pointer (some ⟨p, 0, none⟩), .string person, .int .i64 now] w fun r w' => ∃ A c, r = .slice A ((shownL z person now).map (shOf z now)).length c ∧ SlS2 w' A ((shownL z person now).map (shOf z now)) ∧ Ext w w' := by
  refine fn_intro Tt_ok Tryz.func21 (by rfl) rfl _ rfl rfl (by rfl) ?_; (conv => whnf)
  refine (wcrowd_spec hW).mono ?_
  rintro _ w1 ⟨pw, S, rfl, hcr, hx1⟩; (conv => whnf)
  refine (whistory_spec (hW.ext hx1) hcr person).mono ?_
  rintro _ w2 ⟨A2, c2, rfl, hown2, hx2⟩; (conv => whnf)
  have hx := hx1.trans hx2
  have hs2 := hown2.sl evC_len
  have hhl := hist_len z person
  have hzl := hW.len
  unfold shownL
  generalize hH : histE z person = H at hs2 hhl
  clear hown2
  have hmH : ∀ e ∈ H, mayB e = true := fun e he => by
    rw [← hH] at he
    exact hW.may e (List.mem_filter.1 (List.mem_filter.1 he).1).1
  refine loop_rule Tt_ok (fun (i : Nat × Option Addr × Nat) w' => i.1 ≤ H.length ∧ Ext w2 w' ∧ Own shC 2 33 w2.heap.size w' i.2.1 i.2.2 ((((H.take i.1).filter (seenQ now)).map (·.item)).map (shOf z now)))
    (fun i => [(0, .pointer (some ⟨p, 0, none⟩)), (2, .int .i64 now), (7, .slice i.2.1 ((((H.take i.1).filter (seenQ now)).map (·.item)).map (shOf z now)).length i.2.2), (8, .slice A2 H.length c2), (9, .int .i64 i.1)]) (fun i => H.length - i.1) (0, none, 0)
    ⟨by simp, Ext.refl _, Own.nil⟩ ⟨rfl, rfl, rfl, rfl, rfl, trivial⟩ ?_
  rintro ⟨k, A3, c3⟩ w3 ⟨hk, hx3, hown3⟩
  simp only at hk hown3
  (conv => whnf)
  constructor
  · intro hc
    have hc : k < H.length := by simpa using hc
    obtain ⟨a2, rfl, hce⟩ := (hs2.ext hx3).get hc
    have hme := hmH H[k] (List.getElem_mem hc)
    have htk := take_next H k hc
    generalize H[k] = e at hce hme htk
    have hat := (may_iff.1 hme).at_
    have hfl := List.length_filter_le (seenQ now) (H.take k)
    rw [List.length_take] at hfl
    have hsn : (((H.take (k + 1)).filter (seenQ now)).map (·.item)).map (shOf z now) = (((H.take k).filter (seenQ now)).map (·.item)).map (shOf z now) ++ if seenQ now e then [shOf z now e.item] else [] := by
      rw [htk, List.filter_append, List.map_append, List.map_append]
      cases h : seenQ now e <;> simp [List.filter_cons, h]
    have hLl : ((((H.take k).filter (seenQ now)).map (·.item)).map (shOf z now)).length < 1000000 := by rw [List.length_map, List.length_map]; omega
    generalize (((H.take k).filter (seenQ now)).map (·.item)).map (shOf z now) = L at hown3 hsn hLl ⊢
    (conv => whnf)
    repeat (refine seq_go Tt_ok ?_; (conv => whnf))
    refine ⟨a2, ⟨rfl, by omega, by omega⟩, ?_⟩; (conv => whnf)
    refine ⟨_, cells_at hce (k := 3) rfl, ?_⟩; (conv => whnf)
    refine ⟨a2, fun _ => ⟨rfl, by omega, by omega⟩, ?_⟩; (conv => whnf)
    refine ⟨_, fun _ => cells_at hce (k := 2) rfl, ?_⟩; (conv => whnf)
    refine ⟨a2, fun _ => ⟨rfl, by omega, by omega⟩, ?_⟩; (conv => whnf)
    refine ⟨_, fun _ => cells_at hce (k := 2) rfl, ?_⟩; (conv => whnf)
    refine ⟨e.at_.tdiv 86400, fun _ => ⟨by decide, wrap_eq rfl (tdiv_small ⟨by omega, by omega⟩ (by decide))⟩, ?_⟩; (conv => whnf)
    refine ⟨now.tdiv 86400, fun _ => ⟨by decide, wrap_eq rfl (tdiv_small hn (by decide))⟩, ?_⟩; (conv => whnf)
    constructor
    · intro hq
      have hq : seenQ now e = true := hq
      rw [hq] at hsn
      (conv => whnf)
      refine ⟨a2, ⟨rfl, by omega, by omega⟩, ?_⟩; (conv => whnf)
      refine ⟨_, cells_at hce (k := 5) rfl, ?_⟩; (conv => whnf)
      refine (lshow_spec (hW.ext (hx.trans hx3)) e.item now).mono ?_
      rintro _ w4 ⟨rfl, hx4⟩
      generalize shOf z now e.item = y at hsn ⊢
      (conv => whnf)
      intro b5 w5 hn5; (conv => whnf)
      have hx5 := (hx3.trans hx4).trans hn5.ext
      refine append_row rowSh (l := L) (news := [y]) rfl ((hown3.ext hx4).ext hn5.ext) rfl (rowSh.new1 (x := y) hn5) (by simp; omega) hx5.size fun A6 c6 w6 hown6 hg6 hA6 => ?_
      (conv => whnf)
      refine ⟨((k + 1 : Nat) : Int), wrap_succ (by omega), ?_⟩; (conv => whnf)
      exact ⟨(k + 1, A6, c6), by simp; omega, ⟨by simp; omega, ext_grown hx5 hg6 (own_ge hown3), by rw [hsn]; exact hown6⟩, ⟨rfl, rfl, by rw [hsn]; rfl, rfl, rfl, trivial⟩⟩
    · intro hq
      have hq : seenQ now e = false := hq
      rw [hq] at hsn
      simp only [Bool.false_eq_true, if_false, List.append_nil] at hsn
      (conv => whnf)
      refine ⟨((k + 1 : Nat) : Int), wrap_succ (by omega), ?_⟩; (conv => whnf)
      exact ⟨(k + 1, A3, c3), by simp; omega, ⟨by simp; omega, hx3, by rw [hsn]; exact hown3⟩, ⟨rfl, rfl, by rw [hsn]; rfl, rfl, rfl, trivial⟩⟩
  · intro hc
    have hc : H.length ≤ k := by simpa using hc
    rw [List.take_of_length_le hc] at hown3
    (conv => whnf)
    rw [List.take_of_length_le hc]
    exact ⟨A3, c3, rfl, hown3.sl shC_len, hx.trans hx3⟩

def cfg0 : Cfg := ⟨1, 1, 0, 1, 0, 0⟩
theorem llives_spec (w : World) (hg0 : Gl w) : Cal Tryz.prog 14 [] w fun r w' => r = .bool true ∧ Ext w w' := by
  refine fn_intro Tt_ok Tryz.func14 (by rfl) rfl _ rfl rfl (by rfl) ?_; (conv => whnf)
  refine (worldNew_spec cfg0 w hg0.size (by rfl)).mono ?_
  rintro _ w1 ⟨p, rfl, hW1, hx1⟩; (conv => whnf)
  have hW : WV w1 w.heap.size p cfg0 [] := ⟨hW1, by simp, by simp [Rise], by simp⟩
  refine ⟨_, fun _ => eqRun_ptr_nil undWp _ _ _, ?_⟩; (conv => whnf)
  refine ⟨fun h => (by simp at h), fun _ => ?_⟩
  (conv => whnf)
  intro b2 w2 hn2; (conv => whnf)
  have hs2 : SlT w2 (some ⟨b2, 0, none⟩) [⟨#[97]⟩, ⟨#[97]⟩, ⟨#[98]⟩, ⟨#[99]⟩] := sl_new strE_len hn2
  refine (bPass_spec ⟨1, 9, 2⟩ (hW.ext hn2.ext) ⟨#[112]⟩ 5 ⟨by decide, by decide⟩ [⟨#[97]⟩, ⟨#[97]⟩, ⟨#[98]⟩, ⟨#[99]⟩] (some ⟨b2, 0, none⟩) 4 hs2 (by simp)).mono ?_
  rintro _ w3 ⟨A3, c3, rfl, hs3, hx3⟩
  have hv : (if (tickB 5 && bdB ⟨1, 9, 2⟩) = true then passL ⟨1, 9, 2⟩ [] 5 (shownL [] ⟨#[112]⟩ 5) [⟨#[97]⟩, ⟨#[97]⟩, ⟨#[98]⟩, ⟨#[99]⟩] else []) = [⟨#[97]⟩, ⟨#[98]⟩] := by decide +kernel
  rw [hv] at hs3 ⊢
  (conv => whnf)
  intro b4 w4 hn4; (conv => whnf)
  have hs4 : SlT w4 (some ⟨b4, 0, none⟩) [⟨#[97]⟩, ⟨#[98]⟩] := sl_new strE_len hn4
  refine (texts_spec [⟨#[97]⟩, ⟨#[98]⟩] [⟨#[97]⟩, ⟨#[98]⟩] A3 (some ⟨b4, 0, none⟩) c3 2 w4 (hs3.ext hn4.ext) hs4 (by simp)).mono ?_
  rintro _ w5 ⟨rfl, hx5⟩; (conv => whnf)
  exact ⟨rfl, ((hx1.trans hn2.ext).trans hx3).trans (hn4.ext.trans hx5)⟩
end Go.Proofs.YtbfjlpoeglcmfaaGreatDoor
