/- The law 'ShardOne'. -/
import Derived.Test.YthogbgdaeclkaaaShard5
set_option linter.unusedVariables false
set_option linter.unusedSimpArgs false
namespace Go.Proofs.Ythogbgdaeclkaaa
open Go.Se Go.RowKit

/-- Of a person, and no thing's. -/
def ofP (p : ByteArray) (e : Ev) : Bool := decide (e.person = p) && !decide (e.kind = 11) && !decide (e.kind = 12) && !decide (e.kind = 13)
def ownQ (th : Bool) (p : ByteArray) (e : Ev) : Bool := !th && decide (e.person = p) && !decide (e.kind = 11) && !decide (e.kind = 12) && !decide (e.kind = 13)
theorem ofP_thing {p : ByteArray} {e : Ev} (h : ofP p e = true) : thing e = false ∧ e.person = p := by
  simp [ofP] at h
  simp [thing, h]
theorem had_own (l : List Ev) (n : Int) (k : Int) (p : ByteArray) (hk : k = shardOf p n) : (partL l n k).filter (ofP p) = l.filter (ownQ false p) := by
  unfold partL
  rw [List.filter_filter]
  apply List.filter_congr
  intro e _
  have e1 : ownQ false p e = ofP p e := by simp [ownQ, ofP]
  rw [e1]
  by_cases h : ofP p e = true
  · obtain ⟨h1, h2⟩ := ofP_thing h
    simp [h, inPart, h1, h2, hk]
  · simp [Bool.eq_false_iff.2 h]
theorem had_none (l : List Ev) (n : Int) (k : Int) (p : ByteArray) (hk : k ≠ shardOf p n) : (partL l n k).filter (ofP p) = [] := by
  unfold partL
  rw [List.filter_filter, List.filter_eq_nil_iff]
  intro e _ h
  simp at h
  obtain ⟨h1, h2⟩ := ofP_thing h.1
  simp [inPart, h1, h2] at h
  exact hk h.2.symm
theorem mem_part {l : List Ev} {n k : Int} {e : Ev} (h : e ∈ l) (ht : thing e = true) : e ∈ partL l n k := by
  unfold partL
  rw [List.mem_filter]
  exact ⟨h, by simp [inPart, ht]⟩

theorem app_ev {w : World} {R : Value → World → Prop} {base : Nat} {A B : Option Addr} {c cB : Nat} {l : List Ev} {e : Ev} {ty : TypeId} (hown : Own evC 8 33 base w A c l) (hs : SlE w B [e]) (hl : l.length ≤ 1000000) (hb : base ≤ w.heap.size)
    (h : ∀ A' c' w', Own evC 8 33 base w' A' c' (l ++ [e]) → (∀ w0, Ext w0 w → w0.heap.size ≤ base → Ext w0 w') → R (.slice A' (l ++ [e]).length c') w') :
    RunE Try.prog (Builtin.append_ #[22, 22] ty [.slice A l.length c, .slice B 1 cB].toArray) w R := by
  refine append_own (l := l) (news := [e]) (bytes := 96) (ety := ty33) ty33_ok und22 by33 rfl rfl (by decide) evC_len evC_one hown hs (by simp; omega) (by simp; omega) hb ?_
  intro A' c' w' hown' hgr _
  refine h A' c' w' hown' fun w0 hx hle => ext_grown hx hgr fun g hg => ?_
  cases A with
  | none => simp at hg
  | some a =>
    have := (hown.block (a := a) rfl).1
    simp at hg
    omega

set_option maxHeartbeats 20000000 in
theorem one_spec (n : Int) (l : List Ev) (A : Option Addr) (c : Nat) (w : World) (hs : SlE w A l) (hn : n < 9223372036854775808) :
    Cal Try.prog 4 [.int .i64 n, .slice A l.length c] w fun r w' => r = .bool true ∧ Ext w w' := by
  refine fn_intro Tt_ok Try.func4 (by rfl) rfl _ rfl rfl (by rfl) ?_; (conv => whnf)
  refine (lives_spec w).mono ?_
  rintro r w1 ⟨rfl, hx1⟩
  (conv => whnf)
  refine ⟨fun h => by simp at h, fun _ => ?_⟩
  (conv => whnf)
  refine ⟨Unit, fun _ => .bool (l.any (bigB 300)), fun _ w' => Ext w1 w', (), fun hg => (some_spec l A c 300 w1 (hs.ext hx1) (by simp at hg; omega)).mono fun r w' h => ⟨(), h.1, h.2⟩, ?_⟩
  intro _ w2 h2
  have hx2 : Ext w1 w2 := by
    rcases h2 with ⟨_, h⟩ | ⟨_, rfl⟩
    · exact h
    · exact Ext.refl _
  clear h2
  (conv => whnf)
  constructor
  · intro _; (conv => whnf); exact ⟨rfl, hx1.trans hx2⟩
  · intro hcond
    simp only [Bool.or_eq_false_iff, decide_eq_false_iff_not] at hcond
    obtain ⟨⟨⟨hc1, hc2⟩, hc3⟩, hc4⟩ := hcond
    have hl : l.length ≤ 40 := by omega
    have hpe : ∀ e ∈ l, e.person.size < 1000000000000000 := by
      intro e he
      have := (List.any_eq_false.1 hc4) e he
      simp [bigB] at this
      omega
    obtain ⟨m, rfl⟩ : ∃ m : Nat, n = m := ⟨n.toNat, by omega⟩
    have hm : 1 ≤ m ∧ m ≤ 12 := by omega
    have hs2 := (hs.ext hx1).ext hx2
    have hxw2 := hx1.trans hx2
    (conv => whnf)
    refine (split_yes l A c m w2 (by omega) (by omega) hs2 (by omega) hpe).mono ?_
    rintro r w3 ⟨pb, A3, c3, rfl, hpl3, hx3⟩
    (conv => whnf)
    refine (split_yes l A c 1 w3 (by omega) (by omega) (hs2.ext hx3) (by omega) hpe).mono ?_
    rintro r w4 ⟨ob, A4, c4, rfl, hpl4, hx4⟩
    have hs4 := (hs2.ext hx3).ext hx4
    have hcell4 := hpl4.cell (k := 0) (by omega)
    have hown4 := hpl4.own 0 (by omega)
    have hp1 : partL l ((1 : Nat) : Int) ((0 : Nat) : Int) = l := part_one l
    rw [hp1] at hcell4 hown4
    (conv => whnf)
    refine ⟨⟨ob, 0, none⟩, fun _ => ⟨rfl, by omega, by omega⟩, ?_⟩; (conv => whnf)
    refine ⟨_, fun _ => hcell4, ?_⟩; (conv => whnf)
    refine ⟨Unit, fun _ => .bool true, fun _ w' => Ext w4 w', (), fun _ => (same_spec l l (A4 0) A (c4 0) c w4 (hown4.sl evC_len) hs4 (by omega)).mono fun r w' h => ⟨(), by rw [h.1]; simp, h.2⟩, ?_⟩
    intro _ w5 h5
    have hx5 : Ext w4 w5 := by
      rcases h5 with ⟨_, h⟩ | ⟨_, rfl⟩
      · exact h
      · exact Ext.refl _
    clear h5
    (conv => whnf)
    refine ⟨fun h => by simp at h, fun _ => ?_⟩
    (conv => whnf)
    have hpl5 := (hpl3.ext hx4).ext hx5
    have hs5 := hs4.ext hx5
    have hxw5 : Ext w w5 := hxw2.trans (hx3.trans (hx4.trans hx5))
    clear hcell4 hown4 hp1
    refine loop_rule Tt_ok (fun (i : Nat) w' => i ≤ l.length ∧ Ext w5 w')
      (fun i => [(0, .int .i64 m), (1, .slice A l.length c), (5, .slice (some ⟨pb, 0, none⟩) m m), (7, .int .i64 i)]) (fun i => l.length - i) 0 ⟨by omega, Ext.refl _⟩ ⟨rfl, rfl, rfl, rfl, trivial⟩ ?_
    rintro i w6 ⟨hi, hx6⟩
    (conv => whnf)
    constructor
    · intro hlt
      have hlt : i < l.length := by simpa using hlt
      obtain ⟨a, rfl, hci⟩ := hs5.get hlt
      have hpei := hpe _ (List.getElem_mem hlt)
      have hmem := List.getElem_mem hlt
      generalize hel : l[i] = e at *
      (conv => whnf)
      intro b7 w7 hn7
      have hx67 := hx6.trans hn7.ext
      have hc7 := hx67.cells hci
      have hpl7 := hpl5.ext hx67
      have hs7 := hs5.ext hx67
      (conv => whnf)
      refine ⟨a, ⟨rfl, by omega, by omega⟩, ?_⟩; (conv => whnf)
      refine ⟨_, cells_at hc7 rfl, ?_⟩; (conv => whnf)
      refine ⟨a, fun _ => ⟨rfl, by omega, by omega⟩, ?_⟩; (conv => whnf)
      refine ⟨_, fun _ => cells_at hc7 rfl, ?_⟩; (conv => whnf)
      refine ⟨a, fun _ => ⟨rfl, by omega, by omega⟩, ?_⟩; (conv => whnf)
      refine ⟨_, fun _ => cells_at hc7 rfl, ?_⟩; (conv => whnf)
      -- own
      refine loop_rule Tt_ok (fun (x : Nat × Option Addr × Nat) w' => x.1 ≤ l.length ∧ Ext w6 w' ∧ Own evC 8 33 w6.heap.size w' x.2.1 x.2.2 ((l.take x.1).filter (ownQ (thing e) e.person)))
        (fun x => [(0, .int .i64 m), (1, .slice (some a) l.length c), (5, .slice (some ⟨pb, 0, none⟩) m m), (7, .int .i64 i), (9, .bool (thing e)), (10, .int .i64 x.1), (8, .slice x.2.1 ((l.take x.1).filter (ownQ (thing e) e.person)).length x.2.2)]) (fun x => l.length - x.1) (0, some ⟨b7, 0, none⟩, 0) ⟨by simp, hn7.ext, Own.made hn7 (Nat.le_refl _)⟩ ⟨rfl, rfl, rfl, rfl, rfl, rfl, rfl, trivial⟩ ?_
      rintro ⟨k, A8, c8⟩ w8 ⟨hk, hx8, hown8⟩
      simp only at hk hown8
      have hx58 := hx6.trans hx8
      have hc8 := hx58.cells hci
      (conv => whnf)
      constructor
      · intro hkl
        have hkl : k < l.length := by simpa using hkl
        obtain ⟨a', ha', hck⟩ := (hs5.ext hx58).get hkl
        obtain rfl : a = a' := by simpa using ha'
        have hfs := filter_snoc (ownQ (thing e) e.person) l k hkl
        have hfl : ((l.take k).filter (ownQ (thing e) e.person)).length ≤ k := by have := List.length_filter_le (ownQ (thing e) e.person) (l.take k); simp at this; omega
        generalize hfk : l[k] = f at *
        (conv => whnf)
        repeat (refine seq_go Tt_ok ?_; (conv => whnf))
        refine draw_rule .same [0, 1, 2, 3, 4, 5, 6, 7, 8, 9, 10, 11, 12, 13, 14, 15, 16, 17, 18, 19, 20, 21, 22, 23, 24, 25, 26, 27, 28, 29, 30, 31, 32, 33, 34, 35, 36, 37, 38] [] Tt_ok mixed (by kernel_rfl) (by first | (intro h; cases h; done) | (intro _; rfl)) ?_; (conv => whnf)
        refine ⟨a, fun _ => ⟨rfl, by omega, by omega⟩, ?_⟩; (conv => whnf)
        refine ⟨_, fun _ => cells_at hck rfl, ?_⟩; (conv => whnf)
        refine ⟨a, fun _ => ⟨rfl, by omega, by omega⟩, ?_⟩; (conv => whnf)
        refine ⟨_, fun _ => cells_at hc8 rfl, ?_⟩; (conv => whnf)
        refine ⟨a, fun _ => ⟨rfl, by omega, by omega⟩, ?_⟩; (conv => whnf)
        refine ⟨_, fun _ => cells_at hck rfl, ?_⟩; (conv => whnf)
        refine ⟨a, fun _ => ⟨rfl, by omega, by omega⟩, ?_⟩; (conv => whnf)
        refine ⟨_, fun _ => cells_at hck rfl, ?_⟩; (conv => whnf)
        refine ⟨a, fun _ => ⟨rfl, by omega, by omega⟩, ?_⟩; (conv => whnf)
        refine ⟨_, fun _ => cells_at hck rfl, ?_⟩; (conv => whnf)
        constructor
        · intro hq
          have hq : ownQ (thing e) e.person f = true := hq
          rw [hq, if_pos rfl] at hfs
          (conv => whnf)
          refine ⟨a, ⟨rfl, by omega, by omega⟩, ?_⟩; (conv => whnf)
          refine ⟨evC f, ⟨rfl, hck⟩, ?_⟩; (conv => whnf)
          intro b9 w9 hn9
          have hx89 : Ext w8 w9 := (Ext.refl w8).drew.trans hn9.ext
          (conv => whnf)
          refine app_ev (hown8.ext hx89) (sl_new evC_len (l := [f]) hn9) (Nat.le_trans hfl (by omega)) (hx8.trans hx89).size ?_
          intro A10 c10 w10 hown10 hx10
          rw [← hfs] at hown10
          (conv => whnf)
          refine ⟨((k + 1 : Nat) : Int), wrap_succ (by omega), ?_⟩; (conv => whnf)
          exact ⟨(k + 1, A10, c10), by simp; omega, ⟨by simp; omega, hx10 _ (hx8.trans hx89) (Nat.le_refl _), hown10⟩, ⟨rfl, rfl, rfl, rfl, rfl, rfl, by simp only [hfs]; rfl, trivial⟩⟩
        · intro hq
          have hq : ownQ (thing e) e.person f = false := hq
          rw [hq] at hfs
          simp at hfs
          (conv => whnf)
          refine ⟨((k + 1 : Nat) : Int), wrap_succ (by omega), ?_⟩; (conv => whnf)
          exact ⟨(k + 1, A8, c8), by simp; omega, ⟨by simp; omega, hx8.drew, by simp only [hfs]; exact hown8⟩, ⟨rfl, rfl, rfl, rfl, rfl, rfl, by simp only [hfs]; rfl, trivial⟩⟩
      · intro hkl
        have hkl : l.length ≤ k := by simpa using hkl
        rw [List.take_of_length_le hkl] at hown8 ⊢
        have hpl8 := hpl5.ext hx58
        have hs8 := hs5.ext hx58
        have hlo : (l.filter (ownQ (thing e) e.person)).length ≤ 40 := by have := List.length_filter_le (ownQ (thing e) e.person) l; omega
        (conv => whnf)
        -- shard by shard
        refine loop_rule Tt_ok (fun (q : Nat) w' => q ≤ m ∧ Ext w8 w')
          (fun q => [(0, .int .i64 m), (1, .slice (some a) l.length c), (5, .slice (some ⟨pb, 0, none⟩) m m), (7, .int .i64 i), (9, .bool (thing e)), (8, .slice A8 (l.filter (ownQ (thing e) e.person)).length c8), (11, .int .i64 q)]) (fun q => m - q) 0 ⟨by omega, Ext.refl _⟩ ⟨rfl, rfl, rfl, rfl, rfl, rfl, rfl, trivial⟩ ?_
        rintro q w9 ⟨hq, hx9⟩
        (conv => whnf)
        constructor
        · intro hqm
          have hqm : q < m := by simpa using hqm
          have hpl9 := hpl8.ext hx9
          have hlp : (partL l m q).length ≤ 40 := by have := List.length_filter_le (inPart m q) l; unfold partL; omega
          (conv => whnf)
          intro b10 w10 hn10
          (conv => whnf)
          refine loop_rule Tt_ok (fun (x : Nat × Option Addr × Nat) w' => x.1 ≤ (partL l m q).length ∧ Ext w9 w' ∧ Own evC 8 33 w9.heap.size w' x.2.1 x.2.2 (((partL l m q).take x.1).filter (ofP e.person)))
            (fun x => [(0, .int .i64 m), (1, .slice (some a) l.length c), (5, .slice (some ⟨pb, 0, none⟩) m m), (7, .int .i64 i), (9, .bool (thing e)), (8, .slice A8 (l.filter (ownQ (thing e) e.person)).length c8), (11, .int .i64 q), (13, .int .i64 x.1), (12, .slice x.2.1 (((partL l m q).take x.1).filter (ofP e.person)).length x.2.2)]) (fun x => (partL l m q).length - x.1) (0, some ⟨b10, 0, none⟩, 0) ⟨by simp, hn10.ext, Own.made hn10 (Nat.le_refl _)⟩ ⟨rfl, rfl, rfl, rfl, rfl, rfl, rfl, rfl, rfl, trivial⟩ ?_
          rintro ⟨k2, A11, c11⟩ w11 ⟨hk2, hx11, hown11⟩
          simp only at hk2 hown11
          have hpl11 := hpl9.ext hx11
          have hx5b := hx58.trans (hx9.trans hx11)
          have hc11 := hx5b.cells hci
          (conv => whnf)
          refine ⟨⟨pb, 0, none⟩, ⟨rfl, by omega, by omega⟩, ?_⟩; (conv => whnf)
          refine ⟨_, hpl11.cell hqm, ?_⟩; (conv => whnf)
          constructor
          · intro hkp
            have hkp : k2 < (partL l m q).length := by simpa using hkp
            obtain ⟨ap, hAp, hcp⟩ := ((hpl11.own q hqm).sl evC_len).get hkp
            have hfs := filter_snoc (ofP e.person) (partL l m q) k2 hkp
            have hfl : (((partL l m q).take k2).filter (ofP e.person)).length ≤ k2 := by have := List.length_filter_le (ofP e.person) ((partL l m q).take k2); simp at this; omega
            generalize hfk : (partL l m q)[k2] = f at *
            (conv => whnf)
            repeat (refine seq_go Tt_ok ?_; (conv => whnf))
            refine ⟨⟨pb, 0, none⟩, ⟨rfl, by omega, by omega⟩, ?_⟩; (conv => whnf)
            refine ⟨_, hpl11.cell hqm, ?_⟩; (conv => whnf)
            refine ⟨ap, ⟨hAp, by omega, Int.ofNat_lt.2 hkp⟩, ?_⟩; (conv => whnf)
            refine ⟨evC f, ⟨rfl, hcp⟩, ?_⟩; (conv => whnf)
            intro b12 w12 hn12
            (conv => whnf)
            refine store_at Tt_ok (e := ty33) (v := evV f) (off := 0) (by rfl) hn12.At (by rfl) (by decide) (evC_one f) fun w13 hat hon => ?_
            have hat : At w13 b12 33 (evC f) := hat
            have hx13 : Ext w11 w13 := hon.ext hn12.ext (by rw [hn12.block]; exact Nat.le_refl _)
            have hc13 := hx13.cells hc11
            (conv => whnf)
            refine draw_rule .same [0, 1, 2, 3, 4, 5, 6, 7, 8, 9, 10, 11, 12, 13, 14, 15, 16, 17, 18, 19, 20, 21, 22] [] Tt_ok mixed (by kernel_rfl) (by first | (intro h; cases h; done) | (intro _; rfl)) ?_; (conv => whnf)
            refine ⟨_, hat.one rfl, ?_⟩; (conv => whnf)
            refine ⟨a, ⟨rfl, by omega, by omega⟩, ?_⟩; (conv => whnf)
            refine ⟨_, cells_at hc13 rfl, ?_⟩; (conv => whnf)
            refine ⟨_, fun _ => hat.one rfl, ?_⟩; (conv => whnf)
            refine ⟨_, fun _ => hat.one rfl, ?_⟩; (conv => whnf)
            refine ⟨_, fun _ => hat.one rfl, ?_⟩; (conv => whnf)
            constructor
            · intro hqf
              have hqf : ofP e.person f = true := hqf
              rw [hqf, if_pos rfl] at hfs
              (conv => whnf)
              refine ⟨evC f, ⟨rfl, hat.all⟩, ?_⟩; (conv => whnf)
              intro b14 w14 hn14
              have hx14 : Ext w13 w14 := (Ext.refl w13).drew.trans hn14.ext
              (conv => whnf)
              refine app_ev (hown11.ext (hx13.trans hx14)) (sl_new evC_len (l := [f]) hn14) (Nat.le_trans hfl (by omega)) (hx11.trans (hx13.trans hx14)).size ?_
              intro A15 c15 w15 hown15 hx15
              rw [← hfs] at hown15
              (conv => whnf)
              refine ⟨((k2 + 1 : Nat) : Int), wrap_succ (by omega), ?_⟩; (conv => whnf)
              exact ⟨(k2 + 1, A15, c15), by simp; omega, ⟨by simp; omega, hx15 _ (hx11.trans (hx13.trans hx14)) (Nat.le_refl _), hown15⟩, ⟨rfl, rfl, rfl, rfl, rfl, rfl, rfl, rfl, by simp only [hfs]; rfl, trivial⟩⟩
            · intro hqf
              have hqf : ofP e.person f = false := hqf
              rw [hqf] at hfs
              simp at hfs
              (conv => whnf)
              refine ⟨((k2 + 1 : Nat) : Int), wrap_succ (by omega), ?_⟩; (conv => whnf)
              exact ⟨(k2 + 1, A11, c11), by simp; omega, ⟨by simp; omega, (hx11.trans hx13).drew, by simp only [hfs]; exact (hown11.ext hx13).ext (Ext.refl w13).drew⟩, ⟨rfl, rfl, rfl, rfl, rfl, rfl, rfl, rfl, by simp only [hfs]; rfl, trivial⟩⟩
          · intro hkp
            have hkp : (partL l m q).length ≤ k2 := by simpa using hkp
            rw [List.take_of_length_le hkp] at hown11 ⊢
            have hs11 := hs8.ext (hx9.trans hx11)
            have hown8' := hown8.ext (hx9.trans hx11)
            have hlh : ((partL l m q).filter (ofP e.person)).length ≤ 40 := by have := List.length_filter_le (ofP e.person) (partL l m q); omega
            (conv => whnf)
            refine draw_rule .ext [0, 1, 2, 3, 4, 5, 6, 7, 8, 9, 10, 11, 12, 13, 14, 15, 16, 17, 18, 19, 20, 21, 22, 23, 24, 25, 26, 27, 28, 29, 30, 31, 32, 33, 34, 35, 36, 37, 38, 39, 40, 41, 42, 43, 44, 45, 46, 47, 48, 49] [50, 51, 52, 53] Tt_ok mixed (by kernel_rfl) (by first | (intro h; cases h; done) | (intro _; rfl)) ?_; (conv => whnf)
            have hc11d : CellsAt w11.drew (a.add (i * 8)) (evC e) := hc11
            refine ⟨a, fun _ => ⟨rfl, by omega, by omega⟩, ?_⟩; (conv => whnf)
            refine ⟨_, fun _ => cells_at hc11d rfl, ?_⟩; (conv => whnf)
            refine ⟨Unit, fun _ => .int .i64 (shardOf e.person m), fun _ w' => Ext w11.drew w', (), fun _ => (of_spec e.person m w11.drew hpei hn).mono fun r w' h => ⟨(), h.1, h.2⟩, ?_⟩
            intro _ w16 h16
            have hx16 : Ext w11.drew w16 := by
              rcases h16 with ⟨_, h⟩ | ⟨_, rfl⟩
              · exact h
              · exact Ext.refl _
            clear h16
            refine ⟨hx16, ?_⟩
            have hxd16 : Ext w11 w16 := (Ext.refl w11).drew.trans hx16
            (conv => whnf)
            refine ⟨Unit, fun _ => .bool (decide ((partL l m q).filter (ofP e.person) = l.filter (ownQ (thing e) e.person))), fun _ w' => Ext w16 w', (), fun _ => (same_spec _ _ A11 A8 c11 c8 w16 ((hown11.sl evC_len).ext hxd16) ((hown8'.sl evC_len).ext hxd16) (by omega)).mono fun r w' h => ⟨(), h.1, h.2⟩, ?_⟩
            intro _ w17 h17
            have hx17 : Ext w16 w17 := by
              rcases h17 with ⟨_, h⟩ | ⟨_, rfl⟩
              · exact h
              · exact Ext.refl _
            clear h17
            refine ⟨hx17, ?_⟩
            have hc17 := hx17.cells (hxd16.cells hc11)
            (conv => whnf)
            refine ⟨a, fun _ _ => ⟨rfl, by omega, by omega⟩, ?_⟩; (conv => whnf)
            refine ⟨_, fun _ _ => cells_at hc17 rfl, ?_⟩; (conv => whnf)
            refine ⟨Unit, fun _ => .int .i64 (shardOf e.person m), fun _ w' => Ext w17 w', (), fun _ _ => (of_spec e.person m w17 hpei hn).mono fun r w' h => ⟨(), h.1, h.2⟩, ?_⟩
            intro _ w18 h18
            have hx18 : Ext w17 w18 := by
              rcases h18 with ⟨_, h⟩ | ⟨_, rfl⟩
              · exact h
              · exact Ext.refl _
            clear h18
            refine ⟨hx18, ?_⟩
            have hxd18 : Ext w11 w18 := hxd16.trans (hx17.trans hx18)
            have hc18 := hxd18.cells hc11
            (conv => whnf)
            refine ⟨⟨pb, 0, none⟩, fun _ _ => ⟨rfl, by omega, by omega⟩, ?_⟩; (conv => whnf)
            refine ⟨_, fun _ _ => (hpl11.ext hxd18).cell hqm, ?_⟩; (conv => whnf)
            refine ⟨a, fun _ _ => ⟨rfl, by omega, by omega⟩, ?_⟩; (conv => whnf)
            refine ⟨evC e, fun _ _ => ⟨rfl, hc18⟩, ?_⟩; (conv => whnf)
            refine ⟨Unit, fun _ => .bool (decide (e ∈ partL l m q)), fun _ w' => Ext w18 w', (), fun _ _ => (has_spec (partL l m q) e (A3 q) (c3 q) w18 (((hpl11.ext hxd18).own q hqm).sl evC_len) (by omega)).mono fun r w' h => ⟨(), h.1, h.2⟩, ?_⟩
            intro _ w19 h19
            have hx19 : Ext w18 w19 := by
              rcases h19 with ⟨_, h⟩ | ⟨_, rfl⟩
              · exact h
              · exact Ext.refl _
            clear h19
            (conv => whnf)
            refine ⟨fun h => ?_, fun _ => ?_⟩
            · exfalso
              cases hth : thing e
              · by_cases hqs : (q : Int) = shardOf e.person m
                · have hh := had_own l m q e.person hqs
                  simp [hth, hqs, hh] at h
                  exact h (by rw [← hqs]; exact hh)
                · have hh := had_none l m q e.person hqs
                  simp [hth, hqs, hh] at h
              · have hmp := mem_part (n := m) (k := q) hmem hth
                simp [hth, hmp] at h
            · (conv => whnf)
              refine ⟨((q + 1 : Nat) : Int), wrap_succ (by omega), ?_⟩; (conv => whnf)
              exact ⟨q + 1, by omega, ⟨by omega, hx9.trans (hx11.trans (hxd18.trans hx19))⟩, ⟨rfl, rfl, rfl, rfl, rfl, rfl, rfl, trivial⟩⟩
        · intro hqm
          (conv => whnf)
          refine ⟨((i + 1 : Nat) : Int), wrap_succ (by omega), ?_⟩; (conv => whnf)
          exact ⟨i + 1, by omega, ⟨by omega, hx58.trans hx9⟩, ⟨rfl, rfl, rfl, rfl, trivial⟩⟩
    · intro _
      (conv => whnf)
      exact ⟨rfl, hxw5.trans hx6⟩
end Go.Proofs.Ythogbgdaeclkaaa
