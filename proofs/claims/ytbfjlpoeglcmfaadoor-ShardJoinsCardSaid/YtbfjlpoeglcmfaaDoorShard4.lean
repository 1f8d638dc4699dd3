
/- shard.Split: the walk. -/
import Derived.Test.YtbfjlpoeglcmfaaDoorShard3
set_option linter.unusedVariables false
set_option linter.unusedSimpArgs false
namespace Go.Proofs.YtbfjlpoeglcmfaaDoor
open Go.Se Go.RowKit

theorem und25 : Tryd.prog.underlying 29 = some (.slice 22) := by kernel_rfl
theorem partL_snoc (l : List Ev) (n k : Int) (i : Nat) (hi : i < l.length) : partL (l.take (i + 1)) n k = partL (l.take i) n k ++ if inPart n k l[i] then [l[i]] else [] := filter_snoc _ l i hi
theorem partL_len (l : List Ev) (n k : Int) (i : Nat) : (partL (l.take i) n k).length ≤ i := by
  have := List.length_filter_le (inPart n k) (l.take i)
  unfold partL
  simp at this
  omega

theorem split_no (l : List Ev) (A : Option Addr) (c : Nat) (n : Int) (w : World) (hn : n < 1 ∨ 1024 < n) :
    Cal Tryd.prog 10 [.int .i64 n, .slice A l.length c] w fun r w' => r = .slice none 0 0 ∧ w' = w := by
  refine fn_intro Tt_ok Tryd.func10 (by rfl) rfl _ rfl rfl (by rfl) ?_; (conv => whnf)
  constructor
  · intro _; (conv => whnf); exact ⟨rfl, rfl⟩
  · intro h; simp at h; omega

set_option maxHeartbeats 1000000 in
theorem split_yes (l : List Ev) (A : Option Addr) (c : Nat) (n : Nat) (w : World) (hn : 1 ≤ n) (hn' : n ≤ 1024) (hs : SlE w A l) (hl : l.length < 1000000) (hp : ∀ e ∈ l, e.person.size < 1000000000000000) :
    Cal Tryd.prog 10 [.int .i64 n, .slice A l.length c] w fun r w' => ∃ pb A' c', r = .slice (some ⟨pb, 0, none⟩) n n ∧ PL w.heap.size w' pb n A' c' (fun k => partL l n k) ∧ Ext w w' := by
  refine fn_intro Tt_ok Tryd.func10 (by rfl) rfl _ rfl rfl (by rfl) ?_; (conv => whnf)
  constructor
  · intro h; simp at h; omega
  · intro _
    (conv => whnf)
    refine make_one und25 ty22_ok by22 rfl rfl n (by omega) (by omega) fun pb w0 hnew => ?_
    (conv => whnf)
    have hpl0 : PL w.heap.size w0 pb n (fun _ => none) (fun _ => 0) (fun k => partL (l.take 0) n k) := by
      refine ⟨?_, by rw [hnew.block]; exact Nat.le_refl _, fun k _ => Own.nil, fun i j _ _ _ a b ha => by cases ha⟩
      have := hnew.At
      refine Eq.mp (congrArg (At w0 pb _) ?_) this
      apply List.ext_getElem
      · simp
      · intro j h1 h2; simp [partL]; rfl
    refine loop_rule Tt_ok (fun (x : Nat × (Nat → Option Addr) × (Nat → Nat)) w' => x.1 ≤ l.length ∧ Ext w w' ∧ PL w.heap.size w' pb n x.2.1 x.2.2 (fun k => partL (l.take x.1) n k))
      (fun x => [(0, .int .i64 n), (18, .slice A l.length c), (19, .int .i64 l.length), (20, .int .i64 x.1), (5, .slice (some ⟨pb, 0, none⟩) n n)]) (fun x => l.length - x.1) (0, fun _ => none, fun _ => 0) ⟨by simp, hnew.ext, hpl0⟩ ⟨rfl, rfl, rfl, rfl, rfl, trivial⟩ ?_
    rintro ⟨i, A1, c1⟩ w1 ⟨hi, hx, hpl⟩
    simp only at hi hpl
    (conv => whnf)
    constructor
    · intro hlt
      have hlt : i < l.length := by simpa using hlt
      obtain ⟨a, rfl, hc⟩ := hs.get hlt
      have hpe := hp _ (List.getElem_mem hlt)
      have hsn := fun k : Int => partL_snoc l n k i hlt
      have hlen := fun k : Int => partL_len l n k i
      generalize hel : l[i] = e at *
      (conv => whnf)
      repeat (refine seq_go Tt_ok ?_; (conv => whnf))
      refine ⟨a, ⟨rfl, by omega, by omega⟩, ?_⟩; (conv => whnf)
      refine ⟨evC e, ⟨rfl, hx.cells hc⟩, ?_⟩; (conv => whnf)
      intro b2 w2 hn2
      (conv => whnf)
      refine store_at Tt_ok (e := ty34) (v := evV e) (off := 0) (by rfl) hn2.At (by rfl) (by decide) (evC_one e) fun w3 hat hon => ?_
      have hat : At w3 b2 34 (evC e) := hat
      have hx3 : Ext w1 w3 := hon.ext hn2.ext (by rw [hn2.block]; exact Nat.le_refl _)
      have hb2 : w1.heap.size = b2 := hn2.block.symm
      have hpl3 := hpl.ext hx3
      have hxw3 := hx.trans hx3
      (conv => whnf)
      refine ⟨_, hat.one rfl, ?_⟩; (conv => whnf)
      refine seq_cut Tt_ok (fun _ : Unit => [(0, .int .i64 n), (18, .slice (some a) l.length c), (19, .int .i64 l.length), (20, .int .i64 i), (5, .slice (some ⟨pb, 0, none⟩) n n), (7, .pointer (some ⟨b2, 0, none⟩)), (40, .bool (thing e))]) (fun _ w' => w3 = w') ?_ ?_
      · (conv => whnf)
        repeat (refine seq_go Tt_ok ?_; (conv => whnf))
        refine ⟨fun h11 => ?_, fun h11 => ?_⟩
        · (conv => whnf)
          exact ⟨(), rfl, ⟨rfl, rfl, rfl, rfl, rfl, rfl, bool_eq (by simp at h11; simp [thing, h11]), trivial⟩⟩
        · (conv => whnf)
          repeat (refine seq_go Tt_ok ?_; (conv => whnf))
          refine ⟨fun h12 => ?_, fun h12 => ?_⟩
          · (conv => whnf)
            exact ⟨(), rfl, ⟨rfl, rfl, rfl, rfl, rfl, rfl, bool_eq (by simp at h12; simp [thing, h12]), trivial⟩⟩
          · (conv => whnf)
            exact ⟨(), rfl, ⟨rfl, rfl, rfl, rfl, rfl, rfl, bool_eq (by simp at h11 h12; simp [thing, h11, h12]), trivial⟩⟩
      rintro _ w' rfl
      (conv => whnf)
      refine ⟨fun hth => ?_, fun hth => ?_⟩
      rotate_left
      · -- of a person
        (conv => whnf)
        refine ⟨_, hat.one rfl, ?_⟩; (conv => whnf)
        refine (of_spec e.person n w3 hpe (by omega)).mono ?_
        rintro r w4 ⟨rfl, hx4⟩
        have hsb := below_bounds (hashN e.person) n (hashN_lt _)
        obtain ⟨j, hj⟩ : ∃ j : Nat, shardOf e.person n = j := ⟨(shardOf e.person n).toNat, by unfold shardOf; omega⟩
        have hjn : j < n := by unfold shardOf at hj; omega
        rw [hj]
        have hat4 := hat.ext hx4
        have hpl4 := hpl3.ext hx4
        (conv => whnf)
        refine draw_rule (.mods fun g => some g = (A1 j).map (·.block)) [0, 1, 2, 3, 4, 5, 6, 7, 8, 9] [10] Tt_ok mixed (by kernel_rfl) (by first | (intro h; cases h; done) | (intro _; rfl)) ?_; (conv => whnf)
        refine ⟨⟨pb, 0, none⟩, ⟨rfl, by omega, by omega⟩, ?_⟩; (conv => whnf)
        refine ⟨_, ⟨hpl4.cell hjn, ?_⟩, ?_⟩
        · intro he
          cases hA : A1 j with
          | none => rw [hA] at he; simp at he
          | some a' => rw [hA] at he; simp [add_block] at he; exact hpl4.ne hjn hA he.symm
        (conv => whnf)
        have hb2A : ¬ some b2 = (A1 j).map (·.block) := by
          intro he
          cases hA : A1 j with
          | none => rw [hA] at he; simp at he
          | some a' => rw [hA] at he; simp at he; have := ((hpl.own j hjn).block hA).2; omega
        refine ⟨evC e, ⟨rfl, hat4.all, hb2A⟩, ?_⟩; (conv => whnf)
        intro b5 w5 hn5
        refine ⟨Mod.of_ext hn5.ext, ?_⟩
        (conv => whnf)
        have hx5 : Ext w4 w5 := (Ext.refl w4).drew.trans hn5.ext
        have hl2 := hlen j
        refine append_own (l := partL (l.take i) n j) (news := [e]) (bytes := 96) (ety := ty34) ty34_ok und22 by34 rfl rfl (by decide) evC_len evC_one ((hpl4.ext hx5).own j hjn) (sl_new evC_len hn5) (by simp; omega) (by simp; omega) ((hxw3.trans hx4).trans hx5).size ?_
        intro A6 c6 w6 hown6 hgr hA6
        refine ⟨⟨hgr.os, hgr.tape, hgr.output, hgr.size, fun k hk hn => hgr.block k hk hn⟩, ?_⟩
        (conv => whnf)
        refine ⟨⟨pb, 0, none⟩, ⟨rfl, by omega, by omega⟩, ?_⟩; (conv => whnf)
        have hat6 : At w6 pb 22 ((List.range n).map fun k => .slice (A1 k) (partL (l.take i) n k).length (c1 k)) := by
          refine (hgr.block pb (hpl4.ext hx5).at_.lt fun he => ?_).trans (hpl4.ext hx5).at_
          cases hA : A1 j with
          | none => rw [hA] at he; simp at he
          | some a' => rw [hA] at he; simp at he; exact hpl4.ne hjn hA he.symm
        have eadd : (⟨pb, 0, none⟩ : Addr).add ((j : Int).toNat * 1) = ⟨pb, j, none⟩ := by rw [add_zero_addr]; simp
        rw [eadd]
        refine store_at Tt_ok (e := ty22) (v := .slice A6 (partL (l.take i) n j ++ [e]).length c6) (off := j) (by rfl) hat6 (by rfl) (by simp [ty22]; omega) (by simp [cellsL, Value.oneCell']) fun w7 hat7 hon7 => ?_
        (conv => whnf)
        have hpl7 := hpl4.app hjn hx5 hown6 hgr hA6 hat7 hon7
        have hxw7 : Ext w w7 := by
          refine hon7.ext (ext_grown ((hxw3.trans hx4).trans hx5) hgr fun g hg => ?_) hpl.le
          cases hA : A1 j with
          | none => rw [hA] at hg; simp at hg
          | some a' => rw [hA] at hg; simp at hg; have := ((hpl.own j hjn).block hA).1; omega
        refine ⟨((i + 1 : Nat) : Int), wrap_succ (by omega), ?_⟩; (conv => whnf)
        refine ⟨(i + 1, upd A1 j A6, upd c1 j c6), by simp; omega, ⟨by simp; omega, hxw7, ?_⟩, ⟨rfl, rfl, rfl, rfl, rfl, trivial⟩⟩
        have ef : (fun k : Nat => partL (l.take (i + 1)) n k) = upd (fun k : Nat => partL (l.take i) n k) j (partL (l.take i) n j ++ [e]) := by
          funext k
          rw [hsn k]
          unfold upd inPart
          rw [hth, hj]
          by_cases ek : k = j
          · subst ek; simp
          · rw [if_neg ek, if_neg (by simp; omega)]; simp
        simp only [ef]
        exact hpl7
      · (conv => whnf)
        refine loop_rule Tt_ok (fun (x : Nat × (Nat → Option Addr) × (Nat → Nat)) w' => x.1 ≤ n ∧ (At w' b2 34 (evC e) ∧ b2 < w'.heap.size) ∧ Ext w w' ∧ (∀ k, k < n → ∀ a, x.2.1 k = some a → a.block ≠ b2) ∧ PL w.heap.size w' pb n x.2.1 x.2.2 (fun k => if k < x.1 then partL (l.take (i + 1)) n k else partL (l.take i) n k))
          (fun x => [(0, .int .i64 n), (18, .slice (some a) l.length c), (19, .int .i64 l.length), (20, .int .i64 i), (5, .slice (some ⟨pb, 0, none⟩) n n), (7, .pointer (some ⟨b2, 0, none⟩)), (45, .int .i64 n), (46, .int .i64 x.1)]) (fun x => n - x.1) (0, A1, c1) ⟨by simp, ⟨hat, hat.lt⟩, hxw3, fun k hk a' ha' => by have := ((hpl.own k hk).block ha').2; omega, by simpa using hpl3⟩ ⟨rfl, rfl, rfl, rfl, rfl, rfl, rfl, rfl, trivial⟩ ?_
        rintro ⟨j, A2, c2⟩ w4 ⟨hj, ⟨hat4, hb2s⟩, hxw4, hb2k, hpl4⟩
        simp only at hj hpl4 hb2k
        (conv => whnf)
        constructor
        · intro hjn
          have hjn : j < n := by simpa using hjn
          have hcell := hpl4.cell hjn
          have hownj := hpl4.own j hjn
          simp only [Nat.lt_irrefl, if_false] at hcell hownj
          have hl2 := hlen j
          (conv => whnf)
          refine draw_rule (.mods fun g => some g = (A2 j).map (·.block)) [0, 1, 2, 3, 4, 5, 6, 7, 8, 9] [10] Tt_ok mixed (by kernel_rfl) (by first | (intro h; cases h; done) | (intro _; rfl)) ?_; (conv => whnf)
          refine ⟨⟨pb, 0, none⟩, ⟨rfl, by omega, by omega⟩, ?_⟩; (conv => whnf)
          refine ⟨_, ⟨hcell, ?_⟩, ?_⟩
          · intro he
            cases hA : A2 j with
            | none => rw [hA] at he; simp at he
            | some a' => rw [hA] at he; simp [add_block] at he; exact hpl4.ne hjn hA he.symm
          (conv => whnf)
          have hb2A : ¬ some b2 = (A2 j).map (·.block) := by
            intro he
            cases hA : A2 j with
            | none => rw [hA] at he; simp at he
            | some a' =>
              rw [hA] at he
              simp at he
              exact hb2k j hjn a' hA he.symm
          refine ⟨evC e, ⟨rfl, hat4.all, hb2A⟩, ?_⟩; (conv => whnf)
          intro b5 w5 hn5
          refine ⟨Mod.of_ext hn5.ext, ?_⟩
          (conv => whnf)
          have hx5 : Ext w4 w5 := (Ext.refl w4).drew.trans hn5.ext
          refine append_own (l := partL (l.take i) n j) (news := [e]) (bytes := 96) (ety := ty34) ty34_ok und22 by34 rfl rfl (by decide) evC_len evC_one (hownj.ext hx5) (sl_new evC_len hn5) (by simp; omega) (by simp; omega) (hxw4.trans hx5).size ?_
          intro A6 c6 w6 hown6 hgr hA6
          refine ⟨⟨hgr.os, hgr.tape, hgr.output, hgr.size, fun k hk hn => hgr.block k hk hn⟩, ?_⟩
          (conv => whnf)
          refine ⟨⟨pb, 0, none⟩, ⟨rfl, by omega, by omega⟩, ?_⟩; (conv => whnf)
          have hat6 := (hgr.block pb (hpl4.ext hx5).at_.lt fun he => (by
            cases hA : A2 j with
            | none => rw [hA] at he; simp at he
            | some a' => rw [hA] at he; simp at he; exact hpl4.ne hjn hA he.symm)).trans (hpl4.ext hx5).at_
          have eadd : (⟨pb, 0, none⟩ : Addr).add ((j : Int).toNat * 1) = ⟨pb, j, none⟩ := by rw [add_zero_addr]; simp
          rw [eadd]
          refine store_at Tt_ok (e := ty22) (v := .slice A6 (partL (l.take i) n j ++ [e]).length c6) (off := j) (by rfl) hat6 (by rfl) (by simp [ty22]; omega) (by simp [cellsL, Value.oneCell']) fun w7 hat7 hon7 => ?_
          (conv => whnf)
          have hpl7 := hpl4.app (e := e) hjn hx5 (A6 := A6) (c6 := c6) (by rw [if_neg (Nat.lt_irrefl j)]; exact hown6) hgr hA6 (by rw [if_neg (Nat.lt_irrefl j)]; exact hat7) hon7
          rw [if_neg (Nat.lt_irrefl j)] at hpl7
          have hxw7 : Ext w w7 := by
            refine hon7.ext (ext_grown (hxw4.trans hx5) hgr fun g hg => ?_) hpl.le
            cases hA : A2 j with
            | none => rw [hA] at hg; simp at hg
            | some a' => rw [hA] at hg; simp at hg; have := (hownj.block hA).1; omega
          have hw35 : b2 < w5.heap.size := (hat4.ext hx5).lt
          have hb2pb : b2 ≠ pb := by have := hpl.at_.lt; omega
          have hat7b : At w7 b2 34 (evC e) := hon7.at_ ((hgr.block b2 hw35 hb2A).trans (hat4.ext hx5)) hb2pb
          refine ⟨((j + 1 : Nat) : Int), wrap_succ (by omega), ?_⟩; (conv => whnf)
          refine ⟨(j + 1, upd A2 j A6, upd c2 j c6), by simp; omega, ⟨by simp; omega, ?_, hxw7, ?_, ?_⟩, ⟨rfl, rfl, rfl, rfl, rfl, rfl, rfl, rfl, trivial⟩⟩
          · exact ⟨hat7b, hat7b.lt⟩
          · intro k hk a' ha'
            unfold upd at ha'
            by_cases ek : k = j
            · simp only [if_pos ek] at ha'
              rcases hA6 with e1 | e1 | e1
              · exact hb2k j hjn a' (by rw [← e1, ha'])
              · rw [ha'] at e1
                cases hA : A2 j with
                | none => rw [hA] at e1; simp at e1
                | some d => rw [hA] at e1; simp at e1; rw [e1]; exact hb2k j hjn d hA
              · rw [ha'] at e1; simp at e1; omega
            · simp only [if_neg ek] at ha'
              exact hb2k k hk a' ha'
          · have ef : (fun k : Nat => if k < j + 1 then partL (l.take (i + 1)) n k else partL (l.take i) n k) = upd (fun k : Nat => if k < j then partL (l.take (i + 1)) n k else partL (l.take i) n k) j (partL (l.take i) n j ++ [e]) := by
              funext k
              unfold upd
              by_cases ek : k = j
              · subst ek
                rw [if_pos (by omega), if_pos rfl, hsn k]
                unfold inPart
                simp [hth]
              · rw [if_neg ek]
                by_cases e2 : k < j
                · rw [if_pos (by omega)]; exact (if_pos e2).symm
                · rw [if_neg (by omega)]; exact (if_neg e2).symm
            simp only [ef]
            exact hpl7
        · intro hjn
          have hjn : n ≤ j := by simpa using hjn
          (conv => whnf)
          refine ⟨((i + 1 : Nat) : Int), wrap_succ (by omega), ?_⟩; (conv => whnf)
          refine ⟨(i + 1, A2, c2), by simp; omega, ⟨by simp; omega, hxw4, ?_⟩, ⟨rfl, rfl, rfl, rfl, rfl, trivial⟩⟩
          refine ⟨Eq.mp (congrArg (At w4 pb _) ?_) hpl4.at_, hpl4.le, fun k hk => ?_, hpl4.dis⟩
          · apply List.map_congr_left
            intro k hk
            rw [if_pos (by simp at hk; omega)]
          · have := hpl4.own k hk
            rw [if_pos (by omega)] at this
            exact this
    · intro hge
      have hge : l.length ≤ i := by simpa using hge
      rw [List.take_of_length_le hge] at hpl
      (conv => whnf)
      exact ⟨pb, A1, c1, rfl, hpl, hx⟩
end Go.Proofs.YtbfjlpoeglcmfaaDoor
