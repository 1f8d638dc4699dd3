
/- event.Worth, event.Format. -/
import Derived.Test.YtbfjlpoeglcmfaaDoorEw2
set_option linter.unusedVariables false
set_option linter.unusedSimpArgs false
namespace Go.Proofs.YtbfjlpoeglcmfaaDoor
open Go.Se Go.RowKit

/-- What an event is worth. -/
def worthE (e : Ev) : Int := if e.kind = 1 then 1 else if e.kind = 2 then 3 else if e.kind = 3 then 5 else if e.kind = 4 then e.val else 0
theorem name_size {s : ByteArray} (h : isName s = true) : 1 ≤ s.size ∧ s.size ≤ 24 := by
  unfold isName at h
  simp only [Bool.and_eq_true, decide_eq_true_eq] at h
  exact h.1
theorem empty_size {s : ByteArray} (h : s = ⟨#[]⟩) : s.size = 0 := by rw [h]; rfl
theorem in_iff {n lo hi : Int} : inB n lo hi = true ↔ lo ≤ n ∧ n ≤ hi := by simp [inB]
/-- What may be. -/
structure MayE (e : Ev) : Prop where
  src : isName e.src = true
  num : 1 ≤ e.num ∧ e.num ≤ 1099511627776
  at_ : 0 ≤ e.at_ ∧ e.at_ ≤ 1099511627776
  kind : kindB e = true
theorem may_iff {e : Ev} : mayB e = true ↔ MayE e := by
  unfold mayB
  simp only [Bool.and_eq_true, in_iff]
  exact ⟨fun h => ⟨h.1.1.1, h.1.1.2, h.1.2, h.2⟩, fun h => ⟨⟨⟨h.src, h.num⟩, h.at_⟩, h.kind⟩⟩
theorem kind_cases {e : Ev} (h : kindB e = true) :
    ((e.kind = 0 ∨ e.kind = 1 ∨ e.kind = 2 ∨ e.kind = 3 ∨ e.kind = 5 ∨ e.kind = 6) ∧ isName e.person = true ∧ isName e.item = true ∧ e.text = ⟨#[]⟩ ∧ e.val = 0) ∨
    (e.kind = 4 ∧ isName e.person = true ∧ isName e.item = true ∧ e.text = ⟨#[]⟩ ∧ 1 ≤ e.val ∧ e.val ≤ 5) ∨
    ((e.kind = 7 ∨ e.kind = 8 ∨ e.kind = 9 ∨ e.kind = 10) ∧ isName e.person = true ∧ e.item = ⟨#[]⟩ ∧ isName e.text = true ∧ e.val = 0) ∨
    (e.kind = 11 ∧ e.person = ⟨#[]⟩ ∧ isName e.item = true ∧ labelB e.text = true ∧ 0 ≤ e.val ∧ e.val ≤ 1048576) ∨
    (e.kind = 12 ∧ e.person = ⟨#[]⟩ ∧ isName e.item = true ∧ e.text = ⟨#[]⟩ ∧ 0 ≤ e.val ∧ e.val ≤ 1048576) ∨
    (e.kind = 13 ∧ e.person = ⟨#[]⟩ ∧ isName e.item = true ∧ e.text = ⟨#[]⟩ ∧ e.val = 0) ∨
    (e.kind = 14 ∧ isName e.person = true ∧ e.item = ⟨#[]⟩ ∧ e.text = ⟨#[]⟩ ∧ e.val = 0) := by
  unfold kindB at h
  cases h1 : k6 e <;> simp only [h1, cond_true, cond_false] at h
  · cases h2 : decide (e.kind = 4) <;> simp only [h2, cond_true, cond_false] at h
    · cases h3 : k4 e <;> simp only [h3, cond_true, cond_false] at h
      · cases h4 : decide (e.kind = 11) <;> simp only [h4, cond_true, cond_false] at h
        · cases h5 : decide (e.kind = 12) <;> simp only [h5, cond_true, cond_false] at h
          · cases h6 : decide (e.kind = 13) <;> simp only [h6, cond_true, cond_false] at h
            · cases h7 : decide (e.kind = 14) <;> simp only [h7, cond_true, cond_false] at h
              · cases h
              · simp [Bool.and_eq_true, in_iff] at h h7
                simp [*]
            · simp [Bool.and_eq_true, in_iff] at h h6
              simp [*]
          · simp [Bool.and_eq_true, in_iff] at h h5
            simp [*]
        · simp [Bool.and_eq_true, in_iff] at h h4
          simp [*]
      · simp [Bool.and_eq_true, in_iff] at h
        unfold k4 at h3
        simp at h3
        simp [*]
        omega
    · simp [Bool.and_eq_true, in_iff] at h h2
      simp [*]
  · simp [Bool.and_eq_true, in_iff] at h
    unfold k6 at h1
    simp at h1
    simp [*]
    omega
theorem may_fok {e : Ev} (h : mayB e = true) (ht : e.text.size < 1000000) : FOk e := by
  have h := may_iff.1 h
  have hs := name_size h.src
  have hn := h.num
  have ha := h.at_
  rcases kind_cases h.kind with ⟨k, p, i, t, v⟩ | ⟨k, p, i, t, v⟩ | ⟨k, p, i, t, v⟩ | ⟨k, p, i, t, v⟩ | ⟨k, p, i, t, v⟩ | ⟨k, p, i, t, v⟩ | ⟨k, p, i, t, v⟩ <;>
    (refine ⟨by omega, by omega, by omega, by omega, by omega, ?_, ?_, ht⟩ <;> first | (have := name_size p; omega) | (have := name_size i; omega) | (have := empty_size p; omega) | (have := empty_size i; omega))

theorem ok_itoa : FnOk Tryd.prog 39 := ⟨_, Tryd.func39, rfl, rfl⟩
theorem itoa_spec (n : Int) (w : World) (hg : Gl w) (h0 : 0 ≤ n) (h1 : n < 9223372036854775808) : Cal Tryd.prog 39 [.int .i64 n] w fun r w' => r = .string (digB n.toNat) ∧ Ext w w' := by
  refine cal_of ok_itoa (Tryd.strconv_Itoa n (by omega) (by omega) w hg.pow10) ?_
  rintro w' ⟨k, os, rfl⟩
  refine ⟨?_, (ext_drewN w k).trans (ext_grow _ _)⟩
  have : n = (n.toNat : Int) := by omega
  unfold digB bytesOf
  rw [← Lib.itoa_nonneg, ← this]
theorem ok_join : FnOk Tryd.prog 40 := ⟨_, Tryd.func40, rfl, rfl⟩
theorem digB_ne (n : Nat) : digB n ≠ ⟨#[]⟩ := fun e => by
  have := congrArg ByteArray.size e
  unfold digB at this
  rw [bytes_size] at this
  have h0 : (⟨#[]⟩ : ByteArray).size = 0 := rfl
  rw [h0] at this
  have h1 := List.length_eq_zero_iff.1 this
  rw [Lib.decDigits] at h1
  split at h1 <;> simp at h1
theorem someB_ne {s : ByteArray} (h : s ≠ ⟨#[]⟩) : someB s = s := by unfold someB; rw [decide_eq_false h]; rfl
theorem knB_ne {e : Ev} (h : 0 ≤ e.kind ∧ e.kind < 15) : knB e ≠ ⟨#[]⟩ := by
  unfold knB
  obtain ⟨k, hk⟩ : ∃ k : Nat, e.kind = k := ⟨e.kind.toNat, by omega⟩
  rw [hk]
  have : k < 15 := by omega
  intro e0
  have := congrArg ByteArray.size e0
  rcases k with _ | _ | _ | _ | _ | _ | _ | _ | _ | _ | _ | _ | _ | _ | _ | k <;> first | (exact absurd this (by decide)) | omega
def wordsE (e : Ev) : List ByteArray := [e.src, digB e.num.toNat, digB e.at_.toNat, knB e, e.person, e.item, digB e.val.toNat, e.text]
theorem join_fmt {e : Ev} (hs : e.src ≠ ⟨#[]⟩) (hk : 0 ≤ e.kind ∧ e.kind < 15) : (⟨(Lib.join ((((wordsE e).map someB)).map (·.data.toList)) [32]).toArray⟩ : ByteArray) = fmtB e := by
  unfold wordsE
  simp only [List.map_cons, List.map_nil, someB_ne hs, someB_ne (digB_ne _), someB_ne (knB_ne hk)]
  apply ByteArray.ext
  apply Array.ext'
  simp [Lib.join, List.intercalate, List.intersperse, fmtB, spB]
theorem join_size {e : Ev} (hf : FOk e) : (fmtB e).size ≤ 10000000 := by
  have h1 := hf.src; have h2 := hf.person; have h3 := hf.item; have h4 := hf.text
  have d1 := digB_size e.num.toNat (by have := hf.num; omega)
  have d2 := digB_size e.at_.toNat (by have := hf.at_; omega)
  have d3 := digB_size e.val.toNat (by have := hf.val; omega)
  have hs : ∀ s : ByteArray, s.size < 1000000 → (someB s).size < 1000000 := by
    intro s h
    unfold someB
    cases decide (s = ⟨#[]⟩)
    · exact h
    · exact (by decide : (⟨#[46]⟩ : ByteArray).size < 1000000)
  have s1 := hs _ h2; have s2 := hs _ h3; have s3 := hs _ h4
  have hk : (knB e).size ≤ 10 := by
    unfold knB
    obtain ⟨k, hk⟩ : ∃ k : Nat, e.kind = k := ⟨e.kind.toNat, by have := hf.kind; omega⟩
    rw [hk]
    have : k < 15 := by have := hf.kind; omega
    rcases k with _ | _ | _ | _ | _ | _ | _ | _ | _ | _ | _ | _ | _ | _ | _ | k <;> first | decide | omega
  have hsp : spB.size = 1 := rfl
  unfold fmtB
  simp only [ByteArray.size_append]
  omega

theorem format_spec (e : Ev) (w : World) (hg : Gl w) (hm : mayB e = true) (hf : FOk e) :
    Cal Tryd.prog 26 [evV e] w fun r w' => r = .string (fmtB e) ∧ Ext w w' := by
  refine fn_intro Tt_ok Tryd.func26 (by rfl) rfl _ rfl rfl (by rfl) ?_; (conv => whnf)
  intro b w1 hn
  have hb := hn.At
  (conv => whnf)
  refine ⟨evC e, ⟨rfl, hb.all⟩, ?_⟩; (conv => whnf)
  refine (may_spec e w1 (hg.ext hn.ext) (by have := hf.text; omega)).mono ?_
  rintro _ w2 ⟨rfl, hx2⟩; (conv => whnf)
  rw [hm]
  constructor
  · intro h; cases h
  intro _
  have hkk := hf.kind
  obtain ⟨k, hk⟩ : ∃ k : Nat, e.kind = k := ⟨e.kind.toNat, by omega⟩
  (conv => whnf)
  refine draw_rule .ext [0, 1, 2, 3, 5, 6, 8, 9, 10, 11, 12, 13, 14, 15, 16, 17, 19, 20, 4, 7, 18] [21, 22] Tt_ok mixed (by kernel_rfl) (by first | (intro h; cases h; done) | (intro _; rfl)) ?_; (conv => whnf)
  have hb2 : At w2.drew b 34 (evC e) := hb.ext hx2.drew
  have hx3 : Ext w w2.drew := (hn.ext.trans hx2).drew
  generalize w2.drew = w3 at hb2 hx3 ⊢
  have hg3 := hg.ext hx3
  refine ⟨_, hb2.one rfl, ?_⟩; (conv => whnf)
  refine ⟨_, hb2.one rfl, ?_⟩; (conv => whnf)
  refine ⟨_, hb2.one rfl, ?_⟩; (conv => whnf)
  refine ⟨_, hb2.one rfl, ?_⟩; (conv => whnf)
  have hcell : w3.cell? ((⟨0, 0, none⟩ : Addr).add (e.kind.toNat * 1)) = some (.string (knB e)) := by
    have := hg3.kinds k (.string (knB e)) (by
      unfold knB
      rw [hk]
      have : k < 15 := by omega
      rcases k with _ | _ | _ | _ | _ | _ | _ | _ | _ | _ | _ | _ | _ | _ | _ | k <;> first | rfl | omega)
    rw [hk]
    simpa using this
  refine ⟨⟨hkk.1, hkk.2⟩, ?_⟩; (conv => whnf)
  refine ⟨.string (knB e), hcell, ?_⟩; (conv => whnf)
  refine ⟨_, hb2.one rfl, ?_⟩; (conv => whnf)
  refine ⟨_, hb2.one rfl, ?_⟩; (conv => whnf)
  refine ⟨_, hb2.one rfl, ?_⟩; (conv => whnf)
  refine ⟨_, hb2.one rfl, ?_⟩; (conv => whnf)
  refine (itoa_spec e.num w3 hg3 hf.num.1 hf.num.2).mono ?_; rintro _ w4 ⟨rfl, hx4⟩
  refine ⟨hx4, ?_⟩; (conv => whnf)
  refine (itoa_spec e.at_ w4 (hg3.ext hx4) hf.at_.1 hf.at_.2).mono ?_; rintro _ w5 ⟨rfl, hx5⟩
  refine ⟨hx5, ?_⟩; (conv => whnf)
  refine (itoa_spec e.val w5 ((hg3.ext hx4).ext hx5) hf.val.1 hf.val.2).mono ?_; rintro _ w6 ⟨rfl, hx6⟩
  refine ⟨hx6, ?_⟩; (conv => whnf)
  intro b7 w7 hn7
  have hx7 : Ext w w7 := ((((hx3.trans hx4).trans hx5).trans hx6).trans hn7.ext)
  have hb7 : At w7 b7 9 ((wordsE e).map Value.string) := hn7.At
  have hbb : w.heap.size ≤ b7 := by rw [hn7.block]; exact (((hx3.trans hx4).trans hx5).trans hx6).size
  (conv => whnf)
  have hwl : (wordsE e).length = 8 := rfl
  refine loop_rule Tt_ok (fun (k : Nat) w' => k ≤ 8 ∧ Ext w w' ∧ At w' b7 9 (((wordsE e).take k).map (fun s => Value.string (someB s)) ++ ((wordsE e).drop k).map Value.string))
    (fun k => [(3, .slice (some ⟨b7, 0, none⟩) 8 8), (31, .slice (some ⟨b7, 0, none⟩) 8 8), (32, .int .i64 8), (33, .int .i64 k)]) (fun k => 8 - k) 0 ⟨by omega, hx7, by simpa using hb7⟩ ⟨rfl, rfl, rfl, rfl, trivial⟩ ?_
  clear hb7 hx7 hn7 hb2 hb hn
  rintro k w8 ⟨hk8, hx8, hb8⟩
  (conv => whnf)
  constructor
  · intro hlt
    have hlt : k < 8 := by simp at hlt; omega
    have hkl : k < (wordsE e).length := by omega
    rw [List.drop_eq_getElem_cons hkl, List.map_cons] at hb8
    have htk : (wordsE e).take (k + 1) = (wordsE e).take k ++ [(wordsE e)[k]] := List.take_succ_eq_append_getElem hkl
    have hcell := hb8.cell k
    rw [List.getElem?_append_right (by simp; omega)] at hcell
    rw [show k - (((wordsE e).take k).map (fun s => Value.string (someB s))).length = 0 by simp; omega] at hcell
    generalize hx : (wordsE e)[k] = x at hb8 htk hcell
    have hcell : w8.cell? ((⟨b7, 0, none⟩ : Addr).add ((k : Int).toNat * 1)) = some (.string x) := by
      rw [show ((k : Int).toNat * 1) = k by simp, add_zero_addr]; simpa using hcell
    (conv => whnf)
    refine seq_cut Tt_ok (ι := Unit) (fun _ => [(3, .slice (some ⟨b7, 0, none⟩) 8 8), (31, .slice (some ⟨b7, 0, none⟩) 8 8), (32, .int .i64 8), (33, .int .i64 k)])
      (fun _ w' => Ext w w' ∧ At w' b7 9 (((wordsE e).take (k + 1)).map (fun s => Value.string (someB s)) ++ ((wordsE e).drop (k + 1)).map Value.string)) ?_ ?_
    · (conv => whnf)
      refine ⟨⟨b7, 0, none⟩, ⟨rfl, by omega, by omega⟩, ?_⟩; (conv => whnf)
      refine ⟨.string x, hcell, ?_⟩; (conv => whnf)
      constructor
      · intro h
        have h : x = ⟨#[]⟩ := by simpa using h
        (conv => whnf)
        refine ⟨⟨b7, 0, none⟩, ⟨rfl, by omega, by omega⟩, ?_⟩; (conv => whnf)
        have hadr : (⟨b7, 0, none⟩ : Addr).add ((k : Int).toNat * 1) = ⟨b7, k, none⟩ := by rw [add_zero_addr]; simp
        rw [hadr]
        refine store_at Tt_ok (e := ty9) rfl hb8 rfl ?_ (by simp [cellsL, Value.oneCell']) fun w9 h9 ho9 => ?_
        · show k + 1 ≤ _
          simp; omega
        (conv => whnf)
        refine ⟨(), ⟨ho9.ext hx8 hbb, ?_⟩, ⟨rfl, rfl, rfl, rfl, trivial⟩⟩
        rw [htk]
        have hsp : spl (((wordsE e).take k).map (fun s => Value.string (someB s)) ++ Value.string x :: ((wordsE e).drop (k + 1)).map Value.string) k (cellsL (.string ⟨#[46]⟩)) = ((wordsE e).take k ++ [x]).map (fun s => Value.string (someB s)) ++ ((wordsE e).drop (k + 1)).map Value.string := by
          have hl : (((wordsE e).take k).map (fun s => Value.string (someB s))).length = k := by simp; omega
          unfold spl cellsL
          rw [List.take_append_of_le_length (by omega), List.take_of_length_le (by omega), List.drop_append, hl]
          rw [List.drop_of_length_le (by simp; omega)]
          simp only [List.length_cons, List.length_nil, Nat.zero_add, List.nil_append]
          rw [show k + 1 - k = 1 by omega, h]
          simp [someB]
        rw [← hsp]; exact h9
      · intro h
        have h : ¬ x = ⟨#[]⟩ := by simpa using h
        (conv => whnf)
        refine ⟨(), ⟨hx8, ?_⟩, ⟨rfl, rfl, rfl, rfl, trivial⟩⟩
        rw [htk]
        simpa [someB_ne h] using hb8
    rintro _ w9 ⟨hx9, hb9⟩
    (conv => whnf)
    refine ⟨((k + 1 : Nat) : Int), wrap_succ (by omega), ?_⟩; (conv => whnf)
    exact ⟨k + 1, by omega, ⟨by omega, hx9, hb9⟩, ⟨rfl, rfl, rfl, rfl, trivial⟩⟩
  · intro hge
    have hge : k = 8 := by simp at hge; omega
    subst hge
    have hb9 : At w8 b7 9 (((wordsE e).map someB).map Value.string) := by
      have h1 : (wordsE e).take 8 = wordsE e := rfl
      have h2 : (wordsE e).drop 8 = [] := rfl
      rw [h1, h2] at hb8
      have h3 : ((wordsE e).map someB).map Value.string = (wordsE e).map (fun s => Value.string (someB s)) := by rw [List.map_map]; rfl
      rw [h3]
      simpa using hb8
    (conv => whnf)
    have hcells : ∀ (j : Nat) x, ((wordsE e).map someB)[j]? = some x → w8.cell? ⟨b7, 0 + j, none⟩ = some (.string x) := by
      intro j x hj
      rw [Nat.zero_add, hb9.cell j, List.getElem?_map, hj]; rfl
    have hsrc : e.src ≠ ⟨#[]⟩ := fun h0 => by
      have := (name_size (may_iff.1 hm).src).1
      rw [empty_size h0] at this; omega
    have hjf := join_fmt hsrc hkk
    refine (cal_of ok_join (Tryd.strings_Join b7 0 8 ((wordsE e).map someB) ⟨#[32]⟩ w8 hcells hb9.lt (by simp [wordsE]) (by simp [wordsE]) ?_) (R := fun r w' => r = .string (fmtB e) ∧ Ext w8 w') ?_).mono ?_
    · have h1 := join_size hf
      rw [← hjf] at h1
      have h2 : ∀ L : List UInt8, (⟨L.toArray⟩ : ByteArray).size = L.length := fun L => by simp [ByteArray.size]
      rw [h2] at h1
      show (Lib.join (((wordsE e).map someB).map (·.data.toList)) [32]).length ≤ _
      omega
    · intro w' hw'
      exact ⟨by rw [← hjf], hw'⟩
    · rintro _ w10 ⟨rfl, hx10⟩; (conv => whnf)
      exact ⟨rfl, hx8.trans hx10⟩
end Go.Proofs.YtbfjlpoeglcmfaaDoor
