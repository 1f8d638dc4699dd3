
/- shard.Join. -/
import Derived.Test.YtbfjlpoeglcmfaaDoorJo2
import Derived.Test.YtbfjlpoeglcmfaaDoorMap2
set_option linter.unusedVariables false
set_option linter.unusedSimpArgs false
namespace Go.Proofs.YtbfjlpoeglcmfaaDoor
open Go.Se Go.RowKit

def evZ : Ev := ⟨⟨#[]⟩, 0, 0, 0, ⟨#[]⟩, ⟨#[]⟩, 0, ⟨#[]⟩⟩
theorem only_in {w w1 w2 : World} {b : Nat} (h : Only w1 w2 b) (hx : Ext w w1) (hb : w.heap.size ≤ b) : Ext w w2 := h.ext hx hb
theorem map_in {κ : Type} {enc : κ → Value} {w w1 w2 : World} {b c : Nat} {L : List (κ × Value)} (h : MapAt w1 b enc L) (ho : Only w1 w2 c) (hc : b ≠ c) : MapAt w2 b enc L := h.only ho hc
def decE : Value → Ev
  | .agg cs => match cs.toList with
    | [.string a, .int _ b, .int _ c, .int _ d, .string e, .string f, .int _ g, .string h] => ⟨a, b, c, d, e, f, g, h⟩
    | _ => evZ
  | _ => evZ
theorem decE_evV (e : Ev) : decE (evV e) = e := rfl
theorem perm_least {z out : List Ev} (h : (leastL z).Perm (leastL out)) : z.Perm out := by
  have := h.map fun x => decE x.2
  simpa [leastL, decE_evV, Function.comp_def] using this
theorem join_spec (ps : List (List Ev)) (A : Option Addr) (c : Nat) (w : World) (hg0 : Gl w) (hs : SlParts w A ps) (hl : ps.flatten.length < 1000000) (hpl : ps.length < 1000000) (hm : ∀ l ∈ ps, ∀ e ∈ l, mayB e = true) :
    Cal Tryd.prog 8 [.slice A ps.length c] w fun r w' => ∃ A' z, r = .slice A' z.length z.length ∧ z.Perm (onceL ps.flatten) ∧ Srt lessB z ∧ SlE w' A' z ∧ Ext w w' := by
  refine fn_intro Tt_ok Tryd.func8 (by rfl) rfl _ rfl rfl (by rfl) ?_; (conv => whnf)
  intro b1 w1 hn1; (conv => whnf)
  have e1 := hn1.block
  refine loop_rule Tt_ok (fun (k : Nat) w' => k ≤ ps.length ∧ Ext w w' ∧ MapAt w' b1 idsV (leastL (onceL (ps.take k).flatten)))
    (fun k => [(3, .map (some b1)), (15, .slice A ps.length c), (16, .int .i64 ps.length), (17, .int .i64 k)]) (fun k => ps.length - k) 0 ⟨by omega, hn1.ext, by simpa [leastL, onceL] using MapAt.new hn1⟩ ⟨rfl, rfl, rfl, rfl, trivial⟩ ?_
  rintro k w2 ⟨hk, hx2, hm2⟩
  (conv => whnf)
  constructor
  · intro hc
    have hc : k < ps.length := by simpa using hc
    obtain ⟨a, B, cB, rfl, hcell, hsl⟩ := hs.get k ps[k] (List.getElem?_eq_getElem hc)
    have hmk := hm ps[k] (List.getElem_mem hc)
    have hfl := flat_take_succ ps k hc
    have hll : ps[k].length < 1000000 := by
      have h1 : ((ps.take (k + 1)).flatten).length ≤ ps.flatten.length := by
        conv => rhs; rw [← List.take_append_drop (k + 1) ps, List.flatten_append, List.length_append]
        omega
      rw [hfl, List.length_append] at h1
      omega
    generalize hF : (ps.take k).flatten = F at hm2 hfl
    have hmF : ∀ e ∈ F, mayB e = true := fun e he => by
      rw [← hF] at he
      obtain ⟨l', h1, h2⟩ := List.mem_flatten.1 he
      exact hm l' (List.mem_of_mem_take h1) e h2
    generalize hel : ps[k] = l at *
    clear hel
    (conv => whnf)
    refine ⟨a, ⟨rfl, by omega, by omega⟩, ?_⟩; (conv => whnf)
    refine ⟨_, hx2.cell hcell, ?_⟩; (conv => whnf)
    refine loop_rule Tt_ok (fun (j : Nat) w' => j ≤ l.length ∧ Ext w w' ∧ MapAt w' b1 idsV (leastL (onceL (F ++ l.take j))))
      (fun j => [(3, .map (some b1)), (15, .slice (some a) ps.length c), (16, .int .i64 ps.length), (17, .int .i64 k), (21, .slice B l.length cB), (22, .int .i64 l.length), (23, .int .i64 j)]) (fun j => l.length - j) 0 ⟨by omega, hx2, by simpa using hm2⟩ ⟨rfl, rfl, rfl, rfl, rfl, rfl, rfl, trivial⟩ ?_
    clear hm2 hx2
    rintro j w3 ⟨hj, hx3, hm3⟩
    (conv => whnf)
    constructor
    · intro hc2
      have hc2 : j < l.length := by simpa using hc2
      obtain ⟨a2, rfl, hce⟩ := hsl.get hc2
      have hme := hmk l[j] (List.getElem_mem hc2)
      have htk : F ++ l.take (j + 1) = (F ++ l.take j) ++ [l[j]] := by rw [List.take_succ_eq_append_getElem hc2]; simp
      generalize hel : l[j] = e at hce hme htk
      have hfe : FOk e := may_fok hme (Nat.lt_trans (may_text hme) (by decide))
      have hmo : ∀ x ∈ onceL (F ++ l.take j), mayB x = true := fun x hx => by
        rcases List.mem_append.1 (once_mem hx) with h | h
        · exact hmF x h
        · exact hmk x (List.mem_of_mem_take h)
      have hnext := once_app (F ++ l.take j) e
      rw [← htk] at hnext
      generalize onceL (F ++ l.take j) = out at hm3 hmo hnext
      have hstep := least_step (out := out) (e := e)
      rw [← hnext] at hstep
      obtain ⟨old, hit, hlk, hold, hnone⟩ : ∃ old hit, (∀ w', MapAt w' b1 idsV (leastL out) → RdS Tryd.prog .same w' (Instr.lookup 38 (.map (some b1)) (idsV (idE e)) true) (.tuple #[evV old, .bool hit])) ∧
          (hit = true → out.find? (sameId e) = some old) ∧ (hit = false → out.find? (sameId e) = none) := by
        have hr : ∀ w', MapAt w' b1 idsV (leastL out) → _ := fun w' hm' => map_look2 (cl := .same) undLeast ids_key (e := ty34) ty34_ok kept_same hm' (idE e)
        rw [least_look] at hr
        cases hf : out.find? (sameId e) with
        | none => rw [hf] at hr; exact ⟨evZ, false, hr, fun h => (by cases h), fun _ => rfl⟩
        | some old => rw [hf] at hr; exact ⟨old, true, hr, fun _ => rfl, fun h => (by cases h)⟩
      have hmold : (!hit) = false → mayB old = true := fun h => hmo old (List.mem_of_find?_eq_some (hold (by simpa using h)))
      have b1lt := hm3.lt
      (conv => whnf)
      repeat (refine seq_go Tt_ok ?_; (conv => whnf))
      refine ⟨a2, ⟨rfl, by omega, by omega⟩, ?_⟩; (conv => whnf)
      refine ⟨evC e, ⟨rfl, hx3.cells hce⟩, ?_⟩; (conv => whnf)
      intro b4 w4 hn4; (conv => whnf)
      have e4 := hn4.block
      have s4 := hn4.size
      refine store_ptr Tt_ok (e := ty34) rfl hn4.At rfl rfl rfl (by simp [cellsL, evC, Value.oneCell']) fun w5 h5 ho5 => ?_
      have h5 : At w5 b4 _ (evC e) := h5
      have hm5 := (hm3.ext hn4.ext).only ho5 (by omega)
      have hx5 := ho5.ext (hx3.trans hn4.ext) (by have := hx3.size; omega)
      have s5 := ho5.size
      (conv => whnf)
      repeat (first | (refine ⟨_, h5.one rfl, ?_⟩; (conv => whnf)) | (refine ⟨_, And.symm ⟨h5.all, rfl⟩, ?_⟩; (conv => whnf)) | (refine ⟨_, fun _ => h5.one rfl, ?_⟩; (conv => whnf)) | (refine ⟨_, fun _ => And.symm ⟨h5.all, rfl⟩, ?_⟩; (conv => whnf)) | (refine ⟨_, fun _ _ => h5.one rfl, ?_⟩; (conv => whnf)) | (refine ⟨_, fun _ _ => And.symm ⟨h5.all, rfl⟩, ?_⟩; (conv => whnf)))
      intro b6 w6 hn6; (conv => whnf)
      have e6 := hn6.block
      have s6 := hn6.size
      refine store_ptr Tt_ok (e := ty40) rfl hn6.At rfl rfl rfl (by simp [cellsL, Value.oneCell']) fun w7 h7 ho7 => ?_
      have h7 : At w7 b6 _ (idsC (idE e)) := h7
      have hm7 := (hm5.ext hn6.ext).only ho7 (by omega)
      have hx7 := ho7.ext (hx5.trans hn6.ext) (by have := hx5.size; omega)
      have h57 := ho7.at_ (h5.ext hn6.ext) (by omega)
      have s7 := ho7.size
      (conv => whnf)
      refine ⟨idsC (idE e), ⟨rfl, h7.all⟩, ?_⟩; (conv => whnf)
      refine ⟨_, hlk w7 hm7, ?_⟩; (conv => whnf)
      intro b8 w8 hn8; (conv => whnf)
      have e8 := hn8.block
      have s8 := hn8.size
      refine store_ptr Tt_ok (e := ty34) rfl hn8.At rfl rfl rfl (by simp [cellsL, evV, evC, Value.oneCell']) fun w9 h9 ho9 => ?_
      have h9 : At w9 b8 _ (evC old) := h9
      have hm9 := (hm7.ext hn8.ext).only ho9 (by omega)
      have hx9 := ho9.ext (hx7.trans hn8.ext) (by have := hx7.size; omega)
      have h59 := ho9.at_ (h57.ext hn8.ext) (by omega)
      have h79 := ho9.at_ (h7.ext hn8.ext) (by omega)
      (conv => whnf)
      refine ⟨evC e, fun _ => ⟨rfl, h59.all⟩, ?_⟩; (conv => whnf)
      refine ⟨evC old, fun _ => ⟨rfl, h9.all⟩, ?_⟩; (conv => whnf)
      refine ⟨Unit, fun _ => (.bool (betterB e old)), fun _ w' => Ext w9 w', (), fun hg => ((before_spec e old w9 (hg0.ext hx9) hme (hmold hg) hfe (may_fok (hmold hg) (Nat.lt_trans (may_text (hmold hg)) (by decide))))).mono fun r w' h => ⟨(), h.1, h.2⟩, ?_⟩
      intro _ w10 h2
      have hx10 : Ext w9 w10 := by
        rcases h2 with ⟨_, h⟩ | ⟨_, h⟩
        · exact h
        · rw [h]; exact Ext.refl _
      clear h2
      (conv => whnf)
      have hm10 := hm9.ext hx10
      constructor
      · intro hc3
        have hc3 : (!hit || betterB e old) = true := hc3
        (conv => whnf)
        refine ⟨idsC (idE e), ⟨rfl, (h79.ext hx10).all⟩, ?_⟩; (conv => whnf)
        refine ⟨evC e, ⟨rfl, (h59.ext hx10).all⟩, ?_⟩; (conv => whnf)
        refine map_update undLeast ids_key hm10 (idE e) _ fun w11 hm11 ho11 => ?_
        (conv => whnf)
        have hm11 : MapAt w11 b1 idsV (aset (leastL out) (idE e) (evV e)) := hm11
        have hL : aset (leastL out) (idE e) (evV e) = leastL (onceL (F ++ l.take (j + 1))) := by
          cases hh : hit
          · exact hstep.1 (hnone hh)
          · rw [hh] at hc3
            exact hstep.2.1 old (hold hh) (by simpa using hc3)
        rw [hL] at hm11
        refine ⟨((j + 1 : Nat) : Int), wrap_succ (by omega), ?_⟩; (conv => whnf)
        exact ⟨j + 1, by omega, ⟨by omega, ho11.ext (hx9.trans hx10) (by omega), hm11⟩, ⟨rfl, rfl, rfl, rfl, rfl, rfl, rfl, trivial⟩⟩
      · intro hc3
        have hc3 : (!hit || betterB e old) = false := hc3
        (conv => whnf)
        have hL : leastL out = leastL (onceL (F ++ l.take (j + 1))) := by
          cases hh : hit
          · rw [hh] at hc3; simp at hc3
          · rw [hh] at hc3
            exact hstep.2.2 old (hold hh) (by simpa using hc3)
        rw [hL] at hm10
        refine ⟨((j + 1 : Nat) : Int), wrap_succ (by omega), ?_⟩; (conv => whnf)
        exact ⟨j + 1, by omega, ⟨by omega, hx9.trans hx10, hm10⟩, ⟨rfl, rfl, rfl, rfl, rfl, rfl, rfl, trivial⟩⟩
    · intro hc2
      have hc2 : l.length ≤ j := by simpa using hc2
      rw [List.take_of_length_le hc2] at hm3
      (conv => whnf)
      refine ⟨((k + 1 : Nat) : Int), wrap_succ (by omega), ?_⟩; (conv => whnf)
      exact ⟨k + 1, by omega, ⟨by omega, hx3, by rw [hfl]; exact hm3⟩, ⟨rfl, rfl, rfl, rfl, trivial⟩⟩
  · intro hc
    have hc : ps.length ≤ k := by simpa using hc
    rw [List.take_of_length_le hc] at hm2
    (conv => whnf)
    generalize hou : onceL ps.flatten = out at hm2
    have hol : out.length < 1000000 := by have := once_len ps.flatten; rw [hou] at this; omega
    refine map_range undLeast hm2 fun w3 hi3 hx3 => ?_
    generalize hr : w2.heap.size = r at hi3
    have hrw : w.heap.size ≤ r := by rw [← hr]; exact hx2.size
    (conv => whnf)
    refine loop_rule Tt_ok (fun (i : List Ev × Option Addr × Nat) w' => Ext w w' ∧ Iter w' r b1 idsV (leastL out) (leastL i.1) ∧ Own evC 8 34 w.heap.size w' i.2.1 i.2.2 i.1 ∧ (∀ a, i.2.1 = some a → a.block ≠ r ∧ a.block ≠ b1))
      (fun i => [(51, .pointer (some ⟨r, 0, none⟩)), (11, .slice i.2.1 i.1.length i.2.2)]) (fun i => out.length - i.1.length) ([], none, 0) ⟨hx2.trans hx3, hi3, Own.nil, by simp⟩ ⟨rfl, rfl, trivial⟩ ?_
    rintro ⟨z, A3, c3⟩ w4 ⟨hx4, hi4, hown4, hne4⟩
    simp only at hi4 hown4 hne4
    (conv => whnf)
    refine map_step hi4 (fun hp => ?_) (fun x w5 hin hnew hlt hi5 ho5 hen => ?_)
    · have hp := perm_least hp
      (conv => whnf)
      constructor
      · intro h; cases h
      · intro _; (conv => whnf)
        refine (esort_spec z A3 c3 w4 (hown4.sl evC_len) (by have := hp.length_eq; omega)).mono ?_
        rintro _ w5 ⟨A5, z5, rfl, hp5, hs5, hsl5, hx5⟩
        (conv => whnf)
        exact ⟨A5, z5, rfl, hp5.trans hp, hs5, hsl5, hx4.trans hx5⟩
    · obtain ⟨e, he, rfl⟩ := List.mem_map.1 hin
      have hlt : z.length < out.length := by simpa [leastL] using hlt
      have r5 := hi5.lt
      have b5 := hi5.map.lt
      have hx5 := ho5.ext hx4 hrw
      have hown5 := hown4.keep fun a ha => ho5.block _ (hne4 a ha).1
      (conv => whnf)
      constructor
      · intro _; (conv => whnf)
        refine map_entryRun (hen w5 rfl rfl) ?_
        (conv => whnf)
        intro b6 w6 hn6; (conv => whnf)
        have e6 := hn6.block
        have s6 := hn6.size
        refine store_ptr Tt_ok (e := ty34) rfl hn6.At rfl rfl rfl (by simp [cellsL, evV, evC, Value.oneCell']) fun w7 h7 ho7 => ?_
        have h7 : At w7 b6 _ (evC e) := h7
        have hi7 := (hi5.ext hn6.ext).keep (ho7.block b1 (by omega)) (ho7.block r (by omega))
        have hx7 := ho7.ext (hx5.trans hn6.ext) (by have := hx5.size; omega)
        have hown7 := (hown5.ext hn6.ext).keep fun a ha => ho7.block _ (by have := (hown5.block ha).2; omega)
        (conv => whnf)
        refine ⟨evC e, ⟨rfl, h7.all⟩, ?_⟩; (conv => whnf)
        intro b8 w8 hn8; (conv => whnf)
        have hx8 := hx7.trans hn8.ext
        have hi8 := hi7.ext hn8.ext
        refine append_evs (l := z) (news := [e]) (hown7.ext hn8.ext) (sl_new evC_len hn8) (by simp; omega) hx8.size fun A9 c9 w9 hown9 hg9 hA9 => ?_
        (conv => whnf)
        have hi9 := hi8.keep (hg9.block b1 hi8.map.lt (fun e' => by
          cases A3 with
          | none => simp at e'
          | some a => have := (hne4 a rfl).2; simp at e'; omega)) (hg9.block r hi8.lt (fun e' => by
          cases A3 with
          | none => simp at e'
          | some a => have := (hne4 a rfl).1; simp at e'; omega))
        refine ⟨(z ++ [e], A9, c9), by simp; omega, ⟨ext_grown hx8 hg9 fun k hk => row_ge hown4 k hk, by simpa [leastL] using hi9, hown9, fun a ha => ?_⟩, ⟨rfl, rfl, trivial⟩⟩
        have r8 := hi8.lt
        have m8 := hi8.map.lt
        rcases hA9 with h | h | h
        · exact hne4 a (by rw [← h]; exact ha)
        · have ha : A9 = some a := ha
          rw [ha] at h
          cases A3 with
          | none => simp at h
          | some a3 => have := hne4 a3 rfl; simp at h; rw [h]; exact this
        · have ha : A9 = some a := ha
          rw [ha] at h
          simp at h
          omega
      · intro h; cases h
end Go.Proofs.YtbfjlpoeglcmfaaDoor
