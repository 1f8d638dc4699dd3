import Derived.Test.YtbfjlpoeglcmfaaGreatDoorHSf2

/- price.Falls. -/
set_option linter.unusedVariables false
set_option linter.unusedSimpArgs false
namespace Go.Proofs.YtbfjlpoeglcmfaaGreatDoor
open Go.Se Go.RowKit

def fallOf (z : List Ev) (now : Int) (x : ByteArray × Int) : Option Fa := match priceAt z x.1 x.2, priceAt z x.1 now with
  | some was, some is => if is < was then some ⟨x.1, was, is, x.2⟩ else none
  | _, _ => none
theorem fallOf_if (z : List Ev) (now : Int) (x : ByteArray × Int) : fallOf z now x = if ((priceAt z x.1 x.2).isSome && (priceAt z x.1 now).isSome && decide ((priceAt z x.1 now).getD 0 < (priceAt z x.1 x.2).getD 0)) = true then some ⟨x.1, (priceAt z x.1 x.2).getD 0, (priceAt z x.1 now).getD 0, x.2⟩ else none := by
  unfold fallOf
  cases priceAt z x.1 x.2 <;> cases priceAt z x.1 now <;> simp
/-- All falls, in some order. -/
def fallsS (z : List Ev) (person : ByteArray) (now : Int) : List Fa := if tickB now then (looksM z person now).filterMap (fallOf z now) else []
theorem venc_perm {vs : List (ByteArray × Int)} {L : List (ByteArray × Int)} (h : (venc vi vs).Perm (venc vi L)) : vs.Perm L := by
  have h2 := h.map (fun x : ByteArray × Value => (x.1, match x.2 with | .int _ n => n | _ => 0))
  have e : ∀ l : List (ByteArray × Int), (venc vi l).map (fun x : ByteArray × Value => (x.1, match x.2 with | .int _ n => n | _ => 0)) = l := by
    intro l
    unfold venc vi
    rw [List.map_map]
    conv => rhs; rw [← List.map_id l]
    rfl
  rwa [e, e] at h2
theorem pfalls_spec {w : World} {base p : Nat} {c : Cfg} {z : List Ev} (hW : WV w base p c z) (person : ByteArray) (now : Int) :
    Cal Tryz.prog 33 [.pointer (some ⟨p, 0, none⟩), .string person, .int .i64 now] w fun r w' => ∃ A cap F, r = .slice A F.length cap ∧ F.Perm (fallsS z person now) ∧ Srt ltFa F ∧ Sl faC 4 w' A F ∧ Ext w w' := by
  refine fn_intro Tt_ok Tryz.func33 (by rfl) rfl _ rfl rfl (by rfl) ?_; (conv => whnf)
  refine (ptick_spec now w).mono ?_
  rintro _ w1 ⟨rfl, hx1⟩; (conv => whnf)
  constructor
  · intro hc
    have hc : tickB now = false := by simpa using hc
    (conv => whnf)
    exact ⟨none, 0, [], rfl, by unfold fallsS; rw [hc]; simp, Srt.nil, Sl.nil, hx1⟩
  · intro hc
    have hc : tickB now = true := by simpa using hc
    have hS : fallsS z person now = (looksM z person now).filterMap (fallOf z now) := if_pos hc
    rw [hS]
    have hll : (looksM z person now).length < 1000000 := by
      have h1 : ∀ l : List Ev, (lookM l).length ≤ l.length := by
        intro l
        induction l using snoc_ind with
        | h0 => simp [lookM]
        | h1 l a ih =>
          rw [lookM_snoc, List.length_append, List.length_singleton]
          have := congrArg List.length (aset_keys a.item a.at_ (lookM l))
          rw [List.length_map] at this
          rw [this]
          split
          · rw [List.length_map]; omega
          · rw [List.length_append, List.length_map, List.length_singleton]; omega
      have h2 := h1 ((histE z person).filter (lookQ now))
      have h3 := List.length_filter_le (lookQ now) (histE z person)
      have h4 := hist_len z person
      have h5 := hW.len
      unfold looksM
      omega
    (conv => whnf)
    refine (plooks_spec (hW.ext hx1) person now).mono ?_
    rintro _ w2 ⟨b, rfl, hb, hm, hx2⟩; (conv => whnf)
    generalize looksM z person now = L at hm hll ⊢
    have hx := hx1.trans hx2
    refine map_range undSI hm fun w3 hi3 hx3 => ?_
    generalize hr : w2.heap.size = r at hi3
    have hrw : w.heap.size ≤ r := by rw [← hr]; exact hx.size
    have hbr : b < r := by rw [← hr]; exact hm.lt
    replace hx := hx.trans hx3
    have hs3 : r < w3.heap.size := hi3.lt
    clear hm hx1 hx2 hr
    (conv => whnf)
    refine loop_rule Tt_ok (fun (i : List (ByteArray × Int) × Option Addr × Nat × List Fa) w' => Ext w w' ∧ w3.heap.size ≤ w'.heap.size ∧ Iter w' r b Value.string (venc vi L) (venc vi i.1) ∧ i.2.2.2 = i.1.filterMap (fallOf z now) ∧ Own faC 4 64 w3.heap.size w' i.2.1 i.2.2.1 i.2.2.2)
      (fun | (vs, A, d, F) => [(0, .pointer (some ⟨p, 0, none⟩)), (2, .int .i64 now), (21, .pointer (some ⟨r, 0, none⟩)), (7, .slice A F.length d)]) (fun i => L.length - i.1.length) ([], none, 0, []) ⟨hx, Nat.le_refl _, hi3, rfl, Own.nil⟩ ⟨rfl, rfl, rfl, rfl, trivial⟩ ?_
    clear hi3 hx hx3
    rintro ⟨vs, A, d, F⟩ w4 ⟨hx4, hz4, hi4, hF, hown4⟩
    simp only at hi4 hF hown4
    have hFl : F.length ≤ vs.length := by rw [hF]; exact List.length_filterMap_le _ _
    (conv => whnf)
    refine map_step hi4 (fun hp => ?_) (fun x w5 hin hnew hlt hi5 ho5 hen => ?_)
    · have hp := venc_perm hp
      have hpl := hp.length_eq
      (conv => whnf)
      constructor
      · intro h; cases h
      intro _
      (conv => whnf)
      refine (sortFa_spec F A d w3.heap.size w4 hown4 (by omega)).mono ?_
      rintro _ w5 ⟨rfl, F5, hp5, hs5, hsl5, hx5⟩
      (conv => whnf)
      have := hp5.length_eq
      refine ⟨A, d, F5, by rw [this], hp5.trans (by rw [hF]; exact hp.filterMap _), hs5, hsl5, ?_⟩
      exact hx5 w hx4 (by omega)
    · obtain ⟨y, hy, rfl⟩ := List.mem_map.1 hin
      have hlt : vs.length < L.length := by simpa [venc] using hlt
      have hvs : venc vi vs ++ [(y.1, vi y.2)] = venc vi (vs ++ [y]) := by simp [venc]
      rw [hvs] at hi5
      have s5 := ho5.size
      have hx5 := ho5.ext hx4 hrw
      have hown5 := hown4.keep fun a ha => ho5.block _ (fun e => by have := (hown4.block ha).1; omega)
      have hsn : (vs ++ [y]).filterMap (fallOf z now) = F ++ (fallOf z now y).toList := by
        rw [List.filterMap_append, hF]
        cases h : fallOf z now y <;> simp [h]
      rw [fallOf_if] at hsn
      (conv => whnf)
      repeat (refine seq_go Tt_ok ?_; (conv => whnf))
      constructor
      · intro _
        (conv => whnf)
        refine map_entryRun (hen w5 rfl rfl) ?_
        (conv => whnf)
        refine (pas_spec (hW.ext hx5) y.1 y.2).mono ?_
        rintro _ w6 ⟨rfl, hx6⟩
        (conv => whnf)
        refine (pas_spec (hW.ext (hx5.trans hx6)) y.1 now).mono ?_
        rintro _ w7 ⟨rfl, hx7⟩
        have hx57 := hx6.trans hx7
        have z7 := hx57.size
        generalize priceAt z y.1 y.2 = was at hsn ⊢
        generalize priceAt z y.1 now = is at hsn ⊢
        replace hi5 := hi5.ext hx57
        replace hown5 := hown5.ext hx57
        replace hx5 := hx5.trans hx57
        clear hx57 hx6 hx7 hen ho5
        (conv => whnf)
        constructor
        · intro hq
          have hq : (was.isSome && is.isSome && decide (is.getD 0 < was.getD 0)) = true := hq
          rw [if_pos hq] at hsn
          (conv => whnf)
          intro b8 w8 hn8; (conv => whnf)
          obtain ⟨f, hf⟩ : ∃ f, f = Fa.mk y.1 (was.getD 0) (is.getD 0) y.2 := ⟨_, rfl⟩
          have hn8' : New w7 w8 b8 (.cells (faC f).toArray 64) := by rw [hf]; exact hn8
          rw [← hf] at hsn
          refine append_row rowFa (l := F) (news := [f]) rfl (hown5.ext hn8.ext) rfl (rowFa.new1 (x := f) hn8') (by simp; omega) (by have := hn8.size; omega) fun A' c' w9 hown9 hg9 hA9 => ?_
          have s8 := hn8.size
          have s9 := hg9.size
          have hx9 := ext_grown (hx5.trans hn8.ext) hg9 (fun k hk => by have := own_ge hown5 k hk; omega)
          have hi8 := hi5.ext hn8.ext
          have hbl : ∀ k, k < w3.heap.size → w9.heap[k]? = w8.heap[k]? := fun k hk => hg9.block k (by omega) (fun e => by have := own_ge hown5 k e.symm; omega)
          have hi9 := hi8.keep (hbl b (by omega)) (hbl r (by omega))
          have hsn : F ++ [f] = (vs ++ [y]).filterMap (fallOf z now) := hsn.symm
          generalize F ++ [f] = F1 at hown9 hsn ⊢
          (conv => whnf)
          exact ⟨(vs ++ [y], A', c', F1), by simp; omega, ⟨hx9, by omega, hi9, hsn, hown9⟩, ⟨rfl, rfl, rfl, rfl, trivial⟩⟩
        · intro hq
          have hq : ¬ (was.isSome && is.isSome && decide (is.getD 0 < was.getD 0)) = true := by rw [show (was.isSome && is.isSome && decide (is.getD 0 < was.getD 0)) = false from hq]; simp
          rw [if_neg hq] at hsn
          have hsn : F = (vs ++ [y]).filterMap (fallOf z now) := by rw [hsn]; simp
          (conv => whnf)
          exact ⟨(vs ++ [y], A, d, F), by simp; omega, ⟨hx5, by omega, hi5, hsn, hown5⟩, ⟨rfl, rfl, rfl, rfl, trivial⟩⟩
      · intro h; cases h
end Go.Proofs.YtbfjlpoeglcmfaaGreatDoor
