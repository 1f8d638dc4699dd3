import Derived.Test.YtbfjlpoeglcmfaaGreatDoorHPr10

/- The document's Falls: the walk. -/
set_option linter.unusedVariables false
set_option linter.unusedSimpArgs false
namespace Go.Proofs.YtbfjlpoeglcmfaaGreatDoor
open Go.Se Go.RowKit

set_option maxHeartbeats 1000000 in
theorem r39Falls_spec {z : List Ev} (hz : ZOk z) (person : ByteArray) (now : Int) (ht : tickB now = true) (A : Option Addr) (c : Nat) (w : World) (hs : SlE w A z) :
    Cal Tryz.prog 35 [.slice A z.length c, .string person, .int .i64 now] w fun r w' => ∃ A' c' F, r = .slice A' F.length c' ∧ F.Perm (fallsS z person now) ∧ Srt ltFa F ∧ Sl faC 4 w' A' F ∧ Ext w w' := by
  have hzl := hz.len
  refine fn_intro Tt_ok Tryz.func35 (by rfl) rfl _ rfl rfl (by rfl) ?_; (conv => whnf)
  intro b1 w1 hn1; (conv => whnf)
  have o1 := rowStr.made (base := w.heap.size) hn1 (Nat.le_refl _)
  refine loop_rule Tt_ok (fun (k : Nat × Option Addr × Nat × List ByteArray) w' => k.1 ≤ z.length ∧ Ext w w' ∧ k.2.2.2.length ≤ k.1 ∧ ItemsOf (z.take k.1) person k.2.2.2 ∧ Sl strE 1 w' k.2.1 k.2.2.2 ∧ k.2.2.2.length ≤ k.2.2.1)
    (fun | (k, B, d, T) => [(0, .slice A z.length c), (1, .string person), (2, .int .i64 now), (7, .slice B T.length d), (8, .int .i64 k)]) (fun k => z.length - k.1) (0, some ⟨b1, 0, none⟩, 0, []) ⟨by simp, hn1.ext, by simp, ⟨List.Pairwise.nil, by simp⟩, o1.sl rowStr.sz, by simp⟩ ⟨rfl, rfl, rfl, rfl, rfl, trivial⟩ ?_
  rintro ⟨k, B, d, T⟩ w2 ⟨hk, hx2, hTl, hT, hsl, hcap⟩
  simp only at hk hT hTl hsl hcap
  (conv => whnf)
  constructor
  · intro hc
    have hc : k < z.length := by simpa using hc
    obtain ⟨a2, rfl, hce⟩ := (hs.ext hx2).get hc
    have htk := take_next z k hc
    generalize z[k] = e at hce htk
    (conv => whnf)
    repeat (refine seq_go Tt_ok ?_; (conv => whnf))
    refine ⟨a2, ⟨rfl, by omega, by omega⟩, ?_⟩; (conv => whnf)
    refine ⟨_, cells_at hce (k := 4) rfl, ?_⟩; (conv => whnf)
    refine ⟨a2, fun _ => ⟨rfl, by omega, by omega⟩, ?_⟩; (conv => whnf)
    refine ⟨_, fun _ => cells_at hce (k := 5) rfl, ?_⟩; (conv => whnf)
    constructor
    · intro hq
      have hq : (decide (e.person = person) && !decide (e.item = ⟨#[]⟩)) = true := hq
      have hq : e.person = person ∧ e.item ≠ ⟨#[]⟩ := by simpa using hq
      (conv => whnf)
      refine ⟨a2, ⟨rfl, by omega, by omega⟩, ?_⟩; (conv => whnf)
      refine ⟨_, cells_at hce (k := 5) rfl, ?_⟩; (conv => whnf)
      refine (rput_spec T e.item B d w2 hsl (by omega) hcap).mono ?_
      rintro _ w3 ⟨A3, c3, rfl, hcap3, hs3, hx3⟩
      have hpl := put_len T e.item
      have hIt : ItemsOf (z.take (k + 1)) person (putL T e.item) := by
        refine ⟨put_rise hT.1, fun x => ?_⟩
        rw [put_mem, hT.2, htk]
        constructor
        · rintro (⟨h1, e', h2, h3⟩ | rfl)
          · exact ⟨h1, e', by simp [h2], h3⟩
          · exact ⟨hq.2, e, by simp, hq.1, rfl⟩
        · rintro ⟨h1, e', h2, h3, h4⟩
          rcases List.mem_append.1 h2 with h2 | h2
          · exact .inl ⟨h1, e', h2, h3, h4⟩
          · simp at h2; subst h2; exact .inr h4.symm
      generalize putL T e.item = T1 at hcap3 hs3 hpl hIt ⊢
      (conv => whnf)
      refine ⟨((k + 1 : Nat) : Int), wrap_succ (by omega), ?_⟩; (conv => whnf)
      exact ⟨(k + 1, A3, c3, T1), by simp only; omega, ⟨by simp only; omega, hx2.trans hx3, by simp only; omega, hIt, hs3, hcap3⟩, ⟨rfl, rfl, rfl, rfl, rfl, trivial⟩⟩
    · intro hq
      have hq : (decide (e.person = person) && !decide (e.item = ⟨#[]⟩)) = false := hq
      have hq : e.person = person → e.item = ⟨#[]⟩ := by
        intro h; simp [h] at hq; exact hq
      (conv => whnf)
      refine ⟨((k + 1 : Nat) : Int), wrap_succ (by omega), ?_⟩; (conv => whnf)
      refine ⟨(k + 1, B, d, T), by simp only; omega, ⟨by simp only; omega, hx2, by simp only; omega, ⟨hT.1, fun x => ?_⟩, hsl, hcap⟩, ⟨rfl, rfl, rfl, rfl, rfl, trivial⟩⟩
      simp only
      rw [hT.2, htk]
      constructor
      · rintro ⟨h1, e', h2, h3⟩
        exact ⟨h1, e', by simp [h2], h3⟩
      · rintro ⟨h1, e', h2, h3, h4⟩
        rcases List.mem_append.1 h2 with h2 | h2
        · exact ⟨h1, e', h2, h3, h4⟩
        · simp at h2; subst h2; exact absurd (h4.symm.trans (hq h3)) h1
  · intro hc
    have hc : z.length ≤ k := by simpa using hc
    rw [List.take_of_length_le hc] at hT
    have hTl : T.length < 900000 := by omega
    clear o1 hn1
    have hperm := falls_alike hz.may ht hT
    (conv => whnf)
    intro b3 w3 hn3; (conv => whnf)
    have o3 := rowFa.made (base := w.heap.size) hn3 hx2.size
    refine loop_rule Tt_ok (fun (i : Nat × Option Addr × Nat × List Fa) w' => i.1 ≤ T.length ∧ Ext w w' ∧ Ext w2 w' ∧ i.2.2.2.Perm ((T.take i.1).filterMap (fallR z person now)) ∧ Srt ltFa i.2.2.2 ∧ Own faC 4 64 w2.heap.size w' i.2.1 i.2.2.1 i.2.2.2)
      (fun | (i, C, g, F) => [(0, .slice A z.length c), (1, .string person), (2, .int .i64 now), (7, .slice B T.length d), (9, .slice C F.length g), (10, .int .i64 i)]) (fun i => T.length - i.1) (0, some ⟨b3, 0, none⟩, 0, []) ⟨by simp, hx2.trans hn3.ext, hn3.ext, by simp, Srt.nil, rowFa.made hn3 (Nat.le_refl _)⟩ ⟨rfl, rfl, rfl, rfl, rfl, rfl, trivial⟩ ?_
    clear o3 hn3
    rintro ⟨i, C, g, F⟩ w4 ⟨hi, hx4, hx24, hp, hsr, hown⟩
    simp only at hi hp hsr hown
    have hFl : F.length ≤ i := by
      rw [hp.length_eq]
      have := List.length_filterMap_le (fallR z person now) (T.take i)
      rw [List.length_take] at this
      omega
    (conv => whnf)
    constructor
    · intro hlt
      have hlt : i < T.length := by simpa using hlt
      obtain ⟨aT, rfl, hcT⟩ := hsl.get hlt
      have htk := take_next T i hlt
      have hrise : ∀ y ∈ T.take i, bLt y T[i] = true := fun y hy => by
        obtain ⟨j, hj, rfl⟩ := List.getElem_of_mem hy
        rw [List.length_take] at hj
        rw [List.getElem_take]
        exact (List.pairwise_iff_getElem.1 hT.1) j i (by omega) hlt (by omega)
      generalize T[i] = x at hcT htk hrise
      have hfl := fallR_if (z := z) (person := person) ht x
      have hsn : (T.take (i + 1)).filterMap (fallR z person now) = (T.take i).filterMap (fallR z person now) ++ (fallR z person now x).toList := by
        rw [htk, List.filterMap_append]
        cases h : fallR z person now x <;> simp [h]
      (conv => whnf)
      repeat (refine seq_go Tt_ok ?_; (conv => whnf))
      refine ⟨aT, ⟨rfl, by omega, by omega⟩, ?_⟩; (conv => whnf)
      refine ⟨.string x, cells_head (hx24.cells hcT), ?_⟩; (conv => whnf)
      refine (r39Then_spec hz person x now A c w4 (hs.ext hx4)).mono ?_
      rintro _ w5 ⟨rfl, hx5⟩; (conv => whnf)
      refine ⟨aT, ⟨rfl, by omega, by omega⟩, ?_⟩; (conv => whnf)
      refine ⟨.string x, cells_head ((hx24.trans hx5).cells hcT), ?_⟩; (conv => whnf)
      refine (r39At_spec hz x now A c w5 (hs.ext (hx4.trans hx5))).mono ?_
      rintro _ w6 ⟨rfl, hx6⟩
      generalize thenAt z person x now = was at hfl ⊢
      generalize priceAt z x now = is at hfl ⊢
      replace hx4 := (hx4.trans hx5).trans hx6
      replace hx24 := (hx24.trans hx5).trans hx6
      replace hown := (hown.ext hx5).ext hx6
      clear hx5 hx6
      (conv => whnf)
      constructor
      · intro hq
        have hq : (!was.isSome || !is.isSome || decide (was.getD 0 ≤ is.getD 0)) = true := hq
        rw [if_pos hq] at hfl
        rw [hfl, Option.toList_none, List.append_nil] at hsn
        (conv => whnf)
        refine ⟨((i + 1 : Nat) : Int), wrap_succ (by omega), ?_⟩; (conv => whnf)
        exact ⟨(i + 1, C, g, F), by simp only; omega, ⟨by simp only; omega, hx4, hx24, by simp only; rw [hsn]; exact hp, hsr, hown⟩, ⟨rfl, rfl, rfl, rfl, rfl, rfl, trivial⟩⟩
      · intro hq
        have hq : ¬ (!was.isSome || !is.isSome || decide (was.getD 0 ≤ is.getD 0)) = true := by rw [show (!was.isSome || !is.isSome || decide (was.getD 0 ≤ is.getD 0)) = false from hq]; simp
        rw [if_neg hq] at hfl
        generalize hwv : was.getD 0 = wv at hfl ⊢
        generalize hiv : is.getD 0 = iv at hfl ⊢
        obtain ⟨f, hf⟩ : ∃ f, f = Fa.mk x wv iv ((lookAt z person x now).getD (-1)) := ⟨_, rfl⟩
        rw [← hf] at hfl
        rw [hfl, Option.toList_some] at hsn
        clear hq
        (conv => whnf)
        have hcx := hx24.cells hcT
        refine sem_cut (ι := Nat) (fun j => [(0, .slice A z.length c), (1, .string person), (2, .int .i64 now), (7, .slice (some aT) T.length d), (9, .slice C F.length g), (10, .int .i64 i), (11, .int .i64 wv), (13, .int .i64 iv), (15, .pointer (some ⟨j, 0, none⟩))])
          (fun j w' => Ext w6 w' ∧ At w' j 64 (faC f)) ?_ ?_
        · refine draw_plan (.mods (fun k => w6.heap.size ≤ k)) (Pl.seq [0, 1, 2, 3, 4, 5, 6, 7, 8, 9, 10, 11, 12] (Pl.two 13 (Pl.seq [14, 15, 16] Pl.done) 15 (Pl.seq [13, 14, 16] Pl.done))) (by intro h; cases h) Tt_ok mixed (by kernel_rfl) ?_; (conv => whnf)
          have ha6 : ¬ (w6.heap.size ≤ (aT.add (i * 1)).block) := by have := cell_lt (cells_head hcx); exact Nat.not_le.2 this
          replace hcx : CellsAt w6.drew (aT.add (i * 1)) (strE x) := hcx
          have hs6 := (hs.ext hx4).ext (Ext.refl w6).drew
          have hx7 := (Ext.refl w6).drew
          generalize w6.drew = w7 at hcx hs6 hx7 ⊢
          refine ⟨aT, ⟨rfl, by omega, by omega⟩, ?_⟩; (conv => whnf)
          refine ⟨.string x, ⟨cells_head hcx, ha6⟩, ?_⟩; (conv => whnf)
          refine ⟨aT, ⟨rfl, by omega, by omega⟩, ?_⟩; (conv => whnf)
          refine ⟨.string x, ⟨cells_head hcx, ha6⟩, ?_⟩; (conv => whnf)
          refine ⟨?_, ?_⟩
          · refine (r39Look_spec hz person x now A c w7 hs6).mono ?_
            rintro _ w8 ⟨rfl, hx8⟩
            refine ⟨Mod.of_ext hx8, ?_⟩; (conv => whnf)
            intro b9 w9 hn9
            have e9 := hn9.block
            refine ⟨Mod.of_ext hn9.ext, ?_⟩; (conv => whnf)
            have q7 := hx7.size
            have q8 := hx8.size
            refine store_ptr Tt_ok (e := ty64) rfl hn9.At rfl rfl rfl (by simp [cellsL, vi, Value.oneCell']) fun w10 h10 ho10 => ?_
            refine ⟨mod_only ho10 (by omega), ?_⟩; (conv => whnf)
            exact ⟨b9, ⟨ho10.ext ((hx7.trans hx8).trans hn9.ext) (by omega), by rw [hf]; exact h10⟩, ⟨rfl, rfl, rfl, rfl, rfl, rfl, rfl, rfl, rfl, trivial⟩⟩
          · intro b9 w9 hn9
            have e9 := hn9.block
            refine ⟨Mod.of_ext hn9.ext, ?_⟩; (conv => whnf)
            refine (r39Look_spec hz person x now A c w9 (hs6.ext hn9.ext)).mono ?_
            rintro _ w8 ⟨rfl, hx8⟩
            refine ⟨Mod.of_ext hx8, ?_⟩; (conv => whnf)
            have q7 := hx7.size
            have q8 := hx8.size
            refine store_ptr Tt_ok (e := ty64) rfl (hn9.At.ext hx8) rfl rfl rfl (by simp [cellsL, vi, Value.oneCell']) fun w10 h10 ho10 => ?_
            refine ⟨mod_only ho10 (by omega), ?_⟩; (conv => whnf)
            exact ⟨b9, ⟨ho10.ext ((hx7.trans hn9.ext).trans hx8) (by omega), by rw [hf]; exact h10⟩, ⟨rfl, rfl, rfl, rfl, rfl, rfl, rfl, rfl, rfl, trivial⟩⟩
        rintro bf w7 ⟨hx7, hbf⟩
        have hdf : IntKind.i64.wrap (wv - iv) = drop64 f := by rw [hf]; rfl
        have hown7 := hown.ext hx7
        have hfit : f.item = x := by rw [hf]
        clear hcx hf hfl
        (conv => whnf)
        refine loop_rule Tt_ok (fun (k : Nat) w' => k ≤ F.length ∧ Ext w7 w' ∧ ∀ v ∈ F.drop k, drop64 v < drop64 f)
          (fun k => [(0, .slice A z.length c), (1, .string person), (2, .int .i64 now), (7, .slice (some aT) T.length d), (9, .slice C F.length g), (10, .int .i64 i), (11, .int .i64 wv), (13, .int .i64 iv), (15, .pointer (some ⟨bf, 0, none⟩)), (16, .int .i64 k)]) (fun k => k) F.length ⟨Nat.le_refl _, Ext.refl _, by simp⟩ ⟨rfl, rfl, rfl, rfl, rfl, rfl, rfl, rfl, rfl, rfl, trivial⟩ ?_
        rintro k w8 ⟨hk, hx8, hall⟩
        (conv => whnf)
        refine draw_rule .same [0, 1, 2, 3, 4, 5, 6, 7, 8, 9, 10, 11, 12, 13, 14, 15, 16, 17, 18, 19, 20] [] Tt_ok mixed (by kernel_rfl) (by first | (intro h; cases h; done) | (intro _; rfl)) ?_; (conv => whnf)
        replace hx8 := hx8.drew
        generalize w8.drew = w9 at hx8 ⊢
        have hown9 := hown7.ext hx8
        obtain ⟨a1, u, hk1⟩ : ∃ a1 u, 0 < k → C = some a1 ∧ F[k - 1]? = some u ∧ CellsAt w9 (a1.add ((k - 1) * 4)) (faC u) := by
          by_cases hh : 0 < k
          · obtain ⟨a1, h1, h2⟩ := (hown9.sl faC_len).get (show k - 1 < F.length by omega)
            exact ⟨a1, F[k - 1], fun _ => ⟨h1, List.getElem?_eq_getElem _, h2⟩⟩
          · exact ⟨⟨0, 0, none⟩, f, fun h => absurd h hh⟩
        have hd : ∀ {p : Nat}, decide ((0 : Int) < (p : Int)) = true → 0 < p := fun h => by simpa using h
        refine ⟨((k - 1 : Nat) : Int), fun hg => wrap_eq (by have := hd hg; omega) ⟨by omega, by omega⟩, ?_⟩; (conv => whnf)
        refine ⟨a1, fun hg => ⟨(hk1 (hd hg)).1, by omega, by have := hd hg; omega⟩, ?_⟩; (conv => whnf)
        refine ⟨vi u.was, fun hg => cells_at (hk1 (hd hg)).2.2 (k := 1) rfl, ?_⟩; (conv => whnf)
        refine ⟨((k - 1 : Nat) : Int), fun hg => wrap_eq (by have := hd hg; omega) ⟨by omega, by omega⟩, ?_⟩; (conv => whnf)
        refine ⟨a1, fun hg => ⟨(hk1 (hd hg)).1, by omega, by have := hd hg; omega⟩, ?_⟩; (conv => whnf)
        refine ⟨vi u.is_, fun hg => cells_at (hk1 (hd hg)).2.2 (k := 2) rfl, ?_⟩; (conv => whnf)
        refine ⟨drop64 u, fun _ => rfl, ?_⟩; (conv => whnf)
        refine ⟨drop64 f, fun _ => hdf.symm, ?_⟩; (conv => whnf)
        constructor
        · intro hcd
          have hcd : (decide ((0 : Int) < (k : Int)) && decide (drop64 u < drop64 f)) = true := hcd
          rw [Bool.and_eq_true] at hcd
          have hkl := hd hcd.1
          have hlu : drop64 u < drop64 f := by simpa using hcd.2
          have hu := (hk1 hkl).2.1
          (conv => whnf)
          refine ⟨((k - 1 : Nat) : Int), wrap_eq (by omega) ⟨by omega, by omega⟩, ?_⟩; (conv => whnf)
          refine ⟨k - 1, by omega, ⟨by omega, hx8, fun v hv => ?_⟩, ⟨rfl, rfl, rfl, rfl, rfl, rfl, rfl, rfl, rfl, rfl, trivial⟩⟩
          rw [List.drop_eq_getElem_cons (show k - 1 < F.length by omega), show k - 1 + 1 = k by omega] at hv
          rcases List.mem_cons.1 hv with rfl | hv
          · rw [List.getElem?_eq_getElem (by omega)] at hu
            have hu := Option.some.inj hu
            rw [hu]; exact hlu
          · exact hall v hv
        · intro hcd
          have hcd : (decide ((0 : Int) < (k : Int)) && decide (drop64 u < drop64 f)) = false := hcd
          have hle : k = 0 ∨ (F[k - 1]? = some u ∧ ¬ drop64 u < drop64 f) := by
            by_cases h0 : k = 0
            · exact .inl h0
            · refine .inr ⟨(hk1 (by omega)).2.1, ?_⟩
              have : decide ((0 : Int) < (k : Int)) = true := by simp; omega
              rw [this] at hcd
              simpa using hcd
          have hnS : Srt ltFa (F.take k ++ f :: F.drop k) := by
            refine srt_insG ltFa_swo hsr (fun v hv => ltFa_iff.2 (.inl (hall v hv))) fun v hv => ?_
            have hvF : v ∈ F := List.mem_of_mem_take hv
            have hvi : bLt v.item x = true := by
              obtain ⟨y, hy, hfy⟩ := List.mem_filterMap.1 (hp.mem_iff.1 hvF)
              rw [fallR_item hfy]; exact hrise y hy
            have hge : ¬ drop64 v < drop64 f := by
              rcases hle with rfl | ⟨hu, hnl⟩
              · simp at hv
              · obtain ⟨j, hj, rfl⟩ := List.getElem_of_mem hv
                rw [List.length_take] at hj
                rw [List.getElem_take]
                have hk1' : k - 1 < F.length := by omega
                rw [List.getElem?_eq_getElem hk1'] at hu
                have hu := Option.some.inj hu
                by_cases hjk : j = k - 1
                · subst hjk; rw [hu]; exact hnl
                · have := (List.pairwise_iff_getElem.1 hsr) j (k - 1) (by omega) hk1' (by omega)
                  rw [hu, ltFa_not] at this
                  omega
            rw [ltFa_not]
            refine ⟨hge, fun _ => ?_⟩
            rw [hfit]
            exact bLt_asymm hvi
          have hnP := perm_insG (e := f) k hp
          rw [← hsn] at hnP
          have hbf9 := hbf.ext hx8
          have hx49 := (hx4.trans hx7).trans hx8
          have hx29 := (hx24.trans hx7).trans hx8
          have hcapF := hown9.le
          have hsk := sl_drop_if (sl_take (hown9.sl faC_len) k) 0 g (by rw [List.length_take]; omega)
          have hsd := sl_drop_if (hown9.sl faC_len) k g hcapF
          rw [List.drop_zero] at hsk
          have hkm : k = (F.take k).length := by rw [List.length_take]; omega
          have hdl : F.length - k = (F.drop k).length := by rw [List.length_drop]
          have htot : (F.take k).length + (F.drop k).length = F.length := by rw [List.length_take, List.length_drop]; omega
          have hCb : ∀ a, C = some a → a.block < w9.heap.size := fun a ha => (hown9.block ha).2
          generalize F.take k = L at hsk hkm htot hnS hnP
          generalize F.drop k = D at hsd hdl htot hnS hnP hall
          clear hle hk1 hcd hown hown7 hx7 hx8 hall hrise hp hsr hsn htk
          (conv => whnf)
          refine sem_cut (ι := Option Addr × Nat) (fun j => [(0, .slice A z.length c), (1, .string person), (2, .int .i64 now), (7, .slice (some aT) T.length d), (9, .slice C F.length g), (10, .int .i64 i), (16, .int .i64 k), (17, .slice j.1 (L ++ [f]).length j.2)])
            (fun j w' => Ext w9 w' ∧ Own faC 4 64 w9.heap.size w' j.1 j.2 (L ++ [f])) ?_ ?_
          · refine draw_plan (.mods (fun k => w9.heap.size ≤ k)) (Pl.seq [1, 2, 3, 5] (Pl.two 0 (Pl.seq [] (Pl.two 4 (Pl.seq [6, 7, 8] Pl.done) 6 (Pl.seq [4, 7, 8] Pl.done))) 6 (Pl.seq [0, 4, 7, 8] Pl.done))) (by intro h; cases h) Tt_ok mixed (by kernel_rfl) ?_; (conv => whnf)
            have hbl : ¬ (w9.heap.size ≤ bf) := Nat.not_le.2 hbf9.lt
            replace hbf9 : At w9.drew bf _ _ := hbf9
            replace hsk := hsk.ext (Ext.refl w9).drew
            have hx10 := (Ext.refl w9).drew
            generalize w9.drew = w10 at hbf9 hsk hx10 ⊢
            refine ⟨⟨by omega, by omega, by omega, by omega⟩, ?_⟩; (conv => whnf)
            refine ⟨faC f, ⟨rfl, hbf9.all, hbl⟩, ?_⟩; (conv => whnf)
            refine ⟨?_, ?_⟩
            · intro b6 w6 hn6
              have o6 := (rowFa).made (base := w9.heap.size) hn6 (hx10).size
              refine ⟨Mod.of_ext hn6.ext, ?_⟩; (conv => whnf)
              refine ⟨?_, ?_⟩
              · refine append_row rowFa (l := []) (news := L) rfl (o6) (hkm) ((hsk).ext hn6.ext) (by simp; omega) (Nat.le_trans (hx10).size hn6.ext.size) fun A7 c7 w7 hown7 hg7 hA7 => ?_
                refine ⟨mod_grown hg7 (own_ge o6), ?_⟩; (conv => whnf)
                intro b8 w8 hn8
                refine ⟨Mod.of_ext hn8.ext, ?_⟩; (conv => whnf)
                refine append_row rowFa (l := L) (news := [f]) rfl (hown7.ext hn8.ext) rfl ((rowFa).new1 hn8) (by simp; omega) (Nat.le_trans (Nat.le_trans (Nat.le_trans (hx10).size hn6.ext.size) hg7.size) hn8.ext.size) fun A9 c9 w9 hown9 hg9 hA9 => ?_
                refine ⟨mod_grown hg9 (own_ge hown7), ?_⟩; (conv => whnf)
                exact ⟨(A9, c9), ⟨ext_grown ((ext_grown ((hx10).trans hn6.ext) hg7 (own_ge o6)).trans hn8.ext) hg9 (own_ge hown7), hown9⟩, ⟨rfl, rfl, rfl, rfl, rfl, rfl, rfl, rfl, trivial⟩⟩
              · intro b8 w8 hn8
                refine ⟨Mod.of_ext hn8.ext, ?_⟩; (conv => whnf)
                refine append_row rowFa (l := []) (news := L) rfl (o6.ext hn8.ext) (hkm) (((hsk).ext hn6.ext).ext hn8.ext) (by simp; omega) (Nat.le_trans (Nat.le_trans (hx10).size hn6.ext.size) hn8.ext.size) fun A7 c7 w7 hown7 hg7 hA7 => ?_
                refine ⟨mod_grown hg7 (own_ge o6), ?_⟩; (conv => whnf)
                have h8 := sl_stay ((rowFa).new1 hn8) (w1 := w7) (fun a' ha' => by
                  obtain rfl : (⟨b8, 0, none⟩ : Addr) = a' := by simpa using ha'
                  exact hg7.block b8 (by rw [hn8.block]; have := hn6.size; have := hn8.size; omega) (fun e' => by
                    have h68 : b8 = b6 := by simpa using e'
                    have := hn6.size
                    have := hn8.size
                    rw [hn6.block, hn8.block] at h68
                    omega))
                refine append_row rowFa (l := L) (news := [f]) rfl (hown7) rfl (h8) (by simp; omega) (Nat.le_trans (Nat.le_trans (Nat.le_trans (hx10).size hn6.ext.size) hn8.ext.size) hg7.size) fun A9 c9 w9 hown9 hg9 hA9 => ?_
                refine ⟨mod_grown hg9 (own_ge hown7), ?_⟩; (conv => whnf)
                exact ⟨(A9, c9), ⟨ext_grown (ext_grown (((hx10).trans hn6.ext).trans hn8.ext) hg7 (own_ge o6)) hg9 (own_ge hown7), hown9⟩, ⟨rfl, rfl, rfl, rfl, rfl, rfl, rfl, rfl, trivial⟩⟩
            · intro b8 w8 hn8
              refine ⟨Mod.of_ext hn8.ext, ?_⟩; (conv => whnf)
              intro b6 w6 hn6
              have o6 := (rowFa).made (base := w9.heap.size) hn6 (Nat.le_trans (hx10).size hn8.ext.size)
              refine ⟨Mod.of_ext hn6.ext, ?_⟩; (conv => whnf)
              refine append_row rowFa (l := []) (news := L) rfl (o6) (hkm) (((hsk).ext hn8.ext).ext hn6.ext) (by simp; omega) (Nat.le_trans (Nat.le_trans (hx10).size hn8.ext.size) hn6.ext.size) fun A7 c7 w7 hown7 hg7 hA7 => ?_
              refine ⟨mod_grown hg7 (own_ge o6), ?_⟩; (conv => whnf)
              have h8 := sl_stay (((rowFa).new1 hn8).ext hn6.ext) (w1 := w7) (fun a' ha' => by
                obtain rfl : (⟨b8, 0, none⟩ : Addr) = a' := by simpa using ha'
                exact hg7.block b8 (by rw [hn8.block]; have := hn6.size; have := hn8.size; omega) (fun e' => by
                  have h68 : b8 = b6 := by simpa using e'
                  have := hn6.size
                  have := hn8.size
                  rw [hn6.block, hn8.block] at h68
                  omega))
              refine append_row rowFa (l := L) (news := [f]) rfl (hown7) rfl (h8) (by simp; omega) (Nat.le_trans (Nat.le_trans (Nat.le_trans (hx10).size hn8.ext.size) hn6.ext.size) hg7.size) fun A9 c9 w9 hown9 hg9 hA9 => ?_
              refine ⟨mod_grown hg9 (own_ge hown7), ?_⟩; (conv => whnf)
              exact ⟨(A9, c9), ⟨ext_grown (ext_grown (((hx10).trans hn8.ext).trans hn6.ext) hg7 (own_ge o6)) hg9 (own_ge hown7), hown9⟩, ⟨rfl, rfl, rfl, rfl, rfl, rfl, rfl, rfl, trivial⟩⟩
          · rintro ⟨A10, c10⟩ w10 ⟨hx10, hown10⟩
            simp only at hown10
            generalize hT1 : L ++ [f] = L1 at hown10
            have hL1 : L1.length = L.length + 1 := by rw [← hT1]; simp
            have z9 := hx10.size
            have z29 := hx29.size
            (conv => whnf)
            refine ⟨⟨by omega, by omega, by omega, by omega⟩, ?_⟩; (conv => whnf)
            refine append_row rowFa (l := L1) (news := D) rfl hown10 hdl (hsd.ext hx10) (by omega) z9 fun A11 c11 w11 hown11 hg11 hA11 => ?_
            have hfin : L ++ f :: D = L1 ++ D := by rw [← hT1]; simp
            rw [hfin] at hnS hnP
            generalize L1 ++ D = F1 at hown11 hnS hnP ⊢
            have hx11 := ext_grown hx10 hg11 (own_ge hown10)
            (conv => whnf)
            refine ⟨((i + 1 : Nat) : Int), wrap_succ (by omega), ?_⟩; (conv => whnf)
            exact ⟨(i + 1, A11, c11, F1), by simp only; omega, ⟨by simp only; omega, hx49.trans hx11, hx29.trans hx11, hnP, hnS, hown11.base (by omega)⟩, ⟨rfl, rfl, rfl, rfl, rfl, rfl, trivial⟩⟩
    · intro hge
      have hge : T.length ≤ i := by simpa using hge
      rw [List.take_of_length_le hge] at hp
      (conv => whnf)
      exact ⟨C, g, F, rfl, hp.trans hperm, hsr, hown.sl faC_len, hx4⟩
end Go.Proofs.YtbfjlpoeglcmfaaGreatDoor
