import Derived.Test.YtoancknoinilaaaGreatDoorHKeyL
import Derived.Test.YtoancknoinilaaaGreatDoorGF

/- The keys of a map, sorted: slices.Sorted(maps.Keys(m)). -/
set_option linter.unusedVariables false
set_option linter.unusedSimpArgs false
namespace Go.Proofs.YtoancknoinilaaaGreatDoor
open Go.Se Go.RowKit

/-- Texts, rising. -/
def sortT (l : List ByteArray) : List ByteArray := l.mergeSort fun a b => !bLt b a
theorem leT_trans (a b c : ByteArray) (h1 : (!bLt b a) = true) (h2 : (!bLt c b) = true) : (!bLt c a) = true := by
  rw [Bool.not_eq_true'] at *
  cases h : bLt c a with
  | false => rfl
  | true =>
    cases hab : bLt a b with
    | true => rw [bLt_trans h hab] at h2; cases h2
    | false => rw [bLt_tri hab h1] at h; rw [h] at h2; cases h2
theorem leT_total (a b : ByteArray) : ((!bLt b a) || (!bLt a b)) = true := by
  cases h : bLt b a with
  | false => rfl
  | true => rw [bLt_asymm h]; rfl
theorem sortT_perm (l : List ByteArray) : (sortT l).Perm l := List.mergeSort_perm _ _
theorem sortT_srt (l : List ByteArray) : Srt bLt (sortT l) := by
  have := List.pairwise_mergeSort (le := fun a b => !bLt b a) leT_trans leT_total l
  exact this.imp fun h => by simpa using h
theorem sortT_unique {l z : List ByteArray} (hp : z.Perm l) (hs : Srt bLt z) : z = sortT l :=
  List.Perm.eq_of_pairwise (le := fun a b => bLt b a = false) (fun a b _ _ h1 h2 => bLt_tri h2 h1) hs (sortT_srt l) (hp.trans (sortT_perm l).symm)
theorem sortT_mem {l : List ByteArray} {x : ByteArray} : x ∈ sortT l ↔ x ∈ l := (sortT_perm l).mem_iff
theorem sortT_len (l : List ByteArray) : (sortT l).length = l.length := (sortT_perm l).length_eq
/-- Numbers, rising. -/
def sortI (l : List Int) : List Int := l.mergeSort fun x y => decide (x ≤ y)
theorem sortI_perm (l : List Int) : (sortI l).Perm l := List.mergeSort_perm _ _
theorem sortI_srt (l : List Int) : (sortI l).Pairwise (· ≤ ·) := by
  have := List.pairwise_mergeSort (le := fun x y : Int => decide (x ≤ y)) (fun a b c h1 h2 => by simp at *; omega) (fun a b => by simp; omega) l
  exact this.imp fun h => by simpa using h
theorem sortI_unique {l z : List Int} (hp : z.Perm l) (hs : z.Pairwise (· ≤ ·)) : z = sortI l :=
  List.Perm.eq_of_pairwise (le := (· ≤ ·)) (fun a b _ _ h1 h2 => Int.le_antisymm h1 h2) hs (sortI_srt l) (hp.trans (sortI_perm l).symm)
theorem sortI_mem {l : List Int} {x : Int} : x ∈ sortI l ↔ x ∈ l := (sortI_perm l).mem_iff
theorem sortI_len (l : List Int) : (sortI l).length = l.length := (sortI_perm l).length_eq
section
open Go.Maps Go.Sort Go.Shelf Go.WideElems
open Go.WideMaps (keyOf_string_mk)
open Go.WideShapes (sorted_perm)
/-- My map, as the kit's. -/
theorem keys_own {κ : Type} {enc : κ → Value} {P : Program} {k : TypeId} {w : World} {b : Nat} {L : List (κ × Value)} (hm : MapAt w b enc L) (hinj : ∀ a b, enc a = enc b → a = b) (lit : κ → Lit) (hk : ∀ x ∈ L, keyOf P k (enc x.1) = some (lit x.1)) (hl : L.length ≤ 1000000000) :
    ∃ es : List (Lit × DataW Unit), w.ownsMap P k (fun _ => some (.nil, [])) b L.length (.map es) ∧ es.Perm (L.map fun x => (lit x.1, .nil)) := by
  obtain ⟨E, clock, hE, rfl⟩ := hm
  have hEl : (strip E).length = E.length := by simp [strip]
  have hrd : ∀ x ∈ E, rd (H := Unit) P k (fun _ => some (.nil, [])) (mkE enc x) = some (lit x.1, .nil) := fun x hx =>
    Go.WideElems.rd_mk (P := P) (k := k) (R := fun _ => some (.nil, [])) (val := x.2.1) (born := x.2.2) (yv := (.nil, [])) (hk (x.1, x.2.1) (List.mem_map.2 ⟨x, hx, rfl⟩)) rfl
  refine ⟨_, ⟨_, clock, hE.block, ⟨?_, ⟨?_, ?_, ?_⟩, ?_⟩, ?_, rfl⟩, ?_⟩
  · rw [hEl] at hl; simp only [List.size_toArray, List.length_map]; unfold maxLen; omega
  · intro x hx
    simp only [List.mem_map] at hx
    obtain ⟨y, hy, rfl⟩ := hx
    exact hE.below y hy
  · simp only [List.map_map]
    rw [List.nodup_iff_pairwise_ne, List.pairwise_map]
    exact hE.rising.imp fun h => by simp only [mkE, Function.comp]; omega
  · simp only [List.map_map]
    rw [List.nodup_iff_pairwise_ne, List.pairwise_map]
    exact hE.keys.imp fun h e => h (hinj _ _ e)
  · intro x hx
    simp only [List.mem_map] at hx
    obtain ⟨y, hy, rfl⟩ := hx
    exact ⟨_, hrd y hy⟩
  · rw [hEl]; simp
  · refine (sorted_perm _).trans ?_
    have : (E.map (mkE enc)).toArray.toList.map (rg (H := Unit) P k (fun _ => some (.nil, []))) = (strip E).map fun x => (lit x.1, .nil) := by
      simp only [strip, List.map_map]
      exact List.map_congr_left fun x hx => rg_of (hrd x hx)
    rw [this]
theorem own_of_row {α : Type} {enc : α → List Value} {sz : Nat} {te : TypeId} {base : Nat} {w : World} {v : Value} {l : List α} {n : Nat} {xs : List Value} (h : w.ownsRow base te sz v n xs) (hn : n = l.length) (hx : xs = l.flatMap enc) :
    ∃ A c, v = .slice A l.length c ∧ Own enc sz te base w A c l := by
  subst hn hx
  unfold Own
  rcases h with ⟨h1, ⟨h2, h3⟩ | ⟨g, cap, cur, h2, h3⟩⟩
  · refine ⟨none, 0, by rw [h2, h3], h1, .inl ⟨by rw [h3], h3⟩⟩
  · exact ⟨_, cap, h2, h1, .inr ⟨g, cap, cur, rfl, h3⟩⟩
theorem base_mono {α : Type} {enc : α → List Value} {sz : Nat} {te : TypeId} {b1 b2 : Nat} {w : World} {A : Option Addr} {c : Nat} {l : List α} (h : Own enc sz te b1 w A c l) (hb : b2 ≤ b1) : Own enc sz te b2 w A c l := by
  unfold Own at *
  rcases h with ⟨h1, h2 | ⟨g, cap, cur, h2, h3, h4⟩⟩
  · exact ⟨h1, .inl h2⟩
  · exact ⟨h1, .inr ⟨g, cap, cur, h2, by omega, h4⟩⟩
theorem map_flat {α : Type} (f : α → Value) (l : List α) : l.flatMap (fun x => [f x]) = l.map f := by induction l with | nil => rfl | cons a l ih => simp [ih]

/-- slices.Sorted at a function that hands out texts. -/
theorem sortedT_core {P : Program} {ρ6 : Ren} (S : SlLaysZ.n6 P ρ6) (hsort : ∀ m, AnyZ.SortsIn P ρ6 Fence.wide m) (e9 : ∀ args w, (callFunc (ρ6.f 9) args).run P w = .ok (.enter (ρ6.f 9) args) w) {g : Nat} {lb : Array Value} (eg : ∀ args w, (callFunc g args).run P w = .ok (.enter g args) w)
    (hok : FnOk P (ρ6.f 6)) {w : World} {l : List ByteArray} {N : Nat} {Q : List (List UInt8) → Prop} (hQ : ∀ ss, Q ss → ss.Perm (l.map fun x => x.data.toList)) (hN : N ≤ 1000000000) (hseq : SeqGives Fence.wide 2 P g lb encStr Q N w) :
    Cal P (ρ6.f 6) [.func (.func g) #[] lb] w fun r w' => ∃ A c, r = .slice A (sortT l).length c ∧ Own strE 1 (ρ6.t 26) w.heap.size w' A c (sortT l) ∧ Ext w w' := by
  have hS := AnyZ.sorted_in S Fence.wide 5 trivial trivial trivial trivial rfl (by omega) (hsort _) e9 g lb trivial eg _ N (by unfold maxLen; omega) (by omega) w hseq
  refine ⟨hok, (callsIn_wide.1 hS).mono ?_⟩
  rintro e w' ⟨v, ss, rfl, hp, hrow, _, hb⟩
  have hkeys := hQ ss hp
  have hz : (ss.mergeSort fun x y => decide (x ≤ y)).map (fun x => (⟨x.toArray⟩ : ByteArray)) = sortT l := by
    apply sortT_unique
    · have h1 := (List.mergeSort_perm ss fun x y => decide (x ≤ y)).trans hkeys
      have h2 := h1.map (fun x => (⟨x.toArray⟩ : ByteArray))
      simpa [List.map_map, Function.comp_def] using h2
    · unfold Srt
      rw [List.pairwise_map]
      have := List.pairwise_mergeSort (le := fun x y : List UInt8 => decide (x ≤ y)) (fun a b c h1 h2 => by simp only [decide_eq_true_eq] at *; exact List.le_trans h1 h2) (fun a b => by simp only [Bool.or_eq_true, decide_eq_true_eq]; exact List.le_total a b) ss
      refine this.imp fun {a b} h => ?_
      simp only [decide_eq_true_eq] at h
      unfold bLt
      rw [ByteArray.toList_eq, ByteArray.toList_eq, bytesLess_eq]
      simpa using h
  obtain ⟨A, c, hv, ho⟩ := own_of_row (enc := strE) (l := sortT l) hrow (by rw [← hz]; simp) (by
    rw [← hz, show strE = fun x => [Value.string x] from rfl, map_flat, List.map_map]; rfl)
  exact ⟨v, rfl, A, c, hv, ho, hb⟩
theorem sortedI_core {P : Program} {ρ6 : Ren} (S : SlLaysZI.n6 P ρ6) (hsort : ∀ m, AnyZI.SortsIn P ρ6 Fence.wide m) (e9 : ∀ args w, (callFunc (ρ6.f 9) args).run P w = .ok (.enter (ρ6.f 9) args) w) {g : Nat} {lb : Array Value} (eg : ∀ args w, (callFunc g args).run P w = .ok (.enter g args) w)
    (hok : FnOk P (ρ6.f 6)) {w : World} {l : List Int} {N : Nat} {Q : List Int → Prop} (hQ : ∀ ss, Q ss → ss.Perm l) (hN : N ≤ 1000000000) (hseq : SeqGives Fence.wide 2 P g lb (Value.int .i64) Q N w) :
    Cal P (ρ6.f 6) [.func (.func g) #[] lb] w fun r w' => ∃ A c, r = .slice A (sortI l).length c ∧ Own intC 1 (ρ6.t 26) w.heap.size w' A c (sortI l) ∧ Ext w w' := by
  have hS := AnyZI.sorted_in S Fence.wide 5 trivial trivial trivial trivial rfl (by omega) (hsort _) e9 g lb trivial eg _ N (by unfold maxLen; omega) (by omega) w hseq
  refine ⟨hok, (callsIn_wide.1 hS).mono ?_⟩
  rintro e w' ⟨v, ss, rfl, hp, hrow, _, hb⟩
  have hz : (ss.mergeSort fun x y => decide (x ≤ y)) = sortI l := sortI_unique ((sortI_perm ss).trans (hQ ss hp)) (sortI_srt ss)
  obtain ⟨A, c, hv, ho⟩ := own_of_row (enc := intC) (l := sortI l) hrow (by rw [← hz]; simp) (by
    rw [← hz, show intC = fun x => [Value.int .i64 x] from rfl, map_flat])
  exact ⟨v, rfl, A, c, hv, ho, hb⟩
/-- What maps.Keys hands out, texts: of a map in the heap, and of none. -/
theorem keysT_seq {P : Program} {ρ7 : Ren} (K : SlLaysZ.n10 P ρ7) {w : World} {Bm b : Nat} {L : List (ByteArray × Value)} (hc : w.cell? ⟨Bm, 0, none⟩ = some (.map (some b))) (hm : MapAt w b Value.string L) (hk : ∀ x ∈ L, x.1.size ≤ 1000000) (hl : L.length ≤ 1000000000) :
    ∃ N Q, N ≤ 1000000000 ∧ (∀ ss : List (List UInt8), Q ss → ss.Perm ((L.map (·.1)).map fun x => x.data.toList)) ∧ SeqGives Fence.wide 2 P (ρ7.f 10) #[.pointer (some ⟨Bm, 0, none⟩)] encStr Q N w := by
  obtain ⟨es, hown, hes⟩ := keys_own (P := P) (k := ρ7.t 26) hm (fun a b e => by simpa using e) (fun x => .string x.data.toList) (fun x hx => keyOf_string_mk K.t26 (by have := hk x hx; unfold maxLen; omega)) hl
  have hsz : Maps.size (.map es) = L.length := by
    have := hes.length_eq
    simp at this
    simpa [Maps.size] using this
  refine ⟨_, _, ?_, fun ss hp => ?_, AnyZ.keys_gives K Fence.wide 2 trivial rfl (by omega) Bm b _ _ w (cell_lt hc) hc hown⟩
  · rw [hsz]; exact hl
  · refine hp.trans ?_
    simp only [strKeys]
    refine (hes.map _).trans ?_
    rw [List.map_map, List.map_map]
    exact List.Perm.refl _
theorem keysI_seq {P : Program} {ρ7 : Ren} (K : SlLaysZI.n10 P ρ7) {w : World} {Bm b : Nat} {L : List (Int × Value)} (hc : w.cell? ⟨Bm, 0, none⟩ = some (.map (some b))) (hm : MapAt w b vi L) (hk : ∀ x ∈ L, 0 ≤ x.1 ∧ x.1 ≤ 4611686018427387904) (hl : L.length ≤ 1000000000) :
    ∃ N Q, N ≤ 1000000000 ∧ (∀ ss : List Int, Q ss → ss.Perm (L.map (·.1))) ∧ SeqGives Fence.wide 2 P (ρ7.f 10) #[.pointer (some ⟨Bm, 0, none⟩)] (Value.int .i64) Q N w := by
  obtain ⟨es, hown, hes⟩ := keys_own (P := P) (k := ρ7.t 26) hm (fun a b e => by simpa [vi] using e) (fun x => .int .i64 x) (fun x hx => keyOf_int_mk K.t26 (by
    have := hk x hx
    simp only [Lit.wf, Bool.and_eq_true, decide_eq_true_eq, show IntKind.i64.min = -9223372036854775808 from by decide, show IntKind.i64.max = 9223372036854775807 from by decide]
    omega)) hl
  have hsz : Maps.size (.map es) = L.length := by
    have := hes.length_eq
    simp at this
    simpa [Maps.size] using this
  refine ⟨_, _, ?_, fun ss hp => ?_, AnyZI.keys_gives K Fence.wide 2 trivial rfl (by omega) Bm b _ _ w (cell_lt hc) hc hown⟩
  · rw [hsz]; exact hl
  · refine hp.trans ?_
    simp only [intKeys]
    refine (hes.map _).trans ?_
    rw [List.map_map]
    exact List.Perm.refl _
/-- maps.Keys. -/
theorem new_cell (w : World) (v : Value) (t : TypeId) : (w.alloc (.cells #[v] t)).cell? ⟨w.heap.size, 0, none⟩ = some v := by
  exact cell_one_new w v t 0 v rfl
theorem keysT_gen {P : Program} {ρ7 : Ren} (K : SlLaysZ.n7 P ρ7) (hok : FnOk P (ρ7.f 7)) (mb : Option Nat) (w : World) :
    Cal P (ρ7.f 7) [.map mb] w fun r w' => r = .func (.func (ρ7.f 10)) #[] #[.pointer (some ⟨w.heap.size, 0, none⟩)] ∧ w'.cell? ⟨w.heap.size, 0, none⟩ = some (.map mb) ∧ Ext w w' := by
  refine ⟨hok, (callsIn_wide.1 (AnyZ.keys_in K Fence.wide 5 trivial rfl mb w)).mono ?_⟩
  rintro e w' ⟨rfl, rfl⟩
  exact ⟨_, rfl, rfl, new_cell _ _ _, (Below.refl _ _).alloc (Nat.le_refl _) _⟩
theorem keysI_gen {P : Program} {ρ7 : Ren} (K : SlLaysZI.n7 P ρ7) (hok : FnOk P (ρ7.f 7)) (mb : Option Nat) (w : World) :
    Cal P (ρ7.f 7) [.map mb] w fun r w' => r = .func (.func (ρ7.f 10)) #[] #[.pointer (some ⟨w.heap.size, 0, none⟩)] ∧ w'.cell? ⟨w.heap.size, 0, none⟩ = some (.map mb) ∧ Ext w w' := by
  refine ⟨hok, (callsIn_wide.1 (AnyZI.keys_in K Fence.wide 5 trivial rfl mb w)).mono ?_⟩
  rintro e w' ⟨rfl, rfl⟩
  exact ⟨_, rfl, rfl, new_cell _ _ _, (Below.refl _ _).alloc (Nat.le_refl _) _⟩
end
end Go.Proofs.YtoancknoinilaaaGreatDoor
