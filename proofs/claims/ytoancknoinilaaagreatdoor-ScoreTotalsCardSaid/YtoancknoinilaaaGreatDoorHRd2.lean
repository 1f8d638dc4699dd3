import Derived.Test.YtoancknoinilaaaGreatDoorHRd1
import Derived.Test.YtoancknoinilaaaGreatDoorHRd3

/- slices.Sorted(maps.Keys(m)) at the map types of the program. -/
set_option linter.unusedVariables false
set_option linter.unusedSimpArgs false
namespace Go.Proofs.YtoancknoinilaaaGreatDoor
open Go.Se Go.RowKit
open Go.Maps Go.Sort Go.Shelf

theorem sortT_nil : sortT [] = [] := by simp [sortT]
theorem sortI_nil : sortI [] = [] := by simp [sortI]
theorem sortsT (m : Nat) : AnyZ.SortsIn Tryz.prog Tryz.sorted223_ren Fence.wide m :=
  ⟨fun blk off cap ss W h1 h2 h3 => callsIn_wide.2 (AnyM.slices_Sort_string Tryz.sort250 blk off cap ss W h1 h2 h3), fun p cap W => callsIn_wide.2 (AnyM.slices_Sort_string_none Tryz.sort250 p cap W)⟩
theorem sortsI (m : Nat) : AnyZI.SortsIn Tryz.prog Tryz.sorted297_ren Fence.wide m :=
  ⟨fun blk off cap ss W h1 h2 h3 => callsIn_wide.2 (AnyM.slices_Sort_int Tryz.sort324 blk off cap ss W h1 h2 h3), fun p cap W => callsIn_wide.2 (AnyM.slices_Sort_int_none Tryz.sort324 p cap W)⟩

/-- maps.Keys[map[string]bool,string,bool] -/
theorem keysB_spec (mb : Option Nat) (w : World) : Cal Tryz.prog 252 [.map mb] w fun r w' => r = .func (.func 289) #[] #[.pointer (some ⟨w.heap.size, 0, none⟩)] ∧ w'.cell? ⟨w.heap.size, 0, none⟩ = some (.map mb) ∧ Ext w w' :=
  keysT_gen Tryz.keys252 ⟨_, Tryz.func252, rfl, rfl⟩ mb w
theorem sortedB_spec {w : World} {Bm b : Nat} {L : List (ByteArray × Value)} (hc : w.cell? ⟨Bm, 0, none⟩ = some (.map (some b))) (hm : MapAt w b Value.string L) (hk : ∀ x ∈ L, x.1.size ≤ 1000000) (hl : L.length ≤ 1000000000) :
    Cal Tryz.prog 223 [.func (.func 289) #[] #[.pointer (some ⟨Bm, 0, none⟩)]] w fun r w' => ∃ A c, r = .slice A (sortT (L.map (·.1))).length c ∧ Own strE 1 9 w.heap.size w' A c (sortT (L.map (·.1))) ∧ Ext w w' := by
  obtain ⟨N, Q, h1, h2, h3⟩ := keysT_seq { Tryz.keys252 with } hc hm hk hl
  exact sortedT_core Tryz.sorted223 sortsT (enters_of Tryz.func250 (by kernel_rfl) rfl) (enters_of Tryz.func289 (by kernel_rfl) rfl) ⟨_, Tryz.func223, rfl, rfl⟩ h2 h1 h3
theorem sortedB_nil {w : World} {Bm : Nat} (hc : w.cell? ⟨Bm, 0, none⟩ = some (.map none)) :
    Cal Tryz.prog 223 [.func (.func 289) #[] #[.pointer (some ⟨Bm, 0, none⟩)]] w fun r w' => ∃ A c, r = .slice A 0 c ∧ Own strE 1 9 w.heap.size w' A c [] ∧ Ext w w' := by
  have := sortedT_core Tryz.sorted223 sortsT (enters_of Tryz.func250 (by kernel_rfl) rfl) (enters_of Tryz.func289 (by kernel_rfl) rfl) ⟨_, Tryz.func223, rfl, rfl⟩ (l := []) (fun ss (h : ss = []) => by rw [h]; exact List.Perm.refl _) (Nat.zero_le _) (AnyZ.keys_gives_nil { Tryz.keys252 with } Fence.wide 2 trivial rfl Bm w (cell_lt hc) hc)
  simp only [sortT_nil, sortI_nil, List.length_nil] at this
  exact this

/-- maps.Keys[map[string]map[int]map[string]bool,string,map[int]map[string]bool] -/
theorem keysP_spec (mb : Option Nat) (w : World) : Cal Tryz.prog 224 [.map mb] w fun r w' => r = .func (.func 259) #[] #[.pointer (some ⟨w.heap.size, 0, none⟩)] ∧ w'.cell? ⟨w.heap.size, 0, none⟩ = some (.map mb) ∧ Ext w w' :=
  keysT_gen Tryz.keys224 ⟨_, Tryz.func224, rfl, rfl⟩ mb w
theorem sortedP_spec {w : World} {Bm b : Nat} {L : List (ByteArray × Value)} (hc : w.cell? ⟨Bm, 0, none⟩ = some (.map (some b))) (hm : MapAt w b Value.string L) (hk : ∀ x ∈ L, x.1.size ≤ 1000000) (hl : L.length ≤ 1000000000) :
    Cal Tryz.prog 223 [.func (.func 259) #[] #[.pointer (some ⟨Bm, 0, none⟩)]] w fun r w' => ∃ A c, r = .slice A (sortT (L.map (·.1))).length c ∧ Own strE 1 9 w.heap.size w' A c (sortT (L.map (·.1))) ∧ Ext w w' := by
  obtain ⟨N, Q, h1, h2, h3⟩ := keysT_seq { Tryz.keys224 with } hc hm hk hl
  exact sortedT_core Tryz.sorted223 sortsT (enters_of Tryz.func250 (by kernel_rfl) rfl) (enters_of Tryz.func259 (by kernel_rfl) rfl) ⟨_, Tryz.func223, rfl, rfl⟩ h2 h1 h3
theorem sortedP_nil {w : World} {Bm : Nat} (hc : w.cell? ⟨Bm, 0, none⟩ = some (.map none)) :
    Cal Tryz.prog 223 [.func (.func 259) #[] #[.pointer (some ⟨Bm, 0, none⟩)]] w fun r w' => ∃ A c, r = .slice A 0 c ∧ Own strE 1 9 w.heap.size w' A c [] ∧ Ext w w' := by
  have := sortedT_core Tryz.sorted223 sortsT (enters_of Tryz.func250 (by kernel_rfl) rfl) (enters_of Tryz.func259 (by kernel_rfl) rfl) ⟨_, Tryz.func223, rfl, rfl⟩ (l := []) (fun ss (h : ss = []) => by rw [h]; exact List.Perm.refl _) (Nat.zero_le _) (AnyZ.keys_gives_nil { Tryz.keys224 with } Fence.wide 2 trivial rfl Bm w (cell_lt hc) hc)
  simp only [sortT_nil, sortI_nil, List.length_nil] at this
  exact this

/-- maps.Keys[map[int]map[string]bool,int,map[string]bool] -/
theorem keysK_spec (mb : Option Nat) (w : World) : Cal Tryz.prog 298 [.map mb] w fun r w' => r = .func (.func 325) #[] #[.pointer (some ⟨w.heap.size, 0, none⟩)] ∧ w'.cell? ⟨w.heap.size, 0, none⟩ = some (.map mb) ∧ Ext w w' :=
  keysI_gen Tryz.keys298 ⟨_, Tryz.func298, rfl, rfl⟩ mb w
theorem sortedK_spec {w : World} {Bm b : Nat} {L : List (Int × Value)} (hc : w.cell? ⟨Bm, 0, none⟩ = some (.map (some b))) (hm : MapAt w b vi L) (hk : ∀ x ∈ L, 0 ≤ x.1 ∧ x.1 ≤ 4611686018427387904) (hl : L.length ≤ 1000000000) :
    Cal Tryz.prog 297 [.func (.func 325) #[] #[.pointer (some ⟨Bm, 0, none⟩)]] w fun r w' => ∃ A c, r = .slice A (sortI (L.map (·.1))).length c ∧ Own intC 1 3 w.heap.size w' A c (sortI (L.map (·.1))) ∧ Ext w w' := by
  obtain ⟨N, Q, h1, h2, h3⟩ := keysI_seq { Tryz.keys298 with } hc hm hk hl
  exact sortedI_core Tryz.sorted297 sortsI (enters_of Tryz.func324 (by kernel_rfl) rfl) (enters_of Tryz.func325 (by kernel_rfl) rfl) ⟨_, Tryz.func297, rfl, rfl⟩ h2 h1 h3
theorem sortedK_nil {w : World} {Bm : Nat} (hc : w.cell? ⟨Bm, 0, none⟩ = some (.map none)) :
    Cal Tryz.prog 297 [.func (.func 325) #[] #[.pointer (some ⟨Bm, 0, none⟩)]] w fun r w' => ∃ A c, r = .slice A 0 c ∧ Own intC 1 3 w.heap.size w' A c [] ∧ Ext w w' := by
  have := sortedI_core Tryz.sorted297 sortsI (enters_of Tryz.func324 (by kernel_rfl) rfl) (enters_of Tryz.func325 (by kernel_rfl) rfl) ⟨_, Tryz.func297, rfl, rfl⟩ (l := []) (fun ss (h : ss = []) => by rw [h]) (Nat.zero_le _) (AnyZI.keys_gives_nil { Tryz.keys298 with } Fence.wide 2 trivial rfl Bm w (cell_lt hc) hc)
  simp only [sortT_nil, sortI_nil, List.length_nil] at this
  exact this
end Go.Proofs.YtoancknoinilaaaGreatDoor
