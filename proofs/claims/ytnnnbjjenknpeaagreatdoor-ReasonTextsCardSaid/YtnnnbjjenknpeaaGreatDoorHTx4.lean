import Derived.Test.YtnnnbjjenknpeaaGreatDoorHTx3
import Derived.Test.YtnnnbjjenknpeaaGreatDoorHShelf
import Derived.Shelf.Strings.Builder1
import Derived.WalkKit
/- strings.Builder: copyCheck,WriteString,WriteByte at this program (turned from the kit's worked proofs). -/
set_option linter.unusedVariables false
set_option linter.unusedSimpArgs false
namespace Go.Proofs.YtnnnbjjenknpeaaGreatDoor
open Go.Se Go.RowKit Go.Shelf
theorem Qzn : (Tryz.prog.info? 119).map (·.size) = some 2 := by kernel_rfl
theorem Q5o : liesAt Tryz.prog Tryz.prog.depth 119 (2 / Tryz.prog.cellsOf 119) 0 119 1 = true := by kernel_rfl
set_option maxHeartbeats 1000000 in
set_option maxRecDepth 100000 in
theorem Q23 (b:Nat) (w:World) (h0:w.cell? ⟨b,0,none⟩ = some (.pointer (some ⟨b,0,none⟩))) :
 Calls Tryz.prog 105 #[.pointer (some ⟨b,0,none⟩)] w fun e w' => e = .returned (.tuple #[]) ∧ w' = w := by
 obtain ⟨j,hj,_⟩ := Option.map_eq_some_iff.1 Qzn
 go_enter Tryz.func105,Tryz.ntmps105
 go_wp2
 rw [Lib.run_neq_ptr_same w _ Tryz.underlying116 hj]
 go_wp2
 go_end0
 exact ⟨rfl,rfl⟩
set_option maxHeartbeats 1000000 in
set_option maxRecDepth 100000 in
theorem Qzq (b:Nat) (w:World) (h0:w.cell? ⟨b,0,none⟩ = some (.pointer none)) (hsh:w.shape? b = some (119,2)) (hfz:w.frozen? ⟨b,0,none⟩ = false) :
 Calls Tryz.prog 105 #[.pointer (some ⟨b,0,none⟩)] w fun e w' => e = .returned (.tuple #[]) ∧ w' = w.setCell ⟨b,0,none⟩ (.pointer (some ⟨b,0,none⟩)) := by
 obtain ⟨j,hj,hjs⟩ := Option.map_eq_some_iff.1 Qzn
 go_enter Tryz.func105,Tryz.ntmps105
 go_wp2
 rw [Lib.run_to_unsafe w ⟨b,0,none⟩ Tryz.underlying116 Tryz.underlying225 hj (by rw [hjs]; decide) hsh (Nat.zero_lt_succ 1)]
 simp only [Result.andThen]
 rw [Oper.upon_value]
 go_wp2
 rw [run_callFunc_extern Tryz.func161 (by kernel_rfl) (by kernel_rfl) (by kernel_rfl) (e := Extern.AbiNoEscape.same) (by kernel_rfl)]
 rw [Lib.run_noEscape]
 simp only [Result.andThen]
 rw [Oper.upon_value]
 go_wp2
 rw [Lib.run_from_unsafe w ⟨b,0,none⟩ Tryz.underlying225 Tryz.underlying116 hj hsh Q5o]
 simp only [Result.andThen]
 rw [Oper.upon_value]
 go_wp2
 go_end0
 exact ⟨rfl,rfl⟩
def U8 (w:World) (k:Nat) : Prop := ∃ cur fz,w.heap[k]? = some (.cells cur 5 fz)
def Qws (b:Nat) (w w':World) : Prop := ∀ k,k < w.heap.size → k ≠ b → ¬ U8 w k → w'.heap[k]? = w.heap[k]?
theorem bcc (B b:Nat) (bs:List Value) (w:World) (h:Lib.IsBuilder 119 5 B b bs w) :
 Calls Tryz.prog 105 #[.pointer (some ⟨b,0,none⟩)] w fun e w' => e = .returned (.tuple #[]) ∧ (Lib.BuilderAt 119 5 B b (.pointer (some ⟨b,0,none⟩)) bs w' ∧ Below B w w' ∧ ∀ k,k ≠ b → w'.heap[k]? = w.heap[k]?) := by
 rcases h with h | h
 · refine (Qzq b w h.cell0 h.shape h.frozen0).mono ?_
   rintro e w' ⟨rfl,rfl⟩
   exact ⟨rfl,h.used _,(Below.refl B w).setCell (p := ⟨b,0,none⟩) h.1 _,fun k hk => Below.heap_setCell _ _ _ _ hk⟩
 · refine (Q23 b w h.cell0).mono ?_
   rintro e w' ⟨rfl,rfl⟩
   exact ⟨rfl,h,Below.refl B _,fun _ _ => rfl⟩
theorem Q7t : 119 ≠ 5 := by decide
theorem Qp6 : ∀ args w,(callFunc 105 args).run Tryz.prog w = .ok (.enter 105 args) w := enters_of Tryz.func105 (by kernel_rfl) rfl
set_option maxHeartbeats 2000000 in
set_option maxRecDepth 100000 in
theorem bws (B b:Nat) (bs:List Value) (s:ByteArray) (w:World) (h:Lib.IsBuilder 119 5 B b bs w) (hlen:bs.length + s.size ≤ 140737488355328) (hBw:B ≤ w.heap.size) :
 Calls Tryz.prog 55 #[.pointer (some ⟨b,0,none⟩),.string s] w fun e w' => e = .returned (.tuple #[.int .i64 s.size,.nilIface]) ∧ (Lib.BuilderAt 119 5 B b (.pointer (some ⟨b,0,none⟩)) (bs ++ Lib.strCells s) w' ∧ Below B w w' ∧ Qws b w w') := by
 obtain ⟨i0,hi,hz0,hz1,hz2⟩ := info_parts Tryz.Builder_Extra_169.infoByte
 have e240 := Qp6
 go_enter Tryz.func55,Tryz.ntmps55
 go_wp2_with (go_at_fn 105; refine (bcc B b bs _ h).mono ?_)
 rintro e w1 ⟨rfl,h1,hb1,hk1⟩
 obtain ⟨hB,v,hbk,hown,hne⟩ := h1
 have c0 : w1.cell? ⟨b,0,none⟩ = some (.pointer (some ⟨b,0,none⟩)) := by rw [Lib.cell_of_heap hbk]; rfl
 have c1 : w1.cell? ⟨b,1,none⟩ = some v := by rw [Lib.cell_of_heap hbk]; rfl
 go_wp2_with (at_builtin; refine Lib.wpList_append_own_string _ rfl _ _ 117 9 rfl B 5 i0 Tryz.underlying117 Tryz.underlying9 hi hz0 hz1 hz2 _ _ _ rfl hown s rfl ?c3 ?c4 ?c5 ?_)
 case c3 => unfold maxLen; omega
 case c4 => omega
 case c5 => have := hb1.size; omega
 intro v' w2 hown' hgrow _
 have hlt : b < w1.heap.size := by
  rcases Nat.lt_or_ge b w1.heap.size with h' | h'
  · exact h'
  · simp [Array.getElem?_eq_none h'] at hbk
 have hb2 : w2.heap[b]? = some (.cells #[.pointer (some ⟨b,0,none⟩),v] 119 (0,0)) := by
  rw [hgrow.block b hlt (fun e => hne e.symm)]
  exact hbk
 have d0 : w2.cell? ⟨b,0,none⟩ = some (.pointer (some ⟨b,0,none⟩)) := by rw [Lib.cell_of_heap hb2]; rfl
 have d1 : w2.cell? ⟨b,1,none⟩ = some v := by rw [Lib.cell_of_heap hb2]; rfl
 have f1 : w2.frozen? ⟨b,1,none⟩ = false := Lib.frozen_of_heap hb2 1
 obtain ⟨ao,n',cap,rfl⟩ : ∃ ao n' cap,v' = .slice ao n' cap := by
  rcases hown'.2 with ⟨hv,_⟩ | ⟨g,cap,cur,hv,_⟩
  · exact ⟨_,_,_,hv⟩
  · exact ⟨_,_,_,hv⟩
 have hrow : ∀ k,k ≠ b → ¬ U8 w k → v.ownBlock ≠ some k := fun k hkb hk e => by
  rcases hown.2 with ⟨hv,_⟩ | ⟨g,cap,cur,hv,_,hg,_⟩
  · rw [hv] at e; simp [Value.ownBlock] at e
  · rw [hv] at e
    simp [Value.ownBlock] at e
    subst e
    exact hk ⟨_,_,(hk1 _ hkb).symm.trans hg⟩
 go_wp2
 go_ret2
 refine ⟨rfl,?_,?_,?_⟩
 · exact Lib.BuilderAt.put (T := 119) (e := 5) hB hb2 (bs' := bs ++ Lib.strCells s) (by simpa [Lib.strCells_length] using hown') Q7t
 · exact (hb1.grown hgrow (by have := hb1.size; omega) (fun k hk => (hown.lt k hk).1)).setCell (p := ⟨b,1,none⟩) hB _
 · intro k hk hkb hku
   rw [Below.heap_setCell _ _ _ _ hkb,hgrow.block k (by have := hb1.size; omega) (fun e => hrow k hkb hku e.symm)]
   exact hk1 k hkb
set_option maxHeartbeats 2000000 in
set_option maxRecDepth 100000 in
theorem bwb (B b:Nat) (bs:List Value) (c:Int) (w:World) (h:Lib.IsBuilder 119 5 B b bs w) (hlen:bs.length + 1 ≤ 140737488355328) (hBw:B ≤ w.heap.size) :
 Calls Tryz.prog 56 #[.pointer (some ⟨b,0,none⟩),.int .u8 c] w fun e w' => e = .returned .nilIface ∧ (Lib.BuilderAt 119 5 B b (.pointer (some ⟨b,0,none⟩)) (bs ++ [.int .u8 c]) w' ∧ Below B w w' ∧ Qws b w w') := by
 obtain ⟨i0,hi,hz0,hz1,hz2⟩ := info_parts Tryz.Builder_Extra_169.infoByte
 have e240 := Qp6
 go_enter Tryz.func56,Tryz.ntmps56
 go_wp2_with (go_at_fn 105; refine (bcc B b bs _ h).mono ?_)
 rintro e w1 ⟨rfl,h1,hb1,hk1⟩
 obtain ⟨hB,v,hbk,hown,hne⟩ := h1
 have c0 : w1.cell? ⟨b,0,none⟩ = some (.pointer (some ⟨b,0,none⟩)) := by rw [Lib.cell_of_heap hbk]; rfl
 have c1 : w1.cell? ⟨b,1,none⟩ = some v := by rw [Lib.cell_of_heap hbk]; rfl
 go_wp2_with (at_builtin; refine wpList_append_own _ rfl _ _ 117 rfl B 5 i0 (.int .u8 0) 1 1 Tryz.underlying117 hi hz0 hz1 hz2 rfl (by decide) _ _ _ rfl (hown.alloc _) ⟨w1.heap.size,0,none⟩ 1 1 [.int .u8 c] rfl rfl ?c1 ?c2 ?c3 ?c4 ?c5 ?_)
 case c1 =>
  intro j u hj
  match j,hj with
  | 0,hj => simp at hj; subst hj; simp [Addr.add]
 case c2 => intro u hu; simp at hu; subst hu; rfl
 case c3 => unfold maxLen; omega
 case c4 => omega
 case c5 => have := hb1.size; simp; omega
 intro v' w2 hown' hgrow _
 have hlt : b < w1.heap.size := by
  rcases Nat.lt_or_ge b w1.heap.size with h' | h'
  · exact h'
  · simp [Array.getElem?_eq_none h'] at hbk
 have hb2 : w2.heap[b]? = some (.cells #[.pointer (some ⟨b,0,none⟩),v] 119 (0,0)) := by
  rw [hgrow.block b (by simp; omega) (fun e => hne e.symm),Lib.alloc_old w1 _ b hlt]
  exact hbk
 have d0 : w2.cell? ⟨b,0,none⟩ = some (.pointer (some ⟨b,0,none⟩)) := by rw [Lib.cell_of_heap hb2]; rfl
 have d1 : w2.cell? ⟨b,1,none⟩ = some v := by rw [Lib.cell_of_heap hb2]; rfl
 have f1 : w2.frozen? ⟨b,1,none⟩ = false := Lib.frozen_of_heap hb2 1
 obtain ⟨g,cap,rfl⟩ : ∃ g cap,v' = .slice (some ⟨g,0,none⟩) (bs.length + 1) cap := by
  rcases hown'.2 with ⟨_,h0⟩ | ⟨g,cap,cur,hv,_⟩
  · omega
  · exact ⟨g,cap,hv⟩
 have hrow : ∀ k,k ≠ b → ¬ U8 w k → v.ownBlock ≠ some k := fun k hkb hk e => by
  rcases hown.2 with ⟨hv,_⟩ | ⟨g,cap,cur,hv,_,hg,_⟩
  · rw [hv] at e; simp [Value.ownBlock] at e
  · rw [hv] at e
    simp [Value.ownBlock] at e
    subst e
    exact hk ⟨_,_,(hk1 _ hkb).symm.trans hg⟩
 go_wp2
 go_ret
 refine ⟨rfl,?_,?_,?_⟩
 · exact Lib.BuilderAt.put (T := 119) (e := 5) hB hb2 (bs' := bs ++ [.int .u8 c]) (by simpa using hown') Q7t
 · exact ((hb1.alloc (by have := hb1.size; omega) _).grown hgrow (by have := hb1.size; simp; omega) (fun k hk => (hown.lt k hk).1)).setCell (p := ⟨b,1,none⟩) hB _
 · intro k hk hkb hku
   have hlk : k < w1.heap.size := by have := hb1.size; omega
   rw [Below.heap_setCell _ _ _ _ hkb,hgrow.block k (by simp; omega) (fun e => hrow k hkb hku e.symm),Lib.alloc_old w1 _ k hlk]
   exact hk1 k hkb
end Go.Proofs.YtnnnbjjenknpeaaGreatDoor
