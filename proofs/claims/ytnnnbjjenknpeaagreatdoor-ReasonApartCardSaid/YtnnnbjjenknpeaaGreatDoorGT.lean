/- Several texts in one: Tx1, Tx2, Tx3, Tx4, Tx5. -/
import Derived.Test.YtnnnbjjenknpeaaGreatDoorGI
import Derived.Test.YtnnnbjjenknpeaaGreatDoorHShelf
import Derived.Shelf.Strings.Builder1
import Derived.WalkKit
set_option linter.unusedVariables false
set_option linter.unusedSimpArgs false
namespace Go.Proofs.YtnnnbjjenknpeaaGreatDoor
open Go.Se Go.RowKit
def rsC (item:ByteArray) (A1:Option Addr) (n1 c1:Nat) (total:Int) (A2:Option Addr) (n2 c2:Nat) (fans:Int) : List Value := [.string item,.slice A1 n1 c1,.int .i64 total,.slice A2 n2 c2,.int .i64 fans]
def Qqb (n:Int) : ByteArray := bytesOf (Lib.itoa n)
theorem Qio {n:Int} (h0:-9223372036854775808 ≤ n) (h1:n ≤ 9223372036854775807) : (Qqb n).size ≤ 21 := by
 have := Lib.itoa_length_le n h0 h1
 unfold Qqb
 rw [Qie]
 exact this
def nameB (k:Int) : ByteArray :=
 if k = 0 then ⟨#[112,111,112,117,108,97,114]⟩ else if k = 1 then ⟨#[116,97,115,116,101]⟩ else if k = 2 then ⟨#[107,105,110]⟩
 else if k = 3 then ⟨#[114,105,115,105,110,103]⟩ else if k = 4 then ⟨#[102,111,108,108,111,119]⟩ else if k = 5 then ⟨#[102,114,101,115,104]⟩ else ⟨#[112,97,114,116]⟩
theorem Qu5 (k:Int) : (nameB k).size ≤ 7 := by
 unfold nameB
 repeat' split
 all_goals decide
def scB : ByteArray := ⟨#[59,32]⟩
def Qzx : ByteArray := ⟨#[59,32,111,119,110,32]⟩
def Q48 : ByteArray := ⟨#[59,32,102,97,110,115,32]⟩
def Qmx (p:Pt) : ByteArray := scB ++ nameB p.1 ++ spB ++ Qqb p.2.1 ++ spB ++ Qqb p.2.2
def Qmi (e:Ev) : ByteArray := Qzx ++ if Xm e = true then Qgk e else ⟨#[]⟩
def headB (item:ByteArray) (tot:Int) : ByteArray := item ++ spB ++ Qqb tot
def Qe2 (Q:List Pt) (s:ByteArray) : ByteArray := Q.foldl (fun s p => s ++ Qmx p) s
def Qzy (O:List Ev) (s:ByteArray) : ByteArray := O.foldl (fun s e => s ++ Qmi e) s
def Q8e (f:Int) (s:ByteArray) : ByteArray := if f = 0 then s else s ++ (Q48 ++ Qqb f)
def Qfq (item:ByteArray) (tot:Int) (Q:List Pt) (O:List Ev) (f:Int) : ByteArray := Q8e f (Qzy O (Qe2 Q (headB item tot)))
theorem Qk7 (Q:List Pt) (p:Pt) (s:ByteArray) : Qe2 (Q ++ [p]) s = Qe2 Q s ++ Qmx p := by unfold Qe2; rw [List.foldl_append]; rfl
theorem Qqc (O:List Ev) (e:Ev) (s:ByteArray) : Qzy (O ++ [e]) s = Qzy O s ++ Qmi e := by unfold Qzy; rw [List.foldl_append]; rfl
def Q7r (p:Pt) : Prop := (-9223372036854775808 ≤ p.2.1 ∧ p.2.1 ≤ 9223372036854775807) ∧ (-9223372036854775808 ≤ p.2.2 ∧ p.2.2 ≤ 9223372036854775807)
theorem Qz8 {p:Pt} (h:Q7r p) : (Qmx p).size ≤ 60 := by
 have h1 := Qio h.1.1 h.1.2
 have h2 := Qio h.2.1 h.2.2
 have h3 := Qu5 p.1
 have h4 : scB.size = 2 := rfl
 have h5 : spB.size = 1 := rfl
 unfold Qmx
 simp only [ByteArray.size_append]
 omega
theorem Qw4 {s:ByteArray} : ∀ Q : List Pt,(∀ p ∈ Q,Q7r p) → (Qe2 Q s).size ≤ s.size + 60 * Q.length := by
 refine Qq (fun _ => by simp [Qe2]) fun Q p ih h => ?_
 have := ih fun x hx => h x (by simp [hx])
 have := Qz8 (h p (by simp))
 rw [Qk7,ByteArray.size_append,List.length_append]
 simp only [List.length_cons,List.length_nil]
 omega
theorem Qpq {e:Ev} (h:e.text.size < 1000000) : (Qmi e).size ≤ 10000006 := by
 have h1 : Qzx.size = 6 := rfl
 unfold Qmi
 rw [ByteArray.size_append]
 split
 · next hm =>
   have := Qpy (Qn1 hm h)
   omega
 · show _ + 0 ≤ _
   omega
theorem Q21 {s:ByteArray} : ∀ O : List Ev,(∀ e ∈ O,e.text.size < 1000000) → (Qzy O s).size ≤ s.size + 10000006 * O.length := by
 refine Qq (fun _ => by simp [Qzy]) fun O e ih h => ?_
 have := ih fun x hx => h x (by simp [hx])
 have := Qpq (h e (by simp))
 rw [Qqc,ByteArray.size_append,List.length_append]
 simp only [List.length_cons,List.length_nil]
 omega
def Qhu : List ByteArray := [⟨#[112,111,112,117,108,97,114]⟩,⟨#[116,97,115,116,101]⟩,⟨#[107,105,110]⟩,⟨#[114,105,115,105,110,103]⟩,⟨#[102,111,108,108,111,119]⟩,⟨#[102,114,101,115,104]⟩]
def Q1w (w:World) : Prop := Xr w ⟨0,0,none⟩ (Qhu.map Value.string)
theorem Q1w.keep {w w':World} (h:Q1w w) (hk:∀ k,k < 10 → w'.heap[k]? = w.heap[k]?) : Q1w w' := fun j v hj => by
 rw [World.cell?_of_block (w := w) (hk _ (by rw [add_block]; decide))]; exact h j v hj
theorem Q1w.ext {w w':World} (h:Q1w w) (hg:Gl w) (hx:Ext w w') : Q1w w' := h.keep fun k hk => hx.block k (Nat.lt_of_lt_of_le hk hg.size)
theorem Q5l {k:Int} (h:0 ≤ k ∧ k < 6) : (Qhu.map Value.string)[k.toNat]? = some (.string (nameB k)) := by
 obtain ⟨n,rfl⟩ : ∃ n : Nat,k = n := ⟨k.toNat,by omega⟩
 have hn : n < 6 := by omega
 rw [Int.toNat_natCast]
 rcases n with _ | _ | _ | _ | _ | _ | n
 all_goals first | rfl | omega
theorem Q2x {k:Int} (h:¬ (0 ≤ k ∧ k < 6)) : nameB k = ⟨#[112,97,114,116]⟩ := by
 unfold nameB
 rw [if_neg (by omega),if_neg (by omega),if_neg (by omega),if_neg (by omega),if_neg (by omega),if_neg (by omega)]
end Go.Proofs.YtnnnbjjenknpeaaGreatDoor
namespace Go.Proofs.YtnnnbjjenknpeaaGreatDoor
open Go.Se Go.RowKit Go.Shelf
theorem Qyi : (Tryz.prog.info? 119).map (·.size) = some 2 := by kernel_rfl
theorem Q4x : liesAt Tryz.prog Tryz.prog.depth 119 (2 / Tryz.prog.cellsOf 119) 0 119 1 = true := by kernel_rfl
set_option maxHeartbeats 1000000 in
set_option maxRecDepth 100000 in
theorem Q12 (b:Nat) (w:World) (h0:w.cell? ⟨b,0,none⟩ = some (.pointer (some ⟨b,0,none⟩))) :
 Calls Tryz.prog 105 #[.pointer (some ⟨b,0,none⟩)] w fun e w' => e = .returned (.tuple #[]) ∧ w' = w := by
 obtain ⟨j,hj,_⟩ := Option.map_eq_some_iff.1 Qyi
 go_enter Tryz.func105,Tryz.ntmps105
 go_wp2
 rw [Lib.run_neq_ptr_same w _ Tryz.underlying116 hj]
 go_wp2
 go_end0
 exact ⟨rfl,rfl⟩
set_option maxHeartbeats 1000000 in
set_option maxRecDepth 100000 in
theorem Qyl (b:Nat) (w:World) (h0:w.cell? ⟨b,0,none⟩ = some (.pointer none)) (hsh:w.shape? b = some (119,2)) (hfz:w.frozen? ⟨b,0,none⟩ = false) :
 Calls Tryz.prog 105 #[.pointer (some ⟨b,0,none⟩)] w fun e w' => e = .returned (.tuple #[]) ∧ w' = w.setCell ⟨b,0,none⟩ (.pointer (some ⟨b,0,none⟩)) := by
 obtain ⟨j,hj,hjs⟩ := Option.map_eq_some_iff.1 Qyi
 go_enter Tryz.func105,Tryz.ntmps105
 go_wp2
 rw [Lib.run_to_unsafe w ⟨b,0,none⟩ Tryz.underlying116 Tryz.underlying225 hj (by rw [hjs]; decide) hsh (Nat.zero_lt_succ 1)]
 simp only [Result.andThen]
 rw [Oper.upon_value]
 go_wp2
 rw [run_callFunc_extern Tryz.func161 (by kernel_rfl) (by kernel_rfl) (by kernel_rfl) (e := Extern.AbiNoEscape.same) (by kernel_rfl)]
 rw [Lib.run_noEscape]
 simp only [Result.andThen]
 rw [Oper.upon_value]
 go_wp2
 rw [Lib.run_from_unsafe w ⟨b,0,none⟩ Tryz.underlying225 Tryz.underlying116 hj hsh Q4x]
 simp only [Result.andThen]
 rw [Oper.upon_value]
 go_wp2
 go_end0
 exact ⟨rfl,rfl⟩
def U8 (w:World) (k:Nat) : Prop := ∃ cur fz,w.heap[k]? = some (.cells cur 5 fz)
def Qvu (b:Nat) (w w':World) : Prop := ∀ k,k < w.heap.size → k ≠ b → ¬ U8 w k → w'.heap[k]? = w.heap[k]?
theorem bcc (B b:Nat) (bs:List Value) (w:World) (h:Lib.IsBuilder 119 5 B b bs w) :
 Calls Tryz.prog 105 #[.pointer (some ⟨b,0,none⟩)] w fun e w' => e = .returned (.tuple #[]) ∧ (Lib.BuilderAt 119 5 B b (.pointer (some ⟨b,0,none⟩)) bs w' ∧ Below B w w' ∧ ∀ k,k ≠ b → w'.heap[k]? = w.heap[k]?) := by
 rcases h with h | h
 · refine (Qyl b w h.cell0 h.shape h.frozen0).mono ?_
   rintro e w' ⟨rfl,rfl⟩
   exact ⟨rfl,h.used _,(Below.refl B w).setCell (p := ⟨b,0,none⟩) h.1 _,fun k hk => Below.heap_setCell _ _ _ _ hk⟩
 · refine (Q12 b w h.cell0).mono ?_
   rintro e w' ⟨rfl,rfl⟩
   exact ⟨rfl,h,Below.refl B _,fun _ _ => rfl⟩
theorem Q6t : 119 ≠ 5 := by decide
theorem Qpc : ∀ args w,(callFunc 105 args).run Tryz.prog w = .ok (.enter 105 args) w := enters_of Tryz.func105 (by kernel_rfl) rfl
set_option maxHeartbeats 2000000 in
set_option maxRecDepth 100000 in
theorem bws (B b:Nat) (bs:List Value) (s:ByteArray) (w:World) (h:Lib.IsBuilder 119 5 B b bs w) (hlen:bs.length + s.size ≤ 140737488355328) (hBw:B ≤ w.heap.size) :
 Calls Tryz.prog 55 #[.pointer (some ⟨b,0,none⟩),.string s] w fun e w' => e = .returned (.tuple #[.int .i64 s.size,.nilIface]) ∧ (Lib.BuilderAt 119 5 B b (.pointer (some ⟨b,0,none⟩)) (bs ++ Lib.strCells s) w' ∧ Below B w w' ∧ Qvu b w w') := by
 obtain ⟨i0,hi,hz0,hz1,hz2⟩ := info_parts Tryz.Builder_Extra_169.infoByte
 have e240 := Qpc
 go_enter Tryz.func55,Tryz.ntmps55
 go_wp2_with (go_at_fn 105; refine (bcc B b bs _ h).mono ?_)
 rintro e w1 ⟨rfl,h1,hb1,hk1⟩
 obtain ⟨hB,v,hbk,hown,hne⟩ := h1
 have c0 : w1.cell? ⟨b,0,none⟩ = some (.pointer (some ⟨b,0,none⟩)) := by rw [Lib.cell_of_heap hbk]; rfl
 have c1 : w1.cell? ⟨b,1,none⟩ = some v := by rw [Lib.cell_of_heap hbk]; rfl
 go_wp2_with (at_builtin; refine Lib.wpList_append_own_string _ rfl _ _ 117 9 rfl B 5 i0 Tryz.underlying117 Tryz.underlying9 hi hz0 hz1 hz2 _ _ _ rfl hown s rfl ?c3 ?c4 ?c5 ?_)
 case c3 => unfold maxLen; omega
 case c4 => omega
 case c5 => have := hb1.size; omega
 intro v' w2 hown' hgrow _
 have hlt : b < w1.heap.size := by
  rcases Nat.lt_or_ge b w1.heap.size with h' | h'
  · exact h'
  · simp [Array.getElem?_eq_none h'] at hbk
 have hb2 : w2.heap[b]? = some (.cells #[.pointer (some ⟨b,0,none⟩),v] 119 (0,0)) := by
  rw [hgrow.block b hlt (fun e => hne e.symm)]
  exact hbk
 have d0 : w2.cell? ⟨b,0,none⟩ = some (.pointer (some ⟨b,0,none⟩)) := by rw [Lib.cell_of_heap hb2]; rfl
 have d1 : w2.cell? ⟨b,1,none⟩ = some v := by rw [Lib.cell_of_heap hb2]; rfl
 have f1 : w2.frozen? ⟨b,1,none⟩ = false := Lib.frozen_of_heap hb2 1
 obtain ⟨ao,n',cap,rfl⟩ : ∃ ao n' cap,v' = .slice ao n' cap := by
  rcases hown'.2 with ⟨hv,_⟩ | ⟨g,cap,cur,hv,_⟩
  · exact ⟨_,_,_,hv⟩
  · exact ⟨_,_,_,hv⟩
 have hrow : ∀ k,k ≠ b → ¬ U8 w k → v.ownBlock ≠ some k := fun k hkb hk e => by
  rcases hown.2 with ⟨hv,_⟩ | ⟨g,cap,cur,hv,_,hg,_⟩
  · rw [hv] at e; simp [Value.ownBlock] at e
  · rw [hv] at e
    simp [Value.ownBlock] at e
    subst e
    exact hk ⟨_,_,(hk1 _ hkb).symm.trans hg⟩
 go_wp2
 go_ret2
 refine ⟨rfl,?_,?_,?_⟩
 · exact Lib.BuilderAt.put (T := 119) (e := 5) hB hb2 (bs' := bs ++ Lib.strCells s) (by simpa [Lib.strCells_length] using hown') Q6t
 · exact (hb1.grown hgrow (by have := hb1.size; omega) (fun k hk => (hown.lt k hk).1)).setCell (p := ⟨b,1,none⟩) hB _
 · intro k hk hkb hku
   rw [Below.heap_setCell _ _ _ _ hkb,hgrow.block k (by have := hb1.size; omega) (fun e => hrow k hkb hku e.symm)]
   exact hk1 k hkb
set_option maxHeartbeats 2000000 in
set_option maxRecDepth 100000 in
theorem bwb (B b:Nat) (bs:List Value) (c:Int) (w:World) (h:Lib.IsBuilder 119 5 B b bs w) (hlen:bs.length + 1 ≤ 140737488355328) (hBw:B ≤ w.heap.size) :
 Calls Tryz.prog 56 #[.pointer (some ⟨b,0,none⟩),.int .u8 c] w fun e w' => e = .returned .nilIface ∧ (Lib.BuilderAt 119 5 B b (.pointer (some ⟨b,0,none⟩)) (bs ++ [.int .u8 c]) w' ∧ Below B w w' ∧ Qvu b w w') := by
 obtain ⟨i0,hi,hz0,hz1,hz2⟩ := info_parts Tryz.Builder_Extra_169.infoByte
 have e240 := Qpc
 go_enter Tryz.func56,Tryz.ntmps56
 go_wp2_with (go_at_fn 105; refine (bcc B b bs _ h).mono ?_)
 rintro e w1 ⟨rfl,h1,hb1,hk1⟩
 obtain ⟨hB,v,hbk,hown,hne⟩ := h1
 have c0 : w1.cell? ⟨b,0,none⟩ = some (.pointer (some ⟨b,0,none⟩)) := by rw [Lib.cell_of_heap hbk]; rfl
 have c1 : w1.cell? ⟨b,1,none⟩ = some v := by rw [Lib.cell_of_heap hbk]; rfl
 go_wp2_with (at_builtin; refine wpList_append_own _ rfl _ _ 117 rfl B 5 i0 (.int .u8 0) 1 1 Tryz.underlying117 hi hz0 hz1 hz2 rfl (by decide) _ _ _ rfl (hown.alloc _) ⟨w1.heap.size,0,none⟩ 1 1 [.int .u8 c] rfl rfl ?c1 ?c2 ?c3 ?c4 ?c5 ?_)
 case c1 =>
  intro j u hj
  match j,hj with
  | 0,hj => simp at hj; subst hj; simp [Addr.add]
 case c2 => intro u hu; simp at hu; subst hu; rfl
 case c3 => unfold maxLen; omega
 case c4 => omega
 case c5 => have := hb1.size; simp; omega
 intro v' w2 hown' hgrow _
 have hlt : b < w1.heap.size := by
  rcases Nat.lt_or_ge b w1.heap.size with h' | h'
  · exact h'
  · simp [Array.getElem?_eq_none h'] at hbk
 have hb2 : w2.heap[b]? = some (.cells #[.pointer (some ⟨b,0,none⟩),v] 119 (0,0)) := by
  rw [hgrow.block b (by simp; omega) (fun e => hne e.symm),Lib.alloc_old w1 _ b hlt]
  exact hbk
 have d0 : w2.cell? ⟨b,0,none⟩ = some (.pointer (some ⟨b,0,none⟩)) := by rw [Lib.cell_of_heap hb2]; rfl
 have d1 : w2.cell? ⟨b,1,none⟩ = some v := by rw [Lib.cell_of_heap hb2]; rfl
 have f1 : w2.frozen? ⟨b,1,none⟩ = false := Lib.frozen_of_heap hb2 1
 obtain ⟨g,cap,rfl⟩ : ∃ g cap,v' = .slice (some ⟨g,0,none⟩) (bs.length + 1) cap := by
  rcases hown'.2 with ⟨_,h0⟩ | ⟨g,cap,cur,hv,_⟩
  · omega
  · exact ⟨g,cap,hv⟩
 have hrow : ∀ k,k ≠ b → ¬ U8 w k → v.ownBlock ≠ some k := fun k hkb hk e => by
  rcases hown.2 with ⟨hv,_⟩ | ⟨g,cap,cur,hv,_,hg,_⟩
  · rw [hv] at e; simp [Value.ownBlock] at e
  · rw [hv] at e
    simp [Value.ownBlock] at e
    subst e
    exact hk ⟨_,_,(hk1 _ hkb).symm.trans hg⟩
 go_wp2
 go_ret
 refine ⟨rfl,?_,?_,?_⟩
 · exact Lib.BuilderAt.put (T := 119) (e := 5) hB hb2 (bs' := bs ++ [.int .u8 c]) (by simpa using hown') Q6t
 · exact ((hb1.alloc (by have := hb1.size; omega) _).grown hgrow (by have := hb1.size; simp; omega) (fun k hk => (hown.lt k hk).1)).setCell (p := ⟨b,1,none⟩) hB _
 · intro k hk hkb hku
   have hlk : k < w1.heap.size := by have := hb1.size; omega
   rw [Below.heap_setCell _ _ _ _ hkb,hgrow.block k (by simp; omega) (fun e => hrow k hkb hku e.symm),Lib.alloc_old w1 _ k hlk]
   exact hk1 k hkb
theorem Qvu.at_ {b:Nat} {w w':World} (h:Qvu b w w') {k t:Nat} {l:List Value} (ha:At w k t l) (hb:k ≠ b) (ht:t ≠ 5) : At w' k t l := by
 have h1 : w.heap[k]? = _ := ha
 refine (h k (lt_of_block h1) hb ?_).trans ha
 rintro ⟨cur,fz,h2⟩
 rw [h1] at h2
 simp at h2
 exact ht h2.2.1
def Bld (w:World) (B b:Nat) (s:ByteArray) : Prop := Lib.IsBuilder 119 5 B b (Lib.strCells s) w ∧ B ≤ w.heap.size
theorem Qsu {w w':World} {base e size:Nat} {v:Value} {n:Nat} {xs:List Value} (h:w.ownsRow base e size v n xs) (hx:Ext w w') : w'.ownsRow base e size v n xs := by
 refine ⟨h.1,?_⟩
 rcases h.2 with h0 | ⟨g,cap,cur,hv,hb,hg,r⟩
 · exact .inl h0
 · exact .inr ⟨g,cap,cur,hv,hb,by rw [hx.block g (lt_of_block hg)]; exact hg,r⟩
theorem Qyk {w w':World} {B b:Nat} {p:Value} {bs:List Value} (h:Lib.BuilderAt 119 5 B b p bs w) (hx:Ext w w') : Lib.BuilderAt 119 5 B b p bs w' := by
 obtain ⟨hB,v,hb,hown,hne⟩ := h
 exact ⟨hB,v,by rw [hx.block b (lt_of_block hb)]; exact hb,Qsu hown hx,hne⟩
theorem Bld.ext {w w':World} {B b:Nat} {s:ByteArray} (h:Bld w B b s) (hx:Ext w w') : Bld w' B b s :=
 ⟨h.1.imp (fun h => Qyk h hx) (fun h => Qyk h hx),Nat.le_trans h.2 hx.size⟩
theorem Q07 (s t:ByteArray) : Lib.strCells s ++ Lib.strCells t = Lib.strCells (s ++ t) := by
 unfold Lib.strCells
 rw [← List.map_append,← Array.toList_append,ByteArray.data_append]
theorem Q08 (s:ByteArray) : (Lib.strCells s).length = s.size := Lib.strCells_length s
theorem Q68 : Qnb Tryz.prog 55 := ⟨_,Tryz.func55,rfl,rfl⟩
theorem Q67 : Qnb Tryz.prog 56 := ⟨_,Tryz.func56,rfl,rfl⟩
theorem Q5n : Qnb Tryz.prog 60 := ⟨_,Tryz.func60,rfl,rfl⟩
theorem Q5o : Qnb Tryz.prog 57 := ⟨_,Tryz.func57,rfl,rfl⟩
theorem Qcf {w1 w:World} {b:Nat} {s:ByteArray} (t:ByteArray) (h:Bld w w1.heap.size b s) (hx:Ext w1 w) (hl:s.size + t.size ≤ 140737488355328) :
 Cal Tryz.prog 55 [.pointer (some ⟨b,0,none⟩),.string t] w fun r w' => r = .tuple #[.int .i64 t.size,.nilIface] ∧ Bld w' w1.heap.size b (s ++ t) ∧ Ext w1 w' ∧ Qvu b w w' := by
 refine Qbc Q68 (bws w1.heap.size b _ t w h.1 (by rw [Q08]; exact hl) h.2) ?_
 rintro w' ⟨h1,h2,h3⟩
 rw [Q07] at h1
 exact ⟨rfl,⟨.inr h1,Nat.le_trans h.2 h2.size⟩,Below.trans hx h2,h3⟩
theorem Qni {w1 w:World} {b:Nat} {s:ByteArray} (h:Bld w w1.heap.size b s) (hx:Ext w1 w) (hl:s.size + 1 ≤ 140737488355328) :
 Cal Tryz.prog 56 [.pointer (some ⟨b,0,none⟩),.int .u8 32] w fun r w' => r = .nilIface ∧ Bld w' w1.heap.size b (s ++ spB) ∧ Ext w1 w' ∧ Qvu b w w' := by
 refine Qbc Q67 (bwb w1.heap.size b _ 32 w h.1 (by rw [Q08]; exact hl) h.2) ?_
 rintro w' ⟨h1,h2,h3⟩
 rw [show [Value.int .u8 32] = Lib.strCells spB from rfl,Q07] at h1
 exact ⟨rfl,⟨.inr h1,Nat.le_trans h.2 h2.size⟩,Below.trans hx h2,h3⟩
theorem Qpg {w1 w:World} {b:Nat} {s:ByteArray} (h:Bld w w1.heap.size b s) (hx:Ext w1 w) :
 Cal Tryz.prog 60 [.pointer (some ⟨b,0,none⟩)] w fun r w' => r = .string s ∧ Ext w1 w' := by
 refine Qbc Q5n (Tryz.Builder_String_any w1.heap.size b s.data.toList w h.1 h.2) ?_
 intro w' h2
 exact ⟨rfl,Below.trans hx h2⟩
theorem Qkl (n:Int) (w:World) (hg:Gl w) (h0:-9223372036854775808 ≤ n) (h1:n ≤ 9223372036854775807) : Cal Tryz.prog 57 [.int .i64 n,.int .i64 10] w fun r w' => r = .string (Qqb n) ∧ Ext w w' := by
 refine Qbc Q5o (Tryz.strconv_FormatInt_10 n h0 h1 w hg.pow10) ?_
 rintro w' ⟨k,os,rfl⟩
 exact ⟨rfl,(Qff w k).trans (Qes _ _)⟩
theorem Qwm (n:Int) (w:World) (hg:Gl w) (h0:-9223372036854775808 ≤ n) (h1:n ≤ 9223372036854775807) : Cal Tryz.prog 59 [.int .i64 n] w fun r w' => r = .string (Qqb n) ∧ Ext w w' := by
 refine Qbc Qzu (Tryz.strconv_Itoa n h0 h1 w hg.pow10) ?_
 rintro w' ⟨k,os,rfl⟩
 exact ⟨rfl,(Qff w k).trans (Qes _ _)⟩
theorem Qlz (e:Ev) (w:World) (hg:Gl w) (ht:e.text.size < 1000000) :
 Cal Tryz.prog 58 [evV e] w fun r w' => r = .string (if Xm e = true then Qgk e else ⟨#[]⟩) ∧ Ext w w' := by
 by_cases hm : Xm e = true
 · rw [if_pos hm]
   exact Qg0 e w hg hm (Qn1 hm ht)
 · rw [if_neg hm]
   have hm : Xm e = false := by simpa using hm
   refine Fi Tryz.func58 rfl _ rfl rfl ?_;conv=>whnf
   intro b w1 hn
   have hb := hn.At
   conv=>whnf
   refine ⟨evC e,⟨rfl,hb.all⟩,?_⟩;conv=>whnf
   refine (Qf7 e w1 (hg.ext hn.ext) (by omega)).mono ?_
   rintro _ w2 ⟨rfl,hx2⟩;conv=>whnf
   rw [hm]
   constructor
   · intro _
     conv=>whnf
     exact ⟨rfl,hn.ext.trans hx2⟩
   · intro h; cases h
set_option maxHeartbeats 4000000 in
theorem Qrc (item:ByteArray) (tot:Int) (A1:Option Addr) (c1:Nat) (Q:List Pt) (A2:Option Addr) (c2:Nat) (O:List Ev) (f:Int) (w:World) (hg:Gl w) (hnm:Q1w w) (h1:Sl ptC 3 w A1 Q) (h2:SlE w A2 O) (hi:item.size ≤ 1000) (hQ:Q.length ≤ 12) (hO:O.length ≤ 1000) (ht:-9223372036854775808 ≤ tot ∧ tot ≤ 9223372036854775807) (hf:-9223372036854775808 ≤ f ∧ f ≤ 9223372036854775807) (hq:∀ p ∈ Q,Q7r p) (ho:∀ e ∈ O,e.text.size < 1000000) :
 Cal Tryz.prog 28 [.agg (rsC item A1 Q.length c1 tot A2 O.length c2 f).toArray] w fun r w' => r = .string (Qfq item tot Q O f) ∧ Ext w w' := by
 have hnt := Qio ht.1 ht.2
 have hnf := Qio hf.1 hf.2
 have hsp : spB.size = 1 := rfl
 have hhd : (headB item tot).size ≤ 1022 := by
  unfold headB
  simp only [ByteArray.size_append]
  omega
 refine Fi Tryz.func28 rfl _ rfl rfl ?_;conv=>whnf
 intro b1 w1 hn1; (conv=>whnf);repeat(refine Sg ?_;(conv=>whnf))
 have hr : At w1 b1 36 (rsC item A1 Q.length c1 tot A2 O.length c2 f) := hn1.At
 have hx1 := hn1.ext
 replace hnm := hnm.ext hg hx1
 replace hg := hg.ext hx1
 replace h1 := h1.ext hx1
 replace h2 := h2.ext hx1
 clear hn1
 intro b w2 hn2; (conv=>whnf);repeat(refine Sg ?_;(conv=>whnf))
 have hbld : Bld w2 w1.heap.size b ⟨#[]⟩ := by
  refine ⟨.inl ⟨by rw [hn2.block]; exact Nat.le_refl _,.slice none 0 0,hn2.At,⟨rfl,.inl ⟨rfl,rfl⟩⟩,by simp [Value.ownBlock]⟩,hn2.ext.size⟩
 have hx := hn2.ext
 clear hn2
 refine ⟨.string item,(hr.ext hx).one rfl,?_⟩; (conv=>whnf);repeat(refine Sg ?_;(conv=>whnf))
 refine (Qcf item hbld hx (by have:(⟨#[]⟩ : ByteArray).size = 0 := rfl; omega)).mono ?_
 rintro _ w3 ⟨rfl,hbld,hx,_⟩; (conv=>whnf);repeat(refine Sg ?_;(conv=>whnf))
 rw [show (⟨#[]⟩ : ByteArray) ++ item = item from ByteArray.empty_append] at hbld
 refine (Qni hbld hx (by omega)).mono ?_
 rintro _ w4 ⟨rfl,hbld,hx,_⟩; (conv=>whnf);repeat(refine Sg ?_;(conv=>whnf))
 refine ⟨.int .i64 tot,(hr.ext hx).one rfl,?_⟩; (conv=>whnf);repeat(refine Sg ?_;(conv=>whnf))
 refine (Qkl tot w4 (hg.ext hx) ht.1 ht.2).mono ?_
 rintro _ w5 ⟨rfl,hx5⟩; (conv=>whnf);repeat(refine Sg ?_;(conv=>whnf))
 replace hbld := hbld.ext hx5
 replace hx := hx.trans hx5
 refine (Qcf (Qqb tot) hbld hx (by rw [ByteArray.size_append]; omega)).mono ?_
 rintro _ w6 ⟨rfl,hbld,hx,_⟩; (conv=>whnf);repeat(refine Sg ?_;(conv=>whnf))
 rw [show item ++ spB ++ Qqb tot = headB item tot from rfl] at hbld
 unfold Qfq
 generalize headB item tot = hd at hhd hbld ⊢
 clear hx5
 refine ⟨.slice A1 Q.length c1,(hr.ext hx).one rfl,?_⟩; (conv=>whnf);repeat(refine Sg ?_;(conv=>whnf))
 refine Qj Qa (fun (k:Nat) w' => k ≤ Q.length ∧ Ext w1 w' ∧ Bld w' w1.heap.size b (Qe2 (Q.take k) hd))
  (fun k => [(1,.pointer (some ⟨b1,0,none⟩)),(3,.pointer (some ⟨b,0,none⟩)),(18,.slice A1 Q.length c1),(19,.int .i64 Q.length),(20,.int .i64 (k:Nat))]) (fun k => Q.length - k) 0 ⟨Nat.zero_le _,hx,hbld⟩ ⟨rfl,rfl,rfl,rfl,rfl,trivial⟩ ?_
 clear hbld hx
 rintro k w7 ⟨hk,hx,hbld⟩
 have hsz := Qw4 (s := hd) (Q.take k) fun x hx => hq x (List.mem_of_mem_take hx)
 rw [List.length_take] at hsz
 conv=>whnf
 constructor
 · intro hlt
   have hlt : k < Q.length := by simpa using hlt
   obtain ⟨a,rfl,hc⟩ := (h1.ext hx).get hlt
   have htk : Qe2 (Q.take (k + 1)) hd = Qe2 (Q.take k) hd ++ Qmx Q[k] := by rw [List.take_succ_eq_append_getElem hlt,Qk7]
   have hpi := hq Q[k] (List.getElem_mem hlt)
   generalize Q[k] = p at hc htk hpi
   generalize Qe2 (Q.take k) hd = s at htk hsz hbld
   have hp1 := Qio hpi.1.1 hpi.1.2
   have hp2 := Qio hpi.2.1 hpi.2.2
   have hp3 := Qu5 p.1
   (conv=>whnf);repeat(refine Sg ?_;(conv=>whnf))
   refine ⟨a,⟨rfl,by omega,by omega⟩,?_⟩; (conv=>whnf);repeat(refine Sg ?_;(conv=>whnf))
   refine ⟨ptC p,⟨rfl,hc⟩,?_⟩; (conv=>whnf);repeat(refine Sg ?_;(conv=>whnf))
   intro b5 w8 hn8; (conv=>whnf);repeat(refine Sg ?_;(conv=>whnf))
   refine Qc Qa (e := ty43) rfl hn8.At rfl rfl rfl (by simp [Qh,ptC,Value.oneCell']) fun w9 h9 ho9 => ?_
   have h9 : At w9 b5 43 (ptC p) := h9
   have hx79 : Ext w7 w9 := ho9.ext hn8.ext (by rw [hn8.block]; exact Nat.le_refl _)
   clear ho9 hn8 hc
   replace hx := hx.trans hx79
   replace hbld := hbld.ext hx79
   clear hx79
   have hb5 : b5 ≠ b := fun e => by
    obtain ⟨h | h,_⟩ := hbld
    · have h9l : w9.heap[b5]? = _ := h9
      obtain ⟨_,v,hb,_⟩ := h
      rw [e,hb] at h9l
      simp at h9l
    · obtain ⟨_,v,hb,_⟩ := h
      have h9l : w9.heap[b5]? = _ := h9
      rw [e,hb] at h9l
      simp at h9l
   conv=>whnf
   refine Q8 Qa (ι := Unit) (fun _ => [(1,.pointer (some ⟨b1,0,none⟩)),(3,.pointer (some ⟨b,0,none⟩)),(5,.pointer (some ⟨b5,0,none⟩)),(6,.string (nameB p.1)),(18,.slice (some a) Q.length c1),(19,.int .i64 Q.length),(20,.int .i64 (k:Nat))]) (fun _ w' => w' = w9) ?_ ?_
   · have hnm9 := hnm.ext hg hx
     (conv=>whnf);repeat(refine Sg ?_;(conv=>whnf))
     refine ⟨.int .i64 p.1,h9.one rfl,?_⟩; (conv=>whnf);repeat(refine Sg ?_;(conv=>whnf))
     refine ⟨.int .i64 p.1,fun _ => h9.one rfl,?_⟩; (conv=>whnf);repeat(refine Sg ?_;(conv=>whnf))
     constructor
     · intro hin
       have hin : 0 ≤ p.1 ∧ p.1 < 6 := by
        have hin : (decide (0 ≤ p.1) && decide (p.1 < 6)) = true := hin
        simpa using hin
       have hcell : w9.cell? ((⟨0,0,none⟩ : Addr).add (p.1.toNat * 1)) = some (.string (nameB p.1)) := by
        rw [Nat.mul_one]
        exact hnm9 _ _ (Q5l hin)
       (conv=>whnf);repeat(refine Sg ?_;(conv=>whnf))
       refine ⟨.int .i64 p.1,h9.one rfl,?_⟩; (conv=>whnf);repeat(refine Sg ?_;(conv=>whnf))
       refine ⟨⟨hin.1,hin.2⟩,?_⟩; (conv=>whnf);repeat(refine Sg ?_;(conv=>whnf))
       refine ⟨.string (nameB p.1),hcell,?_⟩; (conv=>whnf);repeat(refine Sg ?_;(conv=>whnf))
       exact ⟨(),rfl,⟨rfl,rfl,rfl,rfl,rfl,rfl,rfl,trivial⟩⟩
     · intro hin
       have hin : ¬ (0 ≤ p.1 ∧ p.1 < 6) := by
        have hin : (decide (0 ≤ p.1) && decide (p.1 < 6)) = false := hin
        simpa using hin
       rw [Q2x hin]
       (conv=>whnf);repeat(refine Sg ?_;(conv=>whnf))
       exact ⟨(),rfl,⟨rfl,rfl,rfl,rfl,rfl,rfl,rfl,trivial⟩⟩
   rintro _ w10 hw10
   subst hw10
   have hname : Qmx p = scB ++ nameB p.1 ++ spB ++ Qqb p.2.1 ++ spB ++ Qqb p.2.2 := rfl
   generalize nameB p.1 = nm at hname hp3 ⊢
   have hsc : scB.size = 2 := rfl
   have hpu : 43 ≠ 5 := by decide
   (conv=>whnf);repeat(refine Sg ?_;(conv=>whnf))
   refine (Qcf scB hbld hx (by omega)).mono ?_
   rintro _ w11 ⟨rfl,hbld,hx,hk⟩; (conv=>whnf);repeat(refine Sg ?_;(conv=>whnf))
   replace h9 := hk.at_ h9 hb5 hpu
   refine (Qcf nm hbld hx (by rw [ByteArray.size_append]; omega)).mono ?_
   rintro _ w12 ⟨rfl,hbld,hx,hk⟩; (conv=>whnf);repeat(refine Sg ?_;(conv=>whnf))
   replace h9 := hk.at_ h9 hb5 hpu
   refine (Qni hbld hx (by simp only [ByteArray.size_append]; omega)).mono ?_
   rintro _ w13 ⟨rfl,hbld,hx,hk⟩; (conv=>whnf);repeat(refine Sg ?_;(conv=>whnf))
   replace h9 := hk.at_ h9 hb5 hpu
   refine ⟨.int .i64 p.2.1,h9.one rfl,?_⟩; (conv=>whnf);repeat(refine Sg ?_;(conv=>whnf))
   refine (Qkl p.2.1 w13 (hg.ext hx) hpi.1.1 hpi.1.2).mono ?_
   rintro _ w14 ⟨rfl,hx14⟩; (conv=>whnf);repeat(refine Sg ?_;(conv=>whnf))
   replace hbld := hbld.ext hx14
   replace hx := hx.trans hx14
   replace h9 := h9.ext hx14
   refine (Qcf (Qqb p.2.1) hbld hx (by simp only [ByteArray.size_append]; omega)).mono ?_
   rintro _ w15 ⟨rfl,hbld,hx,hk⟩; (conv=>whnf);repeat(refine Sg ?_;(conv=>whnf))
   replace h9 := hk.at_ h9 hb5 hpu
   refine (Qni hbld hx (by simp only [ByteArray.size_append]; omega)).mono ?_
   rintro _ w16 ⟨rfl,hbld,hx,hk⟩; (conv=>whnf);repeat(refine Sg ?_;(conv=>whnf))
   replace h9 := hk.at_ h9 hb5 hpu
   refine ⟨.int .i64 p.2.2,h9.one rfl,?_⟩; (conv=>whnf);repeat(refine Sg ?_;(conv=>whnf))
   refine (Qkl p.2.2 w16 (hg.ext hx) hpi.2.1 hpi.2.2).mono ?_
   rintro _ w17 ⟨rfl,hx17⟩; (conv=>whnf);repeat(refine Sg ?_;(conv=>whnf))
   replace hbld := hbld.ext hx17
   replace hx := hx.trans hx17
   refine (Qcf (Qqb p.2.2) hbld hx (by simp only [ByteArray.size_append]; omega)).mono ?_
   rintro _ w18 ⟨rfl,hbld,hx,hk⟩; (conv=>whnf);repeat(refine Sg ?_;(conv=>whnf))
   have hfin : s ++ scB ++ nm ++ spB ++ Qqb p.2.1 ++ spB ++ Qqb p.2.2 = Qe2 (Q.take (k + 1)) hd := by
    rw [htk,hname]
    simp only [ByteArray.append_assoc]
   rw [hfin] at hbld
   refine ⟨_,wrap_succ (by omega),?_⟩; (conv=>whnf);repeat(refine Sg ?_;(conv=>whnf))
   exact ⟨k + 1,by omega,⟨by omega,hx,hbld⟩,⟨rfl,rfl,rfl,rfl,rfl,trivial⟩⟩
 · intro hge
   have hge : Q.length ≤ k := by simpa using hge
   rw [List.take_of_length_le hge] at hbld hsz
   generalize Qe2 Q hd = s0 at hsz hbld ⊢
   (conv=>whnf);repeat(refine Sg ?_;(conv=>whnf))
   refine ⟨.slice A2 O.length c2,(hr.ext hx).one rfl,?_⟩; (conv=>whnf);repeat(refine Sg ?_;(conv=>whnf))
   refine Qj Qa (fun (i:Nat) w' => i ≤ O.length ∧ Ext w1 w' ∧ Bld w' w1.heap.size b (Qzy (O.take i) s0))
    (fun i => [(1,.pointer (some ⟨b1,0,none⟩)),(3,.pointer (some ⟨b,0,none⟩)),(51,.slice A2 O.length c2),(52,.int .i64 O.length),(53,.int .i64 (i:Nat))]) (fun i => O.length - i) 0 ⟨Nat.zero_le _,hx,hbld⟩ ⟨rfl,rfl,rfl,rfl,rfl,trivial⟩ ?_
   clear hbld hx
   rintro i w8 ⟨hik,hx,hbld⟩
   have hsz2 := Q21 (s := s0) (O.take i) fun x hx => ho x (List.mem_of_mem_take hx)
   rw [List.length_take] at hsz2
   conv=>whnf
   constructor
   · intro hlt
     have hlt : i < O.length := by simpa using hlt
     obtain ⟨a,rfl,hc⟩ := (h2.ext hx).get hlt
     have htk : Qzy (O.take (i + 1)) s0 = Qzy (O.take i) s0 ++ Qmi O[i] := by rw [List.take_succ_eq_append_getElem hlt,Qqc]
     have hoi := ho O[i] (List.getElem_mem hlt)
     generalize O[i] = e at hc htk hoi
     generalize Qzy (O.take i) s0 = s at htk hsz2 hbld
     have hos : Qzx.size = 6 := rfl
     have hel := Qpq hoi
     (conv=>whnf);repeat(refine Sg ?_;(conv=>whnf))
     refine ⟨a,⟨rfl,by omega,by omega⟩,?_⟩; (conv=>whnf);repeat(refine Sg ?_;(conv=>whnf))
     refine ⟨evC e,⟨rfl,hc⟩,?_⟩; (conv=>whnf);repeat(refine Sg ?_;(conv=>whnf))
     intro b9 w9 hn9; (conv=>whnf);repeat(refine Sg ?_;(conv=>whnf))
     refine Qc Qa (e := ty53) rfl hn9.At rfl rfl rfl (Qdh e) fun w10 h10 ho10 => ?_
     have h10 : At w10 b9 53 (evC e) := h10
     have hx810 : Ext w8 w10 := ho10.ext hn9.ext (by rw [hn9.block]; exact Nat.le_refl _)
     clear ho10 hn9 hc
     replace hx := hx.trans hx810
     replace hbld := hbld.ext hx810
     have hb9 : b9 ≠ b := fun e' => by
      obtain ⟨h | h,_⟩ := hbld
      · obtain ⟨_,v,hb,_⟩ := h
        have h9l : w10.heap[b9]? = _ := h10
        rw [e',hb] at h9l
        simp at h9l
      · obtain ⟨_,v,hb,_⟩ := h
        have h9l : w10.heap[b9]? = _ := h10
        rw [e',hb] at h9l
        simp at h9l
     (conv=>whnf);repeat(refine Sg ?_;(conv=>whnf))
     refine (Qcf Qzx hbld hx (by omega)).mono ?_
     rintro _ w11 ⟨rfl,hbld,hx,hk⟩; (conv=>whnf);repeat(refine Sg ?_;(conv=>whnf))
     replace h10 := hk.at_ h10 hb9 (by decide)
     refine ⟨evC e,⟨rfl,h10.all⟩,?_⟩; (conv=>whnf);repeat(refine Sg ?_;(conv=>whnf))
     refine (Qlz e w11 (hg.ext hx) hoi).mono ?_
     rintro _ w12 ⟨rfl,hx12⟩
     replace hbld := hbld.ext hx12
     replace hx := hx.trans hx12
     have hev : Qmi e = Qzx ++ (if Xm e = true then Qgk e else ⟨#[]⟩) := rfl
     generalize (if Xm e = true then Qgk e else (⟨#[]⟩ : ByteArray)) = fm at hev ⊢
     rw [hev,ByteArray.size_append] at hel
     (conv=>whnf);repeat(refine Sg ?_;(conv=>whnf))
     refine (Qcf fm hbld hx (by rw [ByteArray.size_append]; omega)).mono ?_
     rintro _ w13 ⟨rfl,hbld,hx,hk⟩; (conv=>whnf);repeat(refine Sg ?_;(conv=>whnf))
     rw [ByteArray.append_assoc,← hev,← htk] at hbld
     refine ⟨_,wrap_succ (by omega),?_⟩; (conv=>whnf);repeat(refine Sg ?_;(conv=>whnf))
     exact ⟨i + 1,by omega,⟨by omega,hx,hbld⟩,⟨rfl,rfl,rfl,rfl,rfl,trivial⟩⟩
   · intro hge2
     have hge2 : O.length ≤ i := by simpa using hge2
     rw [List.take_of_length_le hge2] at hbld hsz2
     generalize Qzy O s0 = s at hsz2 hbld ⊢
     have hfs : Q48.size = 7 := rfl
     unfold Q8e
     (conv=>whnf);repeat(refine Sg ?_;(conv=>whnf))
     refine ⟨.int .i64 f,(hr.ext hx).one rfl,?_⟩; (conv=>whnf);repeat(refine Sg ?_;(conv=>whnf))
     constructor
     · intro hne
       have hne : ¬ f = 0 := by simpa using hne
       rw [if_neg hne]
       (conv=>whnf);repeat(refine Sg ?_;(conv=>whnf))
       refine (Qcf Q48 hbld hx (by omega)).mono ?_
       rintro _ w9 ⟨rfl,hbld,hx,_⟩; (conv=>whnf);repeat(refine Sg ?_;(conv=>whnf))
       refine ⟨.int .i64 f,(hr.ext hx).one rfl,?_⟩; (conv=>whnf);repeat(refine Sg ?_;(conv=>whnf))
       refine (Qwm f w9 (hg.ext hx) hf.1 hf.2).mono ?_
       rintro _ w10 ⟨rfl,hx10⟩; (conv=>whnf);repeat(refine Sg ?_;(conv=>whnf))
       replace hbld := hbld.ext hx10
       replace hx := hx.trans hx10
       refine (Qcf (Qqb f) hbld hx (by rw [ByteArray.size_append]; omega)).mono ?_
       rintro _ w11 ⟨rfl,hbld,hx,_⟩; (conv=>whnf);repeat(refine Sg ?_;(conv=>whnf))
       refine (Qpg hbld hx).mono ?_
       rintro _ w12 ⟨rfl,hx⟩; (conv=>whnf);repeat(refine Sg ?_;(conv=>whnf))
       exact ⟨by rw [ByteArray.append_assoc],hx1.trans hx⟩
     · intro hne
       have hne : f = 0 := by simpa using hne
       rw [if_pos hne]
       (conv=>whnf);repeat(refine Sg ?_;(conv=>whnf))
       refine (Qpg hbld hx).mono ?_
       rintro _ w12 ⟨rfl,hx⟩; (conv=>whnf);repeat(refine Sg ?_;(conv=>whnf))
       exact ⟨rfl,hx1.trans hx⟩
end Go.Proofs.YtnnnbjjenknpeaaGreatDoor
