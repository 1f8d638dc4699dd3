/- Several texts in one: Bg1, Nm1, Dg1, Dg2, Bg2, Bg3, Bg4, Ky1, Bg6. -/
import Derived.Test.YteabekcdcphjpaaGreatDoorGC
import Derived.Test.YteabekcdcphjpaaGreatDoorHShelf
import Derived.Shelf.Strings.Builder1
import Derived.Maps.AppendAt
import Derived.WalkKit
import Derived.Test.YteabekcdcphjpaaGreatDoorGK
import Derived.Test.YteabekcdcphjpaaGreatDoorGM
import Derived.Test.YteabekcdcphjpaaGreatDoorGI
import Derived.Test.YteabekcdcphjpaaGreatDoorGN
import Derived.Test.YteabekcdcphjpaaGreatDoorGH
import Derived.Test.YteabekcdcphjpaaGreatDoorGJ
set_option linter.unusedVariables false
set_option linter.unusedSimpArgs false
namespace Go.Proofs.YteabekcdcphjpaaGreatDoor
open Go.Se Go.RowKit Go.Shelf
theorem Qmo {P:Program} (w:World) (base:Nat) (t u ty e:TypeId) (i:TypeInfo) (ht:P.underlying t = some (.slice e)) (hu:P.underlying u = some .string) (hi:P.info? e = some i) (hz:i.zero = some (.int .u8 0))
 (hsize:i.size = 1) (hby:i.bytes = 1)
 (v:Value) (n:Nat) (xs:List Value) (hown:w.ownsRow base e 1 v n xs) (s:ByteArray)
 (h63:n + s.size ≤ maxLen) (hbytes:n + s.size ≤ 140737488355328) (hbase:base ≤ w.heap.size) :
 ∃ v' w',(Builtin.append_ #[t,u] ty #[v,.string s]).run P w = .ok v' w' ∧ w'.ownsRow base e 1 v' (n + s.size) (xs ++ Lib.strCells s) ∧ w.grownBy w' v.ownBlock ∧
   (v' = .slice none 0 0 ↔ v = .slice none 0 0 ∧ s.size = 0) ∧ (v'.ownBlock = v.ownBlock ∨ v'.ownBlock = some w.heap.size) := by
 obtain ⟨v',w',hr,h1,h2,h3⟩ := Lib.run_append_own_string (P := P) w base t u ty e i ht hu hi hz hsize hby v n xs hown s h63 hbytes hbase
 refine ⟨v',w',hr,h1,h2,h3,?_⟩
 have hsmall : n + s.size ≤ 9223372036854775807 := by simp only [maxLen] at h63; omega
 have hxl : xs.length = n := by simpa using hown.1
 have fin : ∀ {v2:Value} {w2:World},(Builtin.append_ #[t,u] ty #[v,.string s]).run P w = .ok v2 w2 → v2.ownBlock = some w.heap.size → v'.ownBlock = v.ownBlock ∨ v'.ownBlock = some w.heap.size := fun h hv => by
  rw [hr] at h
  injection h with e1 e2
  rw [e1]
  exact .inr hv
 rcases hown.2 with ⟨rfl,rfl⟩ | ⟨g,cap,cur,rfl,hbg,hg,hnc,hcm,hcs,htake⟩
 · by_cases hm : s.size = 0
   · rw [h3.2 ⟨rfl,hm⟩]; exact .inl rfl
   · exact fin (run_append_nil_string (P := P) w t u ty e i (.int .u8 0) ht hu hi hz s (by omega) (by omega) (by rw [hby]; omega)) rfl
 · by_cases hroom : n + s.size ≤ cap
   · have hcs' : cur.size = cap := by simpa using hcs
     have h := Lib.run_append_room_string (P := P) w t u ty e i ht hu hi hsize g n cap cur hg s hroom (by omega)
     rw [hr] at h
     injection h with e1 e2
     rw [e1]
     exact .inl rfl
   · have holds : ∀ j u,xs[j]? = some u → w.cell? ((⟨g,0,none⟩ : Addr).add j) = some u := hown.cells (g := g) rfl
     exact fin (Lib.run_append_grow_string (P := P) w t u ty e i (.int .u8 0) ht hu hi hz ⟨g,0,none⟩ n cap xs (by rw [hsize]; simpa using hxl) holds s (by omega) (by omega) (by rw [hby]; exact growslice_fits (by omega) (by omega))) rfl
theorem Qt0 {P:Program} (w:World) {ops:Array Oper} {rest:List Oper} {o:Oper} {a:Act} {Q:Exit → Act → World → Prop} (hgd:o.guard = none) (sl x:Operand) (t u:TypeId)
 (ho:o.op = .call { callee := .builtin .append,args := #[sl,x],argTypes := #[t,u] })
 (base:Nat) (e:TypeId) (i:TypeInfo) (ht:P.underlying t = some (.slice e)) (hu:P.underlying u = some .string) (hi:P.info? e = some i) (hz:i.zero = some (.int .u8 0))
 (hsize:i.size = 1) (hby:i.bytes = 1)
 (v:Value) (n:Nat) (xs:List Value) (hs:a.eval sl = v) (hown:w.ownsRow base e 1 v n xs) (s:ByteArray) (hx:a.eval x = .string s)
 (h63:n + s.size ≤ maxLen) (hbytes:n + s.size ≤ 140737488355328) (hbase:base ≤ w.heap.size)
 (h:∀ v' w',w'.ownsRow base e 1 v' (n + s.size) (xs ++ Lib.strCells s) → w.grownBy w' v.ownBlock → (v' = .slice none 0 0 ↔ v = .slice none 0 0 ∧ s.size = 0) → (v'.ownBlock = v.ownBlock ∨ v'.ownBlock = some w.heap.size) → wpList P ops Q rest (a.put o.dst v') w') : wpList P ops Q (o :: rest) a w := by
 refine wpList_plain hgd fun K hK => ?_
 obtain ⟨v',w',hr,h2,h3,h4,h5⟩ := Qmo (P := P) w base t u o.type e i ht hu hi hz hsize hby v n xs hown s h63 hbytes hbase
 unfold Oper.wp execOp
 simp only [ho,resolve,invoke,builtin,Sem.run_bind,Sem.run_pure,Result.andThen_ok,List.map_toArray,List.map_cons,List.map_nil,hs,hx,hr]
 exact hK _ _ (h v' w' h2 h3 h4 h5)
def RowOf (w:World) (b:Nat) (g:Option Nat) : Prop := ∀ p v T fz,w.heap[b]? = some (.cells #[p,v] T fz) → v.ownBlock = g
theorem Q3m {w:World} {b:Nat} {p v v':Value} {T:TypeId} {fz:Nat × Nat} (hb:w.heap[b]? = some (.cells #[p,v] T fz)) : RowOf (w.setCell ⟨b,1,none⟩ v') b v'.ownBlock := by
 intro p2 v2 T2 fz2 h
 have h2 : (w.setCell ⟨b,1,none⟩ v').heap[b]? = some (.cells #[p,v'] T fz) := by simp [World.setCell,Array.getElem?_modify,hb]
 rw [h2] at h
 simp at h
 rw [← h.1.2]
theorem Q6h {w:World} {b:Nat} {p v q:Value} {T:TypeId} {fz:Nat × Nat} {g:Option Nat} (hb:w.heap[b]? = some (.cells #[p,v] T fz)) (hg:RowOf w b g) : RowOf (w.setCell ⟨b,0,none⟩ q) b g := by
 intro p2 v2 T2 fz2 h
 have h2 : (w.setCell ⟨b,0,none⟩ q).heap[b]? = some (.cells #[q,v] T fz) := by simp [World.setCell,Array.getElem?_modify,hb]
 rw [h2] at h
 simp at h
 rw [← h.1.2]
 exact hg _ _ _ _ hb
theorem Qwl : (Tryz.prog.info? 74).map (·.size) = some 2 := by kernel_rfl
theorem Q45 : liesAt Tryz.prog Tryz.prog.depth 74 (2 / Tryz.prog.cellsOf 74) 0 74 1 = true := by kernel_rfl
set_option maxHeartbeats 1000000 in
set_option maxRecDepth 100000 in
theorem Q1i (b:Nat) (w:World) (h0:w.cell? ⟨b,0,none⟩ = some (.pointer (some ⟨b,0,none⟩))) :
 Calls Tryz.prog 100 #[.pointer (some ⟨b,0,none⟩)] w fun e w' => e = .returned (.tuple #[]) ∧ w' = w := by
 obtain ⟨j,hj,_⟩ := Option.map_eq_some_iff.1 Qwl
 go_enter Tryz.func100,Tryz.ntmps100
 go_wp2
 rw [Lib.run_neq_ptr_same w _ Tryz.underlying71 hj]
 go_wp2
 go_end0
 exact ⟨rfl,rfl⟩
set_option maxHeartbeats 1000000 in
set_option maxRecDepth 100000 in
theorem Qyk (b:Nat) (w:World) (h0:w.cell? ⟨b,0,none⟩ = some (.pointer none)) (hsh:w.shape? b = some (74,2)) (hfz:w.frozen? ⟨b,0,none⟩ = false) :
 Calls Tryz.prog 100 #[.pointer (some ⟨b,0,none⟩)] w fun e w' => e = .returned (.tuple #[]) ∧ w' = w.setCell ⟨b,0,none⟩ (.pointer (some ⟨b,0,none⟩)) := by
 obtain ⟨j,hj,hjs⟩ := Option.map_eq_some_iff.1 Qwl
 go_enter Tryz.func100,Tryz.ntmps100
 go_wp2
 rw [Lib.run_to_unsafe w ⟨b,0,none⟩ Tryz.underlying71 Tryz.underlying244 hj (by rw [hjs]; decide) hsh (Nat.zero_lt_succ 1)]
 simp only [Result.andThen]
 rw [Oper.upon_value]
 go_wp2
 rw [run_callFunc_extern Tryz.func171 (by kernel_rfl) (by kernel_rfl) (by kernel_rfl) (e := Extern.AbiNoEscape.same) (by kernel_rfl)]
 rw [Lib.run_noEscape]
 simp only [Result.andThen]
 rw [Oper.upon_value]
 go_wp2
 rw [Lib.run_from_unsafe w ⟨b,0,none⟩ Tryz.underlying244 Tryz.underlying71 hj hsh Q45]
 simp only [Result.andThen]
 rw [Oper.upon_value]
 go_wp2
 go_end0
 exact ⟨rfl,rfl⟩
theorem Xbi (B b:Nat) (bs:List Value) (w:World) (g:Option Nat) (h:Lib.IsBuilder 74 5 B b bs w) (hg:RowOf w b g) :
 Calls Tryz.prog 100 #[.pointer (some ⟨b,0,none⟩)] w fun e w' => e = .returned (.tuple #[]) ∧ (Lib.BuilderAt 74 5 B b (.pointer (some ⟨b,0,none⟩)) bs w' ∧ Below B w w' ∧ (∀ k,k ≠ b → w'.heap[k]? = w.heap[k]?) ∧ RowOf w' b g) := by
 rcases h with h | h
 · refine (Qyk b w h.cell0 h.shape h.frozen0).mono ?_
   rintro e w' ⟨rfl,rfl⟩
   obtain ⟨_,v,hb,_⟩ := id h
   exact ⟨rfl,h.used _,(Below.refl B w).setCell (p := ⟨b,0,none⟩) h.1 _,fun k hk => Below.heap_setCell _ _ _ _ hk,Q6h hb hg⟩
 · refine (Q1i b w h.cell0).mono ?_
   rintro e w' ⟨rfl,rfl⟩
   exact ⟨rfl,h,Below.refl B _,fun _ _ => rfl,hg⟩
theorem Q64 : 74 ≠ 5 := by decide
theorem Qnv : ∀ args w,(callFunc 100 args).run Tryz.prog w = .ok (.enter 100 args) w := enters_of Tryz.func100 (by kernel_rfl) rfl
set_option maxHeartbeats 2000000 in
set_option maxRecDepth 100000 in
theorem Xbp (B b:Nat) (bs:List Value) (s:ByteArray) (w:World) (g0:Option Nat) (h:Lib.IsBuilder 74 5 B b bs w) (hg0:RowOf w b g0) (hlen:bs.length + s.size ≤ 140737488355328) (hBw:B ≤ w.heap.size) :
 Calls Tryz.prog 38 #[.pointer (some ⟨b,0,none⟩),.string s] w fun e w' => e = .returned (.tuple #[.int .i64 s.size,.nilIface]) ∧ (Lib.BuilderAt 74 5 B b (.pointer (some ⟨b,0,none⟩)) (bs ++ Lib.strCells s) w' ∧ Below B w w' ∧ ∃ g1,RowOf w' b g1 ∧ (g1 = g0 ∨ ∃ k,g1 = some k ∧ w.heap.size ≤ k) ∧ ∀ k,k < w.heap.size → k ≠ b → g0 ≠ some k → w'.heap[k]? = w.heap[k]?) := by
 obtain ⟨i0,hi,hz0,hz1,hz2⟩ := info_parts Tryz.Builder_Extra_169.infoByte
 have e240 := Qnv
 go_enter Tryz.func38,Tryz.ntmps38
 go_wp2_with (go_at_fn 100; refine (Xbi B b bs _ g0 h hg0).mono ?_)
 rintro e w1 ⟨rfl,h1,hb1,hk1,hr1⟩
 obtain ⟨hB,v,hbk,hown,hne⟩ := h1
 have c0 : w1.cell? ⟨b,0,none⟩ = some (.pointer (some ⟨b,0,none⟩)) := by rw [Lib.cell_of_heap hbk]; rfl
 have c1 : w1.cell? ⟨b,1,none⟩ = some v := by rw [Lib.cell_of_heap hbk]; rfl
 go_wp2_with (at_builtin; refine Qt0 _ rfl _ _ 72 9 rfl B 5 i0 Tryz.underlying72 Tryz.underlying9 hi hz0 hz1 hz2 _ _ _ rfl hown s rfl ?c3 ?c4 ?c5 ?_)
 case c3 => unfold maxLen; omega
 case c4 => omega
 case c5 => have := hb1.size; omega
 intro v' w2 hown' hgrow _ hat
 have hvg : v.ownBlock = g0 := hr1 _ _ _ _ hbk
 have hlt : b < w1.heap.size := by
  rcases Nat.lt_or_ge b w1.heap.size with h' | h'
  · exact h'
  · simp [Array.getElem?_eq_none h'] at hbk
 have hb2 : w2.heap[b]? = some (.cells #[.pointer (some ⟨b,0,none⟩),v] 74 (0,0)) := by
  rw [hgrow.block b hlt (fun e => hne e.symm)]
  exact hbk
 have d0 : w2.cell? ⟨b,0,none⟩ = some (.pointer (some ⟨b,0,none⟩)) := by rw [Lib.cell_of_heap hb2]; rfl
 have d1 : w2.cell? ⟨b,1,none⟩ = some v := by rw [Lib.cell_of_heap hb2]; rfl
 have f1 : w2.frozen? ⟨b,1,none⟩ = false := Lib.frozen_of_heap hb2 1
 obtain ⟨ao,n',cap,rfl⟩ : ∃ ao n' cap,v' = .slice ao n' cap := by
  rcases hown'.2 with ⟨hv,_⟩ | ⟨g,cap,cur,hv,_⟩
  · exact ⟨_,_,_,hv⟩
  · exact ⟨_,_,_,hv⟩
 go_wp2
 go_ret2
 refine ⟨rfl,?_,?_,Value.ownBlock (.slice ao n' cap),?_,?_,?_⟩
 · exact Lib.BuilderAt.put (T := 74) (e := 5) hB hb2 (bs' := bs ++ Lib.strCells s) (by simpa [Lib.strCells_length] using hown') Q64
 · exact (hb1.grown hgrow (by have := hb1.size; omega) (fun k hk => (hown.lt k hk).1)).setCell (p := ⟨b,1,none⟩) hB _
 · exact Q3m hb2
 · rcases hat with e | e
   · exact .inl (e.trans hvg)
   · exact .inr ⟨_,e,by have := hb1.size; omega⟩
 · intro k hk hkb hku
   rw [Below.heap_setCell _ _ _ _ hkb,hgrow.block k (by have := hb1.size; omega) (fun e => hku (hvg ▸ e.symm))]
   exact hk1 k hkb
set_option maxHeartbeats 2000000 in
set_option maxRecDepth 100000 in
theorem Xbo (B b:Nat) (bs:List Value) (c:Int) (w:World) (g0:Option Nat) (h:Lib.IsBuilder 74 5 B b bs w) (hg0:RowOf w b g0) (hlen:bs.length + 1 ≤ 140737488355328) (hBw:B ≤ w.heap.size) :
 Calls Tryz.prog 37 #[.pointer (some ⟨b,0,none⟩),.int .u8 c] w fun e w' => e = .returned .nilIface ∧ (Lib.BuilderAt 74 5 B b (.pointer (some ⟨b,0,none⟩)) (bs ++ [.int .u8 c]) w' ∧ Below B w w' ∧ ∃ g1,RowOf w' b g1 ∧ (g1 = g0 ∨ ∃ k,g1 = some k ∧ w.heap.size ≤ k) ∧ ∀ k,k < w.heap.size → k ≠ b → g0 ≠ some k → w'.heap[k]? = w.heap[k]?) := by
 obtain ⟨i0,hi,hz0,hz1,hz2⟩ := info_parts Tryz.Builder_Extra_169.infoByte
 have e240 := Qnv
 go_enter Tryz.func37,Tryz.ntmps37
 go_wp2_with (go_at_fn 100; refine (Xbi B b bs _ g0 h hg0).mono ?_)
 rintro e w1 ⟨rfl,h1,hb1,hk1,hr1⟩
 obtain ⟨hB,v,hbk,hown,hne⟩ := h1
 have c0 : w1.cell? ⟨b,0,none⟩ = some (.pointer (some ⟨b,0,none⟩)) := by rw [Lib.cell_of_heap hbk]; rfl
 have c1 : w1.cell? ⟨b,1,none⟩ = some v := by rw [Lib.cell_of_heap hbk]; rfl
 go_wp2_with (at_builtin; refine wpList_append_own_at _ rfl _ _ 72 rfl B 5 i0 (.int .u8 0) 1 1 Tryz.underlying72 hi hz0 hz1 hz2 rfl (by decide) _ _ _ rfl (hown.alloc _) ⟨w1.heap.size,0,none⟩ 1 1 [.int .u8 c] rfl rfl ?c1 ?c2 ?c3 ?c4 ?c5 ?_)
 case c1 =>
  intro j u hj
  match j,hj with
  | 0,hj => simp at hj; subst hj; simp [Addr.add]
 case c2 => intro u hu; simp at hu; subst hu; rfl
 case c3 => unfold maxLen; omega
 case c4 => omega
 case c5 => have := hb1.size; simp; omega
 intro v' w2 hown' hgrow _ hat
 have hvg : v.ownBlock = g0 := hr1 _ _ _ _ hbk
 have hlt : b < w1.heap.size := by
  rcases Nat.lt_or_ge b w1.heap.size with h' | h'
  · exact h'
  · simp [Array.getElem?_eq_none h'] at hbk
 have hb2 : w2.heap[b]? = some (.cells #[.pointer (some ⟨b,0,none⟩),v] 74 (0,0)) := by
  rw [hgrow.block b (by simp; omega) (fun e => hne e.symm),Lib.alloc_old w1 _ b hlt]
  exact hbk
 have d0 : w2.cell? ⟨b,0,none⟩ = some (.pointer (some ⟨b,0,none⟩)) := by rw [Lib.cell_of_heap hb2]; rfl
 have d1 : w2.cell? ⟨b,1,none⟩ = some v := by rw [Lib.cell_of_heap hb2]; rfl
 have f1 : w2.frozen? ⟨b,1,none⟩ = false := Lib.frozen_of_heap hb2 1
 obtain ⟨g,cap,rfl⟩ : ∃ g cap,v' = .slice (some ⟨g,0,none⟩) (bs.length + 1) cap := by
  rcases hown'.2 with ⟨_,h0⟩ | ⟨g,cap,cur,hv,_⟩
  · omega
  · exact ⟨g,cap,hv⟩
 go_wp2
 go_ret
 refine ⟨rfl,?_,?_,Value.ownBlock (.slice (some ⟨g,0,none⟩) (bs.length + 1) cap),?_,?_,?_⟩
 · exact Lib.BuilderAt.put (T := 74) (e := 5) hB hb2 (bs' := bs ++ [.int .u8 c]) (by simpa using hown') Q64
 · exact ((hb1.alloc (by have := hb1.size; omega) _).grown hgrow (by have := hb1.size; simp; omega) (fun k hk => (hown.lt k hk).1)).setCell (p := ⟨b,1,none⟩) hB _
 · exact Q3m hb2
 · rcases hat with e | e
   · exact .inl (e.trans hvg)
   · exact .inr ⟨_,e,by have := hb1.size; simp; omega⟩
 · intro k hk hkb hku
   have hlk : k < w1.heap.size := by have := hb1.size; omega
   rw [Below.heap_setCell _ _ _ _ hkb,hgrow.block k (by simp; omega) (fun e => hku (hvg ▸ e.symm)),Lib.alloc_old w1 _ k hlk]
   exact hk1 k hkb
structure BlG (w:World) (B b:Nat) (s:ByteArray) (g:Option Nat) : Prop where
 is : Lib.IsBuilder 74 5 B b (Lib.strCells s) w
 row : RowOf w b g
 size : B ≤ w.heap.size
structure Wrt (b:Nat) (g:Option Nat) (w:World) (g':Option Nat) (w':World) : Prop where
 row : g' = g ∨ ∃ k,g' = some k ∧ w.heap.size ≤ k
 mod : Mod (fun k => k = b ∨ g = some k) w w'
def Safe (b:Nat) (g:Option Nat) (k:Nat) : Prop := k ≠ b ∧ g ≠ some k
section
variable {b:Nat} {g g' g'':Option Nat} {w w' w'':World}
theorem Wrt.refl : Wrt b g w g w := ⟨.inl rfl,Mod.refl _ _⟩
theorem Wrt.ext (h:Ext w w') : Wrt b g w g w' := ⟨.inl rfl,Mod.of_ext h⟩
theorem Wrt.size (h:Wrt b g w g' w') : w.heap.size ≤ w'.heap.size := h.mod.size
theorem Wrt.safe (h:Wrt b g w g' w') {k:Nat} (hs:Safe b g k) (hk:k < w.heap.size) : Safe b g' k := by
 refine ⟨hs.1,?_⟩
 rcases h.row with e | ⟨k2,e,h2⟩
 · rw [e]; exact hs.2
 · rw [e]; intro he; injection he with he; omega
theorem Wrt.block (h:Wrt b g w g' w') {k:Nat} (hs:Safe b g k) (hk:k < w.heap.size) : w'.heap[k]? = w.heap[k]? := h.mod.block k hk fun e => e.elim hs.1 hs.2
theorem Wrt.trans (h:Wrt b g w g' w') (h':Wrt b g' w' g'' w'') : Wrt b g w g'' w'' := by
 refine ⟨?_,h'.mod.os.trans h.mod.os,h'.mod.tape.trans h.mod.tape,h'.mod.output.trans h.mod.output,Nat.le_trans h.size h'.size,fun k hk hn => ?_⟩
 · rcases h'.row with e | ⟨k,e,hk⟩
   · rw [e]; exact h.row
   · exact .inr ⟨k,e,Nat.le_trans h.size hk⟩
 · have hs : Safe b g k := ⟨fun e => hn (.inl e),fun e => hn (.inr e)⟩
   exact (h'.block (h.safe hs hk) (Nat.lt_of_lt_of_le hk h.size)).trans (h.block hs hk)
theorem Wrt.cell (h:Wrt b g w g' w') {a:Addr} {v:Value} (hs:Safe b g a.block) (hc:w.cell? a = some v) : w'.cell? a = some v := by
 rw [World.cell?_of_block (w := w) (h.block hs (cell_lt hc))]
 exact hc
theorem Wrt.sl {α:Type} {enc:α → List Value} {sz:Nat} {A:Option Addr} {l:List α} (h:Wrt b g w g' w') (hs:Sl enc sz w A l) (hp:∀ a,A = some a → Safe b g a.block) : Sl enc sz w' A l := fun i x hi => by
 obtain ⟨a,ha,hc⟩ := hs i x hi
 exact ⟨a,ha,fun j v hj => h.cell (by rw [add_block,add_block]; exact hp a ha) (hc j v hj)⟩
end
theorem BlG.ext {w w':World} {B b:Nat} {s:ByteArray} {g:Option Nat} (h:BlG w B b s g) (hk:∀ k,B ≤ k → k < w.heap.size → w'.heap[k]? = w.heap[k]?) (hsz:w.heap.size ≤ w'.heap.size) : BlG w' B b s g := by
 have bat : ∀ p,Lib.BuilderAt 74 5 B b p (Lib.strCells s) w → Lib.BuilderAt 74 5 B b p (Lib.strCells s) w' := by
  rintro p ⟨hB,v,hb,hown,hne⟩
  refine ⟨hB,v,by rw [hk b hB (lt_of_block hb)]; exact hb,?_,hne⟩
  refine ⟨hown.1,?_⟩
  rcases hown.2 with h0 | ⟨g,cap,cur,hv,hbg,hg,r⟩
  · exact .inl h0
  · exact .inr ⟨g,cap,cur,hv,hbg,by rw [hk g hbg (lt_of_block hg)]; exact hg,r⟩
 have hb : ∃ p,B ≤ b ∧ ∃ v,w.heap[b]? = some (.cells #[p,v] 74 (0,0)) := by
  rcases h.is with ⟨hB,v,hb,_⟩ | ⟨hB,v,hb,_⟩
  · exact ⟨_,hB,v,hb⟩
  · exact ⟨_,hB,v,hb⟩
 obtain ⟨p,hB,v,hb⟩ := hb
 refine ⟨h.is.imp (bat _) (bat _),fun p2 v2 T2 fz2 h2 => ?_,Nat.le_trans h.size hsz⟩
 rw [hk b hB (lt_of_block hb)] at h2
 exact h.row _ _ _ _ h2
theorem BlG.lt {w:World} {B b:Nat} {s:ByteArray} {g:Option Nat} (h:BlG w B b s g) : B ≤ b ∧ b < w.heap.size ∧ ∀ k,g = some k → B ≤ k ∧ k < w.heap.size := by
 have key : ∀ p,Lib.BuilderAt 74 5 B b p (Lib.strCells s) w → B ≤ b ∧ b < w.heap.size ∧ ∀ k,g = some k → B ≤ k ∧ k < w.heap.size := by
  rintro p ⟨hB,v,hb,hown,hne⟩
  refine ⟨hB,lt_of_block hb,fun k hk => ?_⟩
  have hv := h.row _ _ _ _ hb
  rw [hk] at hv
  exact hown.lt k hv
 exact h.is.elim (key _) (key _)
theorem Q8o : Qox Tryz.prog 38 := ⟨_,Tryz.func38,rfl,rfl⟩
theorem Q8n : Qox Tryz.prog 37 := ⟨_,Tryz.func37,rfl,rfl⟩
theorem Q5z : Qox Tryz.prog 49 := ⟨_,Tryz.func49,rfl,rfl⟩
theorem Qxw (s t:ByteArray) : Lib.strCells s ++ Lib.strCells t = Lib.strCells (s ++ t) := by
 unfold Lib.strCells
 rw [← List.map_append,← Array.toList_append,ByteArray.data_append]
theorem Q9g {w:World} {B b:Nat} {s:ByteArray} {g:Option Nat} (t:ByteArray) (h:BlG w B b s g) (hl:s.size + t.size ≤ 140737488355328) :
 Cal Tryz.prog 38 [.pointer (some ⟨b,0,none⟩),.string t] w fun r w' => r = .tuple #[.int .i64 t.size,.nilIface] ∧ ∃ g',BlG w' B b (s ++ t) g' ∧ Wrt b g w g' w' := by
 refine Qbq Q8o (Xbp B b _ t w g h.is h.row (by rw [Lib.strCells_length]; exact hl) h.size) ?_
 rintro w' ⟨h1,h2,g',h3,h4,h5⟩
 rw [Qxw] at h1
 exact ⟨rfl,g',⟨.inr h1,h3,Nat.le_trans h.size h2.size⟩,h4,h2.os,h2.tape,h2.output,h2.size,fun k hk hn => h5 k hk (fun e => hn (.inl e)) fun e => hn (.inr e)⟩
theorem Q4n {w:World} {B b:Nat} {s:ByteArray} {g:Option Nat} (c:Int) (t:ByteArray) (ht:[Value.int .u8 c] = Lib.strCells t) (h:BlG w B b s g) (hl:s.size + 1 ≤ 140737488355328) :
 Cal Tryz.prog 37 [.pointer (some ⟨b,0,none⟩),.int .u8 c] w fun r w' => r = .nilIface ∧ ∃ g',BlG w' B b (s ++ t) g' ∧ Wrt b g w g' w' := by
 refine Qbq Q8n (Xbo B b _ c w g h.is h.row (by rw [Lib.strCells_length]; exact hl) h.size) ?_
 rintro w' ⟨h1,h2,g',h3,h4,h5⟩
 rw [ht,Qxw] at h1
 exact ⟨rfl,g',⟨.inr h1,h3,Nat.le_trans h.size h2.size⟩,h4,h2.os,h2.tape,h2.output,h2.size,fun k hk hn => h5 k hk (fun e => hn (.inl e)) fun e => hn (.inr e)⟩
end Go.Proofs.YteabekcdcphjpaaGreatDoor
namespace Go.Proofs.YteabekcdcphjpaaGreatDoor
open Go.Se Go.RowKit
theorem Qny (name:ByteArray) (t:Int) : ∀ cs : List Ev,t ∈ (Q3 cs name).map (·.at_) ↔ ∃ x ∈ cs,x.item = name ∧ x.at_ = t := by
 refine Qy (by simp [Q3]) fun cs e ih => ?_
 have hx : (∃ x ∈ cs ++ [e],x.item = name ∧ x.at_ = t) ↔ (∃ x ∈ cs,x.item = name ∧ x.at_ = t) ∨ (e.item = name ∧ e.at_ = t) := by
  constructor
  · rintro ⟨x,hx,h⟩
    rcases List.mem_append.1 hx with hx | hx
    · exact .inl ⟨x,hx,h⟩
    · rw [List.mem_singleton] at hx; subst hx; exact .inr h
  · rintro (⟨x,hx,h⟩ | h)
    · exact ⟨x,by simp [hx],h⟩
    · exact ⟨e,by simp,h⟩
 rw [Qb5,hx,← ih]
 unfold Qfr Qho
 by_cases hn : name = e.item
 · subst hn
   rw [if_pos rfl,List.map_append,List.mem_append,List.map_cons,List.map_nil,List.mem_singleton]
   have : (Qfe (Q3 cs e.item) e).at_ = e.at_ := Qf5 _ _
   rw [this]
   constructor
   · rintro (h | h)
     · exact .inl h
     · exact .inr ⟨rfl,h.symm⟩
   · rintro (h | ⟨_,h⟩)
     · exact .inl h
     · exact .inr h.symm
 · rw [if_neg hn]
   constructor
   · exact .inl
   · rintro (h | ⟨h,_⟩)
     · exact h
     · exact absurd h.symm hn
def Qe4 (cs:List Ev) (t:Int) (name:ByteArray) : Bool := (X4 cs name t).2 && (X4 cs name t).1.listed
theorem Q43 (it:It) (w:World) : Cal Tryz.prog 173 [.agg (itC it).toArray] w fun r w' => r = .bool true ∧ Ext w w' := by
 refine Fi Tryz.func173 rfl _ rfl rfl ?_;conv=>whnf
 intro b w1 hn; (conv=>whnf);repeat(refine Sg ?_;(conv=>whnf))
 exact ⟨rfl,hn.ext⟩
theorem Q3p {w:World} {S:Nat → Prop} {bm:Nat} {cs:List Ev} {L:List (ByteArray × (Option Addr × Nat))} (h:Qbs stC 9 254 w S bm (Q3 cs) L) : L.length ≤ cs.length := by
 have hn : (L.map (·.1)).Nodup := Qal h.keys
 have hs : ∀ x ∈ L.map (·.1),x ∈ cs.map (·.item) := fun x hx => by
  obtain ⟨y,hy,rfl⟩ := List.mem_map.1 hx
  have hne := h.ne y hy
  obtain ⟨s,hs⟩ := List.exists_mem_of_ne_nil _ hne
  obtain ⟨e,he,hi,_⟩ := (Qny y.1 s.at_ cs).1 (List.mem_map.2 ⟨s,hs,rfl⟩)
  exact List.mem_map.2 ⟨e,he,hi⟩
 have := Qfb hn hs
 simpa using this
theorem Qxz {α:Type} (rows:ByteArray → List α) (L:List (ByteArray × (Option Addr × Nat))) : (toV rows L).map (·.1) = L.map (·.1) := by unfold toV; rw [List.map_map]; rfl
set_option maxHeartbeats 1000000 in
theorem Qv8 (w:World) (S:Nat → Prop) (p:Nat) (cs:List Ev) (h:Qhr w S p cs) (t:Int) (hl:∀ name,(Q3 cs name).length < 1000000000000) (hcl:cs.length < 100000) :
 Cal Tryz.prog 172 [.pointer (some ⟨p,0,none⟩),.int .i64 t,.func (.func 173) #[] #[]] w fun r w' => ∃ A c K,r = .slice A (Xr K).length c ∧ SlT w' A (Xr K) ∧ K.Nodup ∧ (∀ x,x ∈ K ↔ Qe4 cs t x = true) ∧ K.length < 1000000 ∧ (∀ a,A = some a → w.heap.size ≤ a.block) ∧ Ext w w' := by
 obtain ⟨bm,L,hC⟩ := id h
 have hLl := Q3p hC.rows
 have hkn : (L.map (·.1)).Nodup := Qal hC.rows.keys
 have hin : ∀ x,Qe4 cs t x = true → x ∈ L.map (·.1) := fun x hx => by
  rw [Qgl]
  cases hq : Qc L x with
  | some v => rfl
  | none =>
    have h0 := hC.rows.all x hq
    unfold Qe4 X4 at hx
    rw [h0] at hx
    simp at hx
 have hmap := hC.rows.map
 refine Fi Tryz.func172 rfl _ rfl rfl ?_;conv=>whnf
 refine ⟨.map (some bm),hC.head.one rfl,?_⟩; (conv=>whnf);repeat(refine Sg ?_;(conv=>whnf))
 refine map_range Qx5 hmap fun w3 hi3 hx3 => ?_
 have hs3 : w.heap.size < w3.heap.size := hi3.lt
 generalize hr : w.heap.size = r at hi3 hs3 ⊢
 (conv=>whnf);repeat(refine Sg ?_;(conv=>whnf))
 refine Qg Qa (fun (q:List (ByteArray × Value) × Option Addr × Nat × List ByteArray) w' => Ext w w' ∧ Iter w' r bm Value.string (toV (Q3 cs) L) q.1 ∧ q.2.2.2 = (q.1.map (·.1)).filter (Qe4 cs t) ∧ q.1.length ≤ L.length ∧ Own Qbr 1 9 w3.heap.size w' q.2.1 q.2.2.1 q.2.2.2 ∧ w3.heap.size ≤ w'.heap.size)
  (fun | (vs,A,c,K) => [(0,.pointer (some ⟨p,0,none⟩)),(1,.int .i64 t),(2,.func (.func 173) #[] #[]),(7,.slice A K.length c),(15,.pointer (some ⟨r,0,none⟩))]) (fun q => L.length - q.1.length) ([],none,0,[]) ⟨hx3,hi3,rfl,Nat.zero_le _,Own.nil,Nat.le_refl _⟩ ⟨rfl,rfl,rfl,rfl,rfl,trivial⟩ ?_
 clear hi3 hx3
 rintro ⟨vs,A,c,K⟩ w4 ⟨hx4,hi4,hK,hvl,hown,h34⟩
 simp only at hi4 hK hvl hown
 have hKl : K.length ≤ vs.length := by
  rw [hK]
  have := List.length_filter_le (Qe4 cs t) (vs.map (·.1))
  rw [List.length_map] at this
  exact this
 conv=>whnf
 refine Qao hi4 (fun hp => ?_) (fun x w5 hxin hnew hlt hi5 ho5 hen => ?_)
 · (conv=>whnf);repeat(refine Sg ?_;(conv=>whnf))
   constructor
   · intro hh; cases hh
   intro _
   have hpk : (vs.map (·.1)).Perm (L.map (·.1)) := by
    have := hp.map (·.1)
    rw [Qxz] at this
    exact this
   have hKn : K.Nodup := by rw [hK]; exact (hpk.nodup_iff.2 hkn).sublist List.filter_sublist
   have hKm : ∀ x,x ∈ K ↔ Qe4 cs t x = true := fun x => by
    rw [hK,List.mem_filter]
    exact ⟨fun h => h.2,fun h => ⟨hpk.mem_iff.2 (hin x h),h⟩⟩
   (conv=>whnf);repeat(refine Sg ?_;(conv=>whnf))
   refine (Qka K A c w3.heap.size w4 hown (by omega)).mono ?_
   rintro _ w5 ⟨rfl,hsl,hx5⟩
   (conv=>whnf);repeat(refine Sg ?_;(conv=>whnf))
   refine ⟨A,c,K,?_,hsl,hKn,hKm,by omega,fun a ha => by have := (hown.block ha).1; omega,hx5 w hx4 (by omega)⟩
   rw [Qcg]
 · have hx5 := ho5.ext hx4 (by omega)
   have hown5 : Own Qbr 1 9 w3.heap.size w5 A c K := hown.keep fun a ha => ho5.block _ (by have := (hown.block ha).1; omega)
   have hlt : vs.length < L.length := by simpa [toV] using hlt
   have hsn : ((vs ++ [x]).map (·.1)).filter (Qe4 cs t) = K ++ if Qe4 cs t x.1 = true then [x.1] else [] := by
    rw [List.map_append,List.filter_append,hK]
    congr 1
    by_cases hq : Qe4 cs t x.1 = true
    · simp [hq]
    · simp [hq]
   have s5 := ho5.size
   (conv=>whnf);repeat(refine Sg ?_;(conv=>whnf))
   constructor
   · intro _
     (conv=>whnf);repeat(refine Sg ?_;(conv=>whnf))
     refine Xc (hen w5 rfl rfl) ?_
     (conv=>whnf);repeat(refine Sg ?_;(conv=>whnf))
     refine (Qgb w5 S p cs (h.ext hx5) x.1 t (hl x.1)).mono ?_
     rintro _ w6 ⟨rfl,hx6⟩
     (conv=>whnf);repeat(refine Sg ?_;(conv=>whnf))
     intro b9 w7 hn7; (conv=>whnf);repeat(refine Sg ?_;(conv=>whnf))
     refine Qj Qa (e := ty165) rfl hn7.At rfl rfl rfl (by simp [Qm,itC,Value.oneCell']) fun w8 h9 ho8 => ?_
     have h9 : At w8 b9 165 (itC (X4 cs x.1 t).1) := h9
     have hx58 : Ext w5 w8 := ho8.ext (hx6.trans hn7.ext) (by rw [hn7.block]; exact hx6.size)
     clear ho8 hn7 hx6
     (conv=>whnf);repeat(refine Sg ?_;(conv=>whnf))
     refine ⟨.bool (X4 cs x.1 t).1.listed,fun _ => h9.one rfl,?_⟩; (conv=>whnf);repeat(refine Sg ?_;(conv=>whnf))
     refine ⟨itC (X4 cs x.1 t).1,fun _ => ⟨rfl,h9.all⟩,?_⟩; (conv=>whnf);repeat(refine Sg ?_;(conv=>whnf))
     refine ⟨Unit,fun _ => (.bool true),fun _ w' => Ext w8 w',(),fun hg => ((Q43 (X4 cs x.1 t).1 w8)).mono fun r w' h => ⟨(),h.1,h.2⟩,?_⟩
     intro _ w9 h2
     have hx89 : Ext w8 w9 := by
      rcases h2 with ⟨_,h⟩ | ⟨_,h⟩
      · exact h
      · rw [h]; exact Ext.refl _
     clear h2
     conv=>whnf
     have hx59 := hx58.trans hx89
     have hi9 := hi5.ext hx59
     have hown9 := hown5.ext hx59
     have hx9 := hx5.trans hx59
     have s9 := hx59.size
     clear hx58 hx89 h9 hi5 hown5
     (conv=>whnf);repeat(refine Sg ?_;(conv=>whnf))
     constructor
     · intro hq
       have hq : Qe4 cs t x.1 = true := by
        have : (((X4 cs x.1 t).2 && (X4 cs x.1 t).1.listed) && true) = true := hq
        rw [Bool.and_true] at this
        exact this
       rw [if_pos hq] at hsn
       (conv=>whnf);repeat(refine Sg ?_;(conv=>whnf))
       intro bb wb hnb; (conv=>whnf);repeat(refine Sg ?_;(conv=>whnf))
       refine Qcl Qxs (l := K) (news := [x.1]) rfl (hown9.ext hnb.ext) rfl (Qxs.new1 (x := x.1) hnb) (by simp; omega) (by have := hnb.size; omega) fun A6 c6 w6 hown6 hg6 hA6 => ?_
       have hr6 : ∀ k,A.map (·.block) = some k → w3.heap.size ≤ k := Qg3 (hown9.ext hnb.ext)
       have hx6 : Ext w w6 := Qag (hx9.trans hnb.ext) hg6 (fun k hk => by have := hr6 k hk; omega)
       have hi6 : Iter w6 r bm Value.string (toV (Q3 cs) L) (vs ++ [x]) := by
        have hib := hi9.ext hnb.ext
        have hbl := hmap.lt
        exact hib.keep (hg6.block bm hib.map.lt fun e => by have := hr6 bm e.symm; omega) (hg6.block r hib.lt fun e => by have := hr6 r e.symm; omega)
       have sb := hnb.size
       have s6 := hg6.size
       generalize K ++ [x.1] = K2 at hown6 hsn ⊢
       (conv=>whnf);repeat(refine Sg ?_;(conv=>whnf))
       exact ⟨(vs ++ [x],A6,c6,K2),by simp; omega,⟨hx6,hi6,hsn.symm,by simp; omega,hown6,by omega⟩,⟨rfl,rfl,rfl,rfl,rfl,trivial⟩⟩
     · intro hq
       have hq : ¬ Qe4 cs t x.1 = true := fun h => by
        have : (((X4 cs x.1 t).2 && (X4 cs x.1 t).1.listed) && true) = false := hq
        rw [Bool.and_true] at this
        unfold Qe4 at h
        rw [this] at h
        cases h
       rw [if_neg hq,List.append_nil] at hsn
       (conv=>whnf);repeat(refine Sg ?_;(conv=>whnf))
       exact ⟨(vs ++ [x],A,c,K),by simp; omega,⟨hx9,hi9,hsn.symm,by simp; omega,hown9,by omega⟩,⟨rfl,rfl,rfl,rfl,rfl,trivial⟩⟩
   · intro hh; cases hh
theorem Qu0 (w:World) (S:Nat → Prop) (p:Nat) (cs:List Ev) (h:Qhr w S p cs) (t:Int) (hl:∀ name,(Q3 cs name).length < 1000000000000) (hcl:cs.length < 100000) :
 Cal Tryz.prog 102 [.pointer (some ⟨p,0,none⟩),.int .i64 t] w fun r w' => ∃ A c K,r = .slice A (Xr K).length c ∧ SlT w' A (Xr K) ∧ K.Nodup ∧ (∀ x,x ∈ K ↔ Qe4 cs t x = true) ∧ K.length < 1000000 ∧ (∀ a,A = some a → w.heap.size ≤ a.block) ∧ Ext w w' := by
 refine Fi Tryz.func102 rfl _ rfl rfl ?_;conv=>whnf
 refine (Qv8 w S p cs h t hl hcl).mono ?_
 rintro _ w2 ⟨A,c,K,rfl,h2,h3,h4,h5,h6,h7⟩
 (conv=>whnf);repeat(refine Sg ?_;(conv=>whnf))
 exact ⟨A,c,K,rfl,h2,h3,h4,h5,h6,h7⟩
def nlB : ByteArray := ⟨#[10]⟩
def X5 : List ByteArray → ByteArray
 | [] => ⟨#[]⟩
 | x :: l => x ++ X5 l
theorem Qbx : X5 [] = ⟨#[]⟩ := rfl
theorem Q1h (x:ByteArray) : (⟨#[]⟩ : ByteArray) ++ x = x := by apply ByteArray.ext; simp
theorem Qcm (x:ByteArray) : x ++ (⟨#[]⟩ : ByteArray) = x := by apply ByteArray.ext; simp
theorem Qle (l m:List ByteArray) : X5 (l ++ m) = X5 l ++ X5 m := by
 induction l with
 | nil => rw [List.nil_append,Qbx,Q1h]
 | cons x l ih =>
   show x ++ X5 (l ++ m) = (x ++ X5 l) ++ X5 m
   rw [ih,ByteArray.append_assoc]
theorem Xv {α:Type} (f:α → ByteArray) (l:List α) (k:Nat) (h:k < l.length) : X5 ((l.take (k + 1)).map f) = X5 ((l.take k).map f) ++ f l[k] := by
 rw [List.take_succ_eq_append_getElem h,List.map_append,Qle]
 congr 1
 show X5 [f l[k]] = f l[k]
 unfold X5
 rw [Qbx,Qcm]
def Qd0 : List ByteArray → ByteArray
 | [] => ⟨#[]⟩
 | w :: ws => Xt w ++ X5 (ws.map fun x => spB ++ Xt x)
theorem Qwb (ws:List ByteArray) (k:Nat) (h:k < ws.length) : Qd0 (ws.take (k + 1)) = (if 0 < k then Qd0 (ws.take k) ++ spB else Qd0 (ws.take k)) ++ Xt ws[k] := by
 cases ws with
 | nil => simp at h
 | cons w ws =>
   cases k with
   | zero =>
     show Xt w ++ X5 [] = _
     rw [if_neg (by omega)]
     show Xt w ++ X5 [] = Qd0 [] ++ Xt w
     unfold Qd0
     rw [Qbx,Q1h,Qcm]
   | succ k =>
     have h2 : k < ws.length := by simpa using h
     rw [if_pos (by omega)]
     show Xt w ++ X5 ((ws.take (k + 1)).map fun x => spB ++ Xt x) = (Xt w ++ X5 ((ws.take k).map fun x => spB ++ Xt x)) ++ spB ++ Xt ws[k]
     rw [Xv _ ws k h2]
     simp only [ByteArray.append_assoc]
def Qdb (ws:List ByteArray) : ByteArray := Qd0 ws ++ nlB
def jnB (l:List ByteArray) : ByteArray := ⟨(Lib.join (l.map (·.data.toList)) [44]).toArray⟩
def nB (n:Int) : ByteArray := Qug n.toNat
def Qk4 : ByteArray := ⟨#[99,111,110,102,105,103]⟩
def Qq2 : ByteArray := ⟨#[101,118,101,110,116]⟩
def Qq4 : ByteArray := ⟨#[116,104,105,110,103]⟩
def Qir : ByteArray := ⟨#[112,111,112,117,108,97,114]⟩
def Qx8 : ByteArray := ⟨#[112,97,110,101]⟩
def Qis : ByteArray := ⟨#[115,101,115,115,105,111,110]⟩
def Qx7 : ByteArray := ⟨#[112,97,105,114]⟩
def Qq3 : ByteArray := ⟨#[116,97,115,116,101]⟩
def Qb9 (l:List Ct) : List Ct := l.mergeSort fun a b => !Ql5 b a
theorem Q5u (a b c:Ct) (h1:Ql5 b a = false) (h2:Ql5 c b = false) : Ql5 c a = false := by
 unfold Ql5 at *
 simp only [Bool.or_eq_false_iff,decide_eq_false_iff_not,Bool.and_eq_false_iff] at *
 refine ⟨by omega,?_⟩
 by_cases e : c.2 = a.2
 · right
   have e1 : b.2 = a.2 := by omega
   have e2 : c.2 = b.2 := by omega
   have q1 : bLt b.1 a.1 = false := h1.2.elim (fun h => absurd e1 h) id
   have q2 : bLt c.1 b.1 = false := h2.2.elim (fun h => absurd e2 h) id
   cases hc : bLt c.1 a.1 with
   | false => rfl
   | true =>
     cases hb : bLt a.1 b.1 with
     | true => rw [Qbb hc hb] at q2; cases q2
     | false => rw [Qbz hb q1,q2] at hc; cases hc
 · exact .inl e
theorem Qzf (a b:Ct) : ((!Ql5 b a) || (!Ql5 a b)) = true := by
 cases h : Ql5 b a with
 | false => rfl
 | true =>
   cases h2 : Ql5 a b with
   | false => rfl
   | true =>
     unfold Ql5 at h h2
     simp only [Bool.or_eq_true,decide_eq_true_eq,Bool.and_eq_true] at h h2
     exfalso
     have e : a.2 = b.2 := by omega
     have q1 : bLt b.1 a.1 = true := by rcases h with h | h; omega; exact h.2
     have q2 : bLt a.1 b.1 = true := by rcases h2 with h | h; omega; exact h.2
     have := Qbb q1 q2
     rw [Qae] at this; cases this
theorem Qgq (l:List Ct) : (Qb9 l).Perm l := List.mergeSort_perm _ _
theorem Qsp (l:List Ct) : Srt Ql5 (Qb9 l) := by
 have := List.pairwise_mergeSort (le := fun a b => !Ql5 b a) (fun a b c h1 h2 => by
  simp only [Bool.not_eq_true'] at *
  exact Q5u a b c h1 h2) Qzf l
 exact this.imp fun h => by simpa using h
theorem Qqp {F L:List Ct} (hp:F.Perm L) (hs:Srt Ql5 F) : F = Qb9 L := by
 refine Qom (hp.trans (Qgq L).symm) hs (Qsp L) fun x _ y _ h1 h2 => ?_
 unfold Ql5 at h1 h2
 simp only [Bool.or_eq_false_iff,decide_eq_false_iff_not,Bool.and_eq_false_iff] at h1 h2
 have e2 : x.2 = y.2 := by omega
 have e1 : x.1 = y.1 := by
  have q1 : bLt x.1 y.1 = false := h1.2.elim (fun h => absurd e2 h) id
  have q2 : bLt y.1 x.1 = false := h2.2.elim (fun h => absurd e2.symm h) id
  exact Qbz q1 q2
 exact Prod.ext e1 e2
def Q9j (c:Cfg) : ByteArray := Qdb [Qk4,nB c.half,nB c.width,nB c.gap,nB c.span,nB c.floor,nB c.crowd]
def evD (e:Ev) : ByteArray := Qdb [Qq2,Qgx e]
def Qc7 (z:List Ev) (now:Int) : List ByteArray := Qc8 (((Xd z).map (·.item)).filter (Qe4 (Xd z) now))
def thD (z:List Ev) (now:Int) (name:ByteArray) : ByteArray := Qdb [Qq4,name,(X4 (Xd z) name now).1.maker,(X4 (Xd z) name now).1.tags,nB (X4 (Xd z) name now).1.price,nB (X4 (Xd z) name now).1.stock,nB (X4 (Xd z) name now).1.born]
def Qbj (s:Qch) (half now:Int) : List Ct := ((s.map (·.1)).map fun k => (k,Xo s half k now)).filter fun x => decide (0 < x.2)
def Qsi (x:Ct) : ByteArray := Qdb [Qir,x.1,nB x.2]
def snD (s:Sn) : ByteArray := Qdb [Qis,s.person,nB s.from_,nB s.to_,jnB s.items]
def Qar (S:List Sn) : List ByteArray := Qc8 (S.flatMap (·.items))
def Qci (S:List Sn) (a:ByteArray) : List ByteArray := Qc8 ((S.flatMap (·.items)).filter fun b => !decide (a = b) && decide (0 < Qbv S a b))
def Qkh (S:List Sn) (a b:ByteArray) : ByteArray := if bLt a b = true then Qdb [Qx7,a,b,nB (Qbv S a b)] else ⟨#[]⟩
def Qd9 (S:List Sn) (a:ByteArray) : ByteArray := X5 ((Qci S a).map (Qkh S a))
def Qf6 (person:ByteArray) (x:Ct) : ByteArray := Qdb [Qq3,person,x.1,nB x.2]
def Qf0 (z:List Ev) (c:Cfg) (key:ByteArray) : ByteArray := Qdb [Qx8,key,nB (paS (Qe c.width z).ps key (0 / Qq c.width) ((1099511627776 + c.width) / Qq c.width))]
def Qzv (z:List Ev) : List ByteArray := Qc8 ((Qf1 z).map (·.person))
def Qio (z:List Ev) (c:Cfg) (now:Int) (person:ByteArray) : ByteArray := X5 ((Qb9 (Q6q (Qq c.half) now (rowsOf (Qe c.width z).rs person))).map (Qf6 person))
def Q5d (c:Cfg) (z:List Ev) (now:Int) : ByteArray :=
 Q9j c ++ X5 (z.map evD) ++ X5 ((Qc7 z now).map (thD z now)) ++ X5 ((Qb9 (Qbj (Qe c.width z).ds (Qq c.half) now)).map Qsi)
  ++ X5 ((Qat (Qe c.width z).ps (0 / Qq c.width) ((1099511627776 + c.width) / Qq c.width)).map (Qf0 z c))
  ++ X5 ((Qas c z).map snD) ++ X5 ((Qar (Qas c z)).map (Qd9 (Qas c z))) ++ X5 ((Qzv z).map (Qio z c now))
theorem Qz7 {S:List Sn} {a:ByteArray} : 0 < Xx S a ↔ a ∈ S.flatMap (·.items) := by
 unfold Xx hasB
 rw [List.length_pos_iff_exists_mem,List.mem_flatMap]
 simp only [List.mem_filter,decide_eq_true_eq]
theorem Q8s {S:List Sn} {a b:ByteArray} (h:0 < Qbv S a b) : b ∈ S.flatMap (·.items) := by
 unfold Qbv hasB at h
 rw [List.length_pos_iff_exists_mem] at h
 obtain ⟨s,hs⟩ := h
 simp only [List.mem_filter,Bool.and_eq_true,decide_eq_true_eq] at hs
 exact List.mem_flatMap.2 ⟨s,hs.1,hs.2.2⟩
theorem Qw6 {m:List (ByteArray × Int)} (h:∀ x ∈ m,0 < x.2) {a:ByteArray} : a ∈ m.map (·.1) ↔ 0 < (Qc m a).getD 0 := by
 rw [Qgl]
 cases hq : Qc m a with
 | none => simp
 | some v => simpa using h (a,v) (Xg hq)
theorem TabIs.items {sg:List (ByteArray × Int)} {ct:Qg5} {S:List Sn} (h:TabIs sg ct S) (hn:sg.Pairwise (fun x y => x.1 ≠ y.1)) : Xr (sg.map (·.1)) = Qar S := by
 refine Qhj (Qal hn) fun x => ?_
 rw [Qw6 h.pos.1,h.sg,← Qz7]
 omega
theorem Qpy {S:List Sn} {a b:ByteArray} : b ∈ (S.flatMap (·.items)).filter (fun b => !decide (a = b) && decide (0 < Qbv S a b)) ↔ a ≠ b ∧ 0 < Qbv S a b := by
 rw [List.mem_filter,Bool.and_eq_true,Bool.not_eq_true',decide_eq_false_iff_not,decide_eq_true_eq]
 exact ⟨fun h => h.2,fun h => ⟨Q8s h.2,h⟩⟩
theorem TabIs.near {sg:List (ByteArray × Int)} {ct:Qg5} {S:List Sn} (h:TabIs sg ct S) {a:ByteArray} {m:List (ByteArray × Int)} (hm:Qc ct a = some m) (hn:m.Pairwise (fun x y => x.1 ≠ y.1)) : Xr (m.map (·.1)) = Qci S a := by
 refine Qhj (Qal hn) fun x => ?_
 rw [Qw6 (h.pos.2 (a,m) (Xg hm)),Qpy]
 have := h.ct a x
 rw [hm] at this
 simp only [Option.getD_some] at this
 rw [this]
 by_cases hx : a = x
 · simp [hx]
 · rw [if_neg hx]
   exact ⟨fun h => ⟨hx,by omega⟩,fun h => by have := h.2; omega⟩
theorem TabIs.near0 {sg:List (ByteArray × Int)} {ct:Qg5} {S:List Sn} (h:TabIs sg ct S) {a:ByteArray} (hm:Qc ct a = none) : Qci S a = [] := by
 have : ∀ x,x ∉ Qci S a := fun x hx => by
  unfold Qci at hx
  rw [Xz,Qpy] at hx
  have h2 := h.ct a x
  rw [hm] at h2
  rw [if_neg hx.1] at h2
  have h3 : (Qc ((none:Option (List (ByteArray × Int))).getD []) x).getD 0 = 0 := rfl
  rw [h3] at h2
  omega
 cases hq : Qci S a with
 | nil => rfl
 | cons y l => exact absurd (by rw [hq]; simp) (this y)
theorem Q1o (x:ByteArray) (l:List ByteArray) : X5 (x :: l) = x ++ X5 l := rfl
theorem Qri {K:Nat} : ∀ l : List ByteArray,(∀ x ∈ l,x.size ≤ K) → (X5 l).size ≤ l.length * K
 | [],_ => Nat.zero_le _
 | x :: l,h => by
   have ih := Qri (K := K) l fun y hy => h y (by simp [hy])
   have hx := h x (by simp)
   rw [Q1o,ByteArray.size_append,List.length_cons,Nat.succ_mul]
   omega
theorem Qa2 {α:Type} (f:α → ByteArray) {K:Nat} (l:List α) (h:∀ x ∈ l,(f x).size ≤ K) : (X5 (l.map f)).size ≤ l.length * K := by
 have := Qri (K := K) (l.map f) fun y hy => by
  obtain ⟨x,hx,rfl⟩ := List.mem_map.1 hy
  exact h x hx
 rwa [List.length_map] at this
theorem Qbu {α:Type} (f:α → ByteArray) (l:List α) (k:Nat) : (X5 ((l.take k).map f)).size ≤ (X5 (l.map f)).size := by
 have h : l.map f = (l.take k).map f ++ (l.drop k).map f := by rw [← List.map_append,List.take_append_drop]
 rw [h,Qle,ByteArray.size_append]
 omega
theorem Qol (s:ByteArray) : (Xt s).size ≤ s.size + 1 := Qz9 s
theorem Qwa {K:Nat} (ws:List ByteArray) (h:∀ x ∈ ws,x.size ≤ K) : (Qd0 ws).size ≤ ws.length * (K + 2) := by
 cases ws with
 | nil => exact Nat.zero_le _
 | cons w ws =>
   have h1 := Qa2 (K := K + 2) (fun x => spB ++ Xt x) ws fun x hx => by
    have h1 := h x (by simp [hx])
    have h2 := Qol x
    have h3 : spB.size = 1 := rfl
    rw [ByteArray.size_append]
    omega
   have h2 := h w (by simp)
   have h3 := Qol w
   show (Xt w ++ X5 (ws.map fun x => spB ++ Xt x)).size ≤ _
   rw [ByteArray.size_append,List.length_cons,Nat.succ_mul]
   omega
theorem Qu2 : nlB.size = 1 := rfl
theorem Qb6 {K:Nat} (ws:List ByteArray) (h:∀ x ∈ ws,x.size ≤ K) : (Qdb ws).size ≤ ws.length * (K + 2) + 1 := by
 have := Qwa ws h
 unfold Qdb
 rw [ByteArray.size_append,Qu2]
 omega
theorem Qfx {n:Int} (h:n ≤ 9223372036854775807) : (nB n).size ≤ 21 := Qhw _ (by omega)
theorem Qor {z:List Ev} (hm:∀ e ∈ z,Xj e = true) {e:Ev} (he:e ∈ Xd z) : Qi e.item = true := by
 obtain ⟨h1,h2⟩ := List.mem_filter.1 he
 have hk := Qa4 (Qb2.1 (hm e h1)).kind
 have h3 : e.kind = 11 ∨ e.kind = 12 ∨ e.kind = 13 := by simpa [thB] using h2
 rcases hk with ⟨h,_⟩ | ⟨h,_⟩ | ⟨h,_⟩ | ⟨_,_,h,_⟩ | ⟨_,_,h,_⟩ | ⟨_,_,h,_⟩ | ⟨h,_⟩
 · omega
 · omega
 · omega
 · exact h
 · exact h
 · exact h
 · omega
theorem Qu7 {z:List Ev} (hm:∀ e ∈ z,Xj e = true) {e:Ev} (he:e ∈ Qf1 z) : Qi e.person = true := by
 obtain ⟨h1,h2⟩ := List.mem_filter.1 he
 have hk := Qa4 (Qb2.1 (hm e h1)).kind
 have h3 : ¬ (e.kind = 11 ∨ e.kind = 12 ∨ e.kind = 13) ∧ ¬ e.kind = 14 := by simpa [peB,thB] using h2
 rcases hk with ⟨_,h,_⟩ | ⟨_,h,_⟩ | ⟨_,h,_⟩ | ⟨h,_⟩ | ⟨h,_⟩ | ⟨h,_⟩ | ⟨h,_⟩
 · exact h
 · exact h
 · exact h
 · omega
 · omega
 · omega
 · omega
theorem Qee {z:List Ev} (hm:∀ e ∈ z,Xj e = true) {e:Ev} (he:e ∈ z.filter wpB) : Qi e.person = true ∧ Qi e.item = true := by
 obtain ⟨h1,h2⟩ := List.mem_filter.1 he
 exact Qhp (hm e h1) (by simpa [wpB] using h2)
def ItB (i:It) : Prop := i.maker.size < 1000 ∧ i.tags.size < 1000 ∧ (0 ≤ i.price ∧ i.price ≤ 1099511627776) ∧ (0 ≤ i.stock ∧ i.stock ≤ 1099511627776) ∧ 0 ≤ i.born ∧ i.born ≤ 1099511627776
theorem Quu (name:ByteArray) : ItB { Qc9 with name := name } := by
 have h : (⟨#[]⟩ : ByteArray).size = 0 := rfl
 unfold ItB Qc9
 simp only [h]
 omega
theorem Xbt {s:St} {e:Ev} (h:ItB s.item) (he:Xj e = true) (hk:e.kind = 11 ∨ e.kind = 12 ∨ e.kind = 13) : ItB (Qcj s e).item := by
 have hc := Qa4 (Qb2.1 he).kind
 have ha := (Qb2.1 he).at_
 obtain ⟨h1,h2,h3,h4,h5⟩ := h
 have hr := Qmm e.text
 have ht := Qd8 he
 unfold Qcj
 split
 · next k =>
   have hl : Qa7 e.text = true ∧ 0 ≤ e.val ∧ e.val ≤ 1048576 := by
    rcases hc with ⟨h,_⟩ | ⟨h,_⟩ | ⟨h,_⟩ | ⟨_,_,_,h⟩ | ⟨h,_⟩ | ⟨h,_⟩ | ⟨h,_⟩
    · omega
    · omega
    · omega
    · exact h
    · omega
    · omega
    · omega
   have hn : Qi (Qak e.text) = true := by
    have := hl.1
    unfold Qa7 at this
    simp only [Bool.and_eq_true] at this
    exact this.1.2
   have hs := Qab hn
   refine ⟨by show (Qak e.text).size < 1000; omega,by show (Qau e.text).size < 1000; omega,by show 0 ≤ e.val ∧ e.val ≤ _; omega,h4,?_⟩
   show 0 ≤ (if s.born = true then s.item.born else e.at_) ∧ (if s.born = true then s.item.born else e.at_) ≤ _
   split
   · exact h5
   · exact ha
 · split
   · next k =>
     have hl : 0 ≤ e.val ∧ e.val ≤ 1048576 := by
      rcases hc with ⟨h,_⟩ | ⟨h,_⟩ | ⟨h,_⟩ | ⟨h,_⟩ | ⟨_,_,_,_,h⟩ | ⟨h,_⟩ | ⟨h,_⟩
      · omega
      · omega
      · omega
      · omega
      · exact h
      · omega
      · omega
     exact ⟨h1,h2,h3,by show 0 ≤ e.val ∧ e.val ≤ _; omega,h5⟩
   · exact ⟨h1,h2,h3,h4,h5⟩
theorem Qyn : ∀ cs : List Ev,(∀ e ∈ cs,Xj e = true ∧ (e.kind = 11 ∨ e.kind = 12 ∨ e.kind = 13)) → ∀ name,∀ s ∈ Q3 cs name,ItB s.item := by
 refine Qy (fun _ name s hs => by simp [Q3] at hs) fun l e ih h name s hs => ?_
 have ih := ih (fun x hx => h x (by simp [hx]))
 obtain ⟨he,hk⟩ := h e (by simp)
 rw [Qb5] at hs
 unfold Qfr Qho at hs
 split at hs
 · rcases List.mem_append.1 hs with hs | hs
   · exact ih _ s hs
   · rw [List.mem_singleton] at hs
     subst hs
     unfold Qfe
     refine Xbt ?_ he hk
     cases hq : (Q3 l e.item).getLast? with
     | none => exact Quu _
     | some s => exact ih _ s (List.mem_of_getLast? hq)
 · exact ih name s hs
theorem Q1m {z:List Ev} (hm:∀ e ∈ z,Xj e = true) (name:ByteArray) (t:Int) : ItB (X4 (Xd z) name t).1 := by
 have hb := Qyn (Xd z) (fun e he => ⟨hm e (List.mem_filter.1 he).1,by simpa [thB] using (List.mem_filter.1 he).2⟩) name
 unfold X4
 split
 · next s hs =>
   split
   · exact Quu ⟨#[]⟩
   · exact hb s (List.mem_of_getElem? hs)
 · exact Quu ⟨#[]⟩
theorem names_in {z:List Ev} {now:Int} {x:ByteArray} (h:x ∈ Qc7 z now) : ∃ e ∈ Xd z,e.item = x := by
 unfold Qc7 at h
 rw [Xz] at h
 obtain ⟨e,he,hx⟩ := List.mem_map.1 (List.mem_filter.1 h).1
 exact ⟨e,he,hx⟩
theorem Qsb (z:List Ev) (now:Int) : (Qc7 z now).length ≤ z.length := by
 unfold Qc7
 have h1 := Qkx (((Xd z).map (·.item)).filter (Qe4 (Xd z) now))
 have h2 := List.length_filter_le (Qe4 (Xd z) now) ((Xd z).map (·.item))
 have h3 : (Xd z).length ≤ z.length := List.length_filter_le thB z
 rw [List.length_map] at h2
 omega
theorem Qui : ∀ l : List Ev,(Qgw l).length ≤ l.length ∧ ∀ x ∈ Qgw l,∃ e ∈ l,e.item = x.1 := by
 refine Qy ⟨by simp [Qgw],fun x hx => by simp [Qgw] at hx⟩ fun l e ih => ?_
 rw [Qph,List.length_append,List.length_singleton]
 unfold Qiv
 split
 · exact ⟨by omega,fun x hx => by obtain ⟨u,hu,h⟩ := ih.2 x hx; exact ⟨u,by simp [hu],h⟩⟩
 · have := Qez e.item (Qz ((Qc (Qgw l) e.item).getD []) e.at_ ((Qc ((Qc (Qgw l) e.item).getD []) e.at_).getD 0 + Qw e)) (Qgw l)
   refine ⟨by omega,fun x hx => ?_⟩
   rcases Qbw hx with h | hx
   · exact ⟨e,by simp,by rw [h]⟩
   · obtain ⟨u,hu,h⟩ := ih.2 x hx; exact ⟨u,by simp [hu],h⟩
theorem Qxr (width:Int) : ∀ l : List Ev,(Qid width l).length ≤ l.length ∧ ∀ x ∈ Qid width l,∃ e ∈ l,e.item = x.1.1 := by
 refine Qy ⟨by simp [Qid],fun x hx => by simp [Qid] at hx⟩ fun l e ih => ?_
 rw [Qmj,List.length_append,List.length_singleton]
 unfold Qie
 split
 · exact ⟨by omega,fun x hx => by obtain ⟨u,hu,h⟩ := ih.2 x hx; exact ⟨u,by simp [hu],h⟩⟩
 · have := Qez (e.item,e.at_ / Qq width) ((Qc (Qid width l) (e.item,e.at_ / Qq width)).getD 0 + Qw e) (Qid width l)
   refine ⟨by omega,fun x hx => ?_⟩
   rcases Qbw hx with h | hx
   · exact ⟨e,by simp,by rw [h]⟩
   · obtain ⟨u,hu,h⟩ := ih.2 x hx; exact ⟨u,by simp [hu],h⟩
theorem Q1v {z:List Ev} (hm:∀ e ∈ z,Xj e = true) (hz:z.length < 1000) (half:Int) (key:ByteArray) (now:Int) : Xo (Qgw (z.filter wpB)) half key now = Q6b (z.filter wpB) half key now ∧ 0 ≤ Q6b (z.filter wpB) half key now ∧ Q6b (z.filter wpB) half key now ≤ 1099511627776 := by
 have hb := Qsj (Qtj hm) half key now
 have hl := List.length_filter_le wpB z
 refine ⟨?_,hb.1,by omega⟩
 unfold Xo
 rw [Q7a _ _ _ _ (fun e he => (List.mem_filter.1 he).2)]
 exact (wrap_eq rfl ⟨by omega,by omega⟩).symm
theorem Q4h {z:List Ev} (hm:∀ e ∈ z,Xj e = true) (hz:z.length < 1000) {half now:Int} {x:Ct} (h:x ∈ Qbj (Qgw (z.filter wpB)) half now) : Qi x.1 = true ∧ 0 < x.2 ∧ x.2 ≤ 1099511627776 := by
 unfold Qbj at h
 obtain ⟨h1,h2⟩ := List.mem_filter.1 h
 obtain ⟨k,hk,rfl⟩ := List.mem_map.1 h1
 obtain ⟨y,hy,rfl⟩ := List.mem_map.1 hk
 obtain ⟨e,he,hi⟩ := (Qui _).2 y hy
 have hn := (Qee hm he).2
 have hc := Q1v hm hz half y.1 now
 rw [hi] at hn
 have h3 : 0 < Xo (Qgw (z.filter wpB)) half y.1 now := by simpa using h2
 rw [hc.1] at h3
 refine ⟨hn,?_,?_⟩
 · show 0 < Xo _ _ _ _; rw [hc.1]; exact h3
 · show Xo _ _ _ _ ≤ _; rw [hc.1]; exact hc.2.2
theorem Qx0 (z:List Ev) (half now:Int) : (Qbj (Qgw (z.filter wpB)) half now).length ≤ z.length := by
 unfold Qbj
 have h1 := List.length_filter_le (fun x:Ct => decide (0 < x.2)) (((Qgw (z.filter wpB)).map (·.1)).map fun k => (k,Xo (Qgw (z.filter wpB)) half k now))
 rw [List.length_map,List.length_map] at h1
 have h2 := (Qui (z.filter wpB)).1
 have h3 := List.length_filter_le wpB z
 omega
theorem Qw5 {z:List Ev} (hm:∀ e ∈ z,Xj e = true) {width lo hi:Int} {x:ByteArray} (h:x ∈ Qat (Qid width (z.filter wpB)) lo hi) : Qi x = true := by
 unfold Qat at h
 rw [Xz] at h
 obtain ⟨y,hy,rfl⟩ := List.mem_map.1 h
 obtain ⟨e,he,hi⟩ := (Qxr width _).2 y (List.mem_filter.1 hy).1
 rw [← hi]
 exact (Qee hm he).2
theorem Qry (z:List Ev) (width lo hi:Int) : (Qat (Qid width (z.filter wpB)) lo hi).length ≤ z.length := by
 unfold Qat
 have h1 := Qkx (((Qid width (z.filter wpB)).filter fun x => Qjm lo hi x.1.2).map (·.1.1))
 have h2 := List.length_filter_le (fun x:PK × Int => Qjm lo hi x.1.2) (Qid width (z.filter wpB))
 have h3 := (Qxr width (z.filter wpB)).1
 have h4 := List.length_filter_le wpB z
 rw [List.length_map] at h1
 omega
theorem Qxn {z:List Ev} (hm:∀ e ∈ z,Xj e = true) (hz:z.length < 1000) (width:Int) (key:ByteArray) (lo hi:Int) : 0 ≤ paS (Qid width (z.filter wpB)) key lo hi ∧ paS (Qid width (z.filter wpB)) key lo hi ≤ 1099511627776 := by
 have hb := Q58 (Qtj hm) width key lo hi
 have hl := List.length_filter_le wpB z
 rw [Xaf _ _ _ _ _ (fun e he => (List.mem_filter.1 he).2)]
 omega
def Q9s (l:List Ev) (q:Sn) : Prop := (∃ e ∈ l,e.person = q.person) ∧ (∃ e ∈ l,e.at_ = q.from_) ∧ (∃ e ∈ l,e.at_ = q.to_) ∧ ∀ i ∈ q.items,∃ e ∈ l,e.item = i
theorem Q83 {gap:Int} {l:List Ev} {acc:List Sn} {e:Ev} (he:e ∈ l) (h:∀ q ∈ acc,Q9s l q) : ∀ q ∈ Qaw gap acc (adE e),Q9s l q := by
 intro q hq
 have hone : Q9s l ⟨(adE e).1,(adE e).2.1,(adE e).2.1,[(adE e).2.2]⟩ := ⟨⟨e,he,rfl⟩,⟨e,he,rfl⟩,⟨e,he,rfl⟩,fun i hi => ⟨e,he,by rw [List.mem_singleton] at hi; rw [hi]; rfl⟩⟩
 unfold Qaw at hq
 split at hq
 · next g hg =>
   have hgm := h g (List.mem_of_getLast? hg)
   split at hq
   · rcases List.mem_append.1 hq with hq | hq
     · exact h q (List.dropLast_subset _ hq)
     · rw [List.mem_singleton] at hq
       subst hq
       refine ⟨⟨e,he,rfl⟩,hgm.2.1,⟨e,he,rfl⟩,fun i hi => ?_⟩
       rcases Qgg.1 hi with hi | hi
       · exact hgm.2.2.2 i hi
       · exact ⟨e,he,by rw [hi]; rfl⟩
   · rcases List.mem_append.1 hq with hq | hq
     · exact h q hq
     · rw [List.mem_singleton] at hq
       subst hq
       exact hone
 · rcases List.mem_append.1 hq with hq | hq
   · exact h q hq
   · rw [List.mem_singleton] at hq
     subst hq
     exact hone
theorem all_in (gap:Int) (l:List Ev) : ∀ L : List Ad3,(∀ a ∈ L,a ∈ l.map adE) → ∀ q ∈ allL gap L,Q9s l q := by
 refine Qy (fun _ q hq => by simp [allL] at hq) fun L a ih h => ?_
 rw [Qfl]
 obtain ⟨e,he,rfl⟩ := List.mem_map.1 (h a (by simp))
 exact Q83 he (ih fun x hx => h x (by simp [hx]))
theorem Q7g (c:Cfg) (z:List Ev) : ∀ q ∈ Qas c z,Q9s (z.filter wpB) q := by
 intro q hq
 unfold Qas at hq
 rw [← Qqm _ (Qlq _).1] at hq
 exact all_in _ _ _ (fun a ha => (Qn4 _).1 ha) q hq
theorem Q32 (c:Cfg) {z:List Ev} (hz:z.length < 1000) : ∀ q ∈ Qas c z,q.items.length < 1000 := by
 intro q hq
 unfold Qas at hq
 rw [← Qqm _ (Qlq _).1] at hq
 have h1 := Qnp _ _ q hq
 have h2 := Qn3 (lt := ahB) ((z.filter wpB).map adE)
 have h3 := List.length_filter_le wpB z
 rw [List.length_map] at h2
 omega
theorem Q30 {c:Cfg} {z:List Ev} (hm:∀ e ∈ z,Xj e = true) {q:Sn} (hq:q ∈ Qas c z) : Qi q.person = true ∧ (0 ≤ q.from_ ∧ q.from_ ≤ 1099511627776) ∧ (0 ≤ q.to_ ∧ q.to_ ≤ 1099511627776) ∧ ∀ i ∈ q.items,Qi i = true := by
 obtain ⟨⟨e1,h1,k1⟩,⟨e2,h2,k2⟩,⟨e3,h3,k3⟩,h4⟩ := Q7g c z q hq
 refine ⟨by rw [← k1]; exact (Qee hm h1).1,by rw [← k2]; exact Qr7 (Qtj hm _ h2),by rw [← k3]; exact Qr7 (Qtj hm _ h3),fun i hi => ?_⟩
 obtain ⟨e,he,rfl⟩ := h4 i hi
 exact (Qee hm he).2
theorem Qpl (c:Cfg) (z:List Ev) {x:ByteArray} (h:x ∈ (Qas c z).flatMap (·.items)) : x ∈ (z.filter wpB).map (·.item) := by
 obtain ⟨q,hq,hx⟩ := List.mem_flatMap.1 h
 obtain ⟨e,he,rfl⟩ := (Q7g c z q hq).2.2.2 x hx
 exact List.mem_map.2 ⟨e,he,rfl⟩
theorem Q4b {z:List Ev} {K:List ByteArray} (hn:K.Nodup) (h:∀ x ∈ K,x ∈ (z.filter wpB).map (·.item)) : K.length ≤ z.length := by
 have h1 := Qfb hn h
 have h2 := List.length_filter_le wpB z
 rw [List.length_map] at h1
 omega
theorem Qlz (c:Cfg) (z:List Ev) : (Qar (Qas c z)).length ≤ z.length := Q4b (Qgp _) fun x hx => by
 unfold Qar at hx
 exact Qpl c z (Xz.1 hx)
theorem Qpx (c:Cfg) (z:List Ev) (a:ByteArray) : (Qci (Qas c z) a).length ≤ z.length := Q4b (Qgp _) fun x hx => by
 unfold Qci at hx
 exact Qpl c z (List.mem_filter.1 (Xz.1 hx)).1
theorem Qi8 {c:Cfg} {z:List Ev} (hm:∀ e ∈ z,Xj e = true) {x:ByteArray} (h:x ∈ Qar (Qas c z)) : Qi x = true := by
 unfold Qar at h
 obtain ⟨e,he,rfl⟩ := List.mem_map.1 (Qpl c z (Xz.1 h))
 exact (Qee hm he).2
theorem Ql9 {c:Cfg} {z:List Ev} (hm:∀ e ∈ z,Xj e = true) {a x:ByteArray} (h:x ∈ Qci (Qas c z) a) : Qi x = true := by
 unfold Qci at h
 obtain ⟨e,he,rfl⟩ := List.mem_map.1 (Qpl c z (List.mem_filter.1 (Xz.1 h)).1)
 exact (Qee hm he).2
theorem Q8l {S:List Sn} {a x:ByteArray} (h:x ∈ Qci S a) : a ≠ x := by
 unfold Qci at h
 rw [Xz,Qpy] at h
 exact h.1
theorem Q6i (width:Int) : ∀ z : List Ev,∀ r ∈ (Qe width z).rs,∀ t ∈ r.2,Qi t = true := by
 refine Qy (fun r hr => by simp [Qe,Q0x] at hr) fun z e ih r hr t ht => ?_
 rw [Qwq] at hr
 rcases List.mem_append.1 hr with hr | hr
 · exact ih r hr t ht
 · split at hr
   · rw [List.mem_singleton] at hr
     subst hr
     exact ((Q4f _).1 ht).2
   · cases hr
theorem Qxp {z:List Ev} (hm:∀ e ∈ z,Xj e = true) {x:ByteArray} (h:x ∈ Qzv z) : Qi x = true := by
 unfold Qzv at h
 obtain ⟨e,he,rfl⟩ := List.mem_map.1 (Xz.1 h)
 exact Qu7 hm he
theorem Q3a (z:List Ev) : (Qzv z).length ≤ z.length := by
 unfold Qzv
 have h1 := Qkx ((Qf1 z).map (·.person))
 have h2 : (Qf1 z).length ≤ z.length := List.length_filter_le peB z
 rw [List.length_map] at h1
 omega
theorem Qxy {z:List Ev} (hr:Rise z) (hm:∀ e ∈ z,Xj e = true) (hz:z.length < 1000) {width half now:Int} {person:ByteArray} {x:Ct} (h:x ∈ Q6q half now (rowsOf (Qe width z).rs person)) : Qi x.1 = true ∧ 0 < x.2 ∧ x.2 ≤ 1099511627776 := by
 have hrs := Qg8 width z hr hm
 have hrl := Q3q width z
 have hl2 : (rowsOf (Qe width z).rs person).length ≤ (Qe width z).rs.length := List.length_filter_le _ _
 unfold Q6q at h
 obtain ⟨h1,h2⟩ := List.mem_filter.1 h
 have h2 : 0 < x.2 := by simpa using h2
 have hg := Q88 half now x.1 (rowsOf (Qe width z).rs person) (fun r hr => ⟨(hrs r (List.mem_filter.1 hr).1).1,(hrs r (List.mem_filter.1 hr).1).2.1⟩) (by omega)
 have hk := Xh (Q4k half now (rowsOf (Qe width z).rs person)) (show (x.1,x.2) ∈ _ from h1)
 obtain ⟨g1,g2,g3,g4⟩ := hg
 rw [hk] at g1 g4
 obtain ⟨r,hr1,_,hr2⟩ := g4.1 rfl
 refine ⟨Q6i width z r (List.mem_filter.1 hr1).1 _ hr2,h2,?_⟩
 simp only [Option.getD_some] at g1
 omega
theorem Qtc {z:List Ev} (hr:Rise z) (hm:∀ e ∈ z,Xj e = true) (hz:z.length < 1000) (width half now:Int) (person:ByteArray) : (Q6q half now (rowsOf (Qe width z).rs person)).length ≤ 8000 := by
 have hrs := Qg8 width z hr hm
 have hrl := Q3q width z
 have hl2 : (rowsOf (Qe width z).rs person).length ≤ (Qe width z).rs.length := List.length_filter_le _ _
 have h2 := Qx2 half now (rowsOf (Qe width z).rs person)
 have h3 := Qvt (fun r:Row => r.2.length) 8 (rowsOf (Qe width z).rs person) fun r hr => (hrs r (List.mem_filter.1 hr).1).2.2
 unfold Q6q
 refine Nat.le_trans (List.length_filter_le _ _) ?_
 omega
theorem Q2c (l:List ByteArray) (h:∀ x ∈ l,Qi x = true) : (jnB l).size ≤ l.length * 25 := by
 have key : ∀ l : List ByteArray,(∀ x ∈ l,Qi x = true) → Lib.lens (l.map (·.data.toList)) ≤ l.length * 24 := by
  intro l
  induction l with
  | nil => intro _; exact Nat.le_refl _
  | cons x l ih =>
    intro h
    have h1 := ih fun y hy => h y (by simp [hy])
    have h2 := Qab (h x (by simp))
    have h3 : x.data.toList.length = x.size := rfl
    unfold Lib.lens at h1 ⊢
    simp only [List.map_cons,List.sum_cons,List.length_cons,Nat.succ_mul] at h1 ⊢
    omega
 have h1 := key l h
 unfold jnB
 rw [show ∀ a : List UInt8,(⟨a.toArray⟩ : ByteArray).size = a.length from fun a => by simp [ByteArray.size]]
 cases l with
 | nil => exact Nat.zero_le _
 | cons x l =>
   rw [List.map_cons,Lib.join_length]
   rw [List.map_cons] at h1
   simp only [List.length_cons,List.length_map,List.length_nil] at h1 ⊢
   omega
theorem Q1q {c:Cfg} (h:Qjv c = true) : (Q9j c).size ≤ 1000 := by
 obtain ⟨h1,h2,h3,_,h5,h6,h7⟩ := Q1r h
 have := Qb6 (K := 21) [Qk4,nB c.half,nB c.width,nB c.gap,nB c.span,nB c.floor,nB c.crowd] (by
  intro x hx
  simp only [List.mem_cons,List.not_mem_nil,or_false] at hx
  rcases hx with rfl | rfl | rfl | rfl | rfl | rfl | rfl
  · decide
  all_goals exact Qfx (by omega))
 unfold Q9j
 simp only [List.length_cons,List.length_nil] at this
 omega
theorem Q5h {e:Ev} (h:Xj e = true) : (evD e).size ≤ 30000000 := by
 have hs := Qrv (Qpw h (by have := Qd8 h; omega))
 have := Qb6 (K := 10000000) [Qq2,Qgx e] (by
  intro x hx
  simp only [List.mem_cons,List.not_mem_nil,or_false] at hx
  rcases hx with rfl | rfl
  · decide
  · exact hs)
 unfold evD
 simp only [List.length_cons,List.length_nil] at this
 omega
theorem Q6o {z:List Ev} (hm:∀ e ∈ z,Xj e = true) {now:Int} {name:ByteArray} (h:name ∈ Qc7 z now) : (thD z now name).size ≤ 10000 := by
 obtain ⟨e,he,rfl⟩ := names_in h
 have hn := Qab (Qor hm he)
 obtain ⟨b1,b2,b3,b4,b5⟩ := Q1m hm e.item now
 have := Qb6 (K := 1000) [Qq4,e.item,(X4 (Xd z) e.item now).1.maker,(X4 (Xd z) e.item now).1.tags,nB (X4 (Xd z) e.item now).1.price,nB (X4 (Xd z) e.item now).1.stock,nB (X4 (Xd z) e.item now).1.born] (by
  intro x hx
  simp only [List.mem_cons,List.not_mem_nil,or_false] at hx
  rcases hx with rfl | rfl | rfl | rfl | rfl | rfl | rfl
  · decide
  · omega
  · omega
  · omega
  all_goals exact Nat.le_trans (Qfx (by omega)) (by omega))
 unfold thD
 simp only [List.length_cons,List.length_nil] at this
 omega
theorem Q29 {x:Ct} (h:Qi x.1 = true ∧ 0 < x.2 ∧ x.2 ≤ 1099511627776) : (Qsi x).size ≤ 1000 := by
 have hn := Qab h.1
 have := Qb6 (K := 24) [Qir,x.1,nB x.2] (by
  intro y hy
  simp only [List.mem_cons,List.not_mem_nil,or_false] at hy
  rcases hy with rfl | rfl | rfl
  · decide
  · omega
  · exact Nat.le_trans (Qfx (by omega)) (by omega))
 unfold Qsi
 simp only [List.length_cons,List.length_nil] at this
 omega
theorem Qzs {z:List Ev} (hm:∀ e ∈ z,Xj e = true) (hz:z.length < 1000) (c:Cfg) {key:ByteArray} (h:Qi key = true) : (Qf0 z c key).size ≤ 1000 := by
 have hn := Qab h
 unfold Qf0
 rw [(Qcs c.width z).2.1]
 have hp := Qxn hm hz c.width key (0 / Qq c.width) ((1099511627776 + c.width) / Qq c.width)
 generalize paS (Qid c.width (z.filter wpB)) key (0 / Qq c.width) ((1099511627776 + c.width) / Qq c.width) = n at hp ⊢
 have := Qb6 (K := 24) [Qx8,key,nB n] (by
  intro y hy
  simp only [List.mem_cons,List.not_mem_nil,or_false] at hy
  rcases hy with rfl | rfl | rfl
  · decide
  · omega
  · exact Nat.le_trans (Qfx (by omega)) (by omega))
 simp only [List.length_cons,List.length_nil] at this
 omega
theorem Q6k {c:Cfg} {z:List Ev} (hm:∀ e ∈ z,Xj e = true) (hz:z.length < 1000) {q:Sn} (hq:q ∈ Qas c z) : (snD q).size ≤ 200000 := by
 obtain ⟨h1,h2,h3,h4⟩ := Q30 hm hq
 have hn := Qab h1
 have hl := Q32 c hz q hq
 have hj := Q2c q.items h4
 have := Qb6 (K := 25000) [Qis,q.person,nB q.from_,nB q.to_,jnB q.items] (by
  intro y hy
  simp only [List.mem_cons,List.not_mem_nil,or_false] at hy
  rcases hy with rfl | rfl | rfl | rfl | rfl
  · decide
  · omega
  · exact Nat.le_trans (Qfx (by omega)) (by omega)
  · exact Nat.le_trans (Qfx (by omega)) (by omega)
  · omega)
 unfold snD
 simp only [List.length_cons,List.length_nil] at this
 omega
theorem Qzp {S:List Sn} (hS:S.length < 1000) {a b:ByteArray} (ha:Qi a = true) (hb:Qi b = true) : (Qkh S a b).size ≤ 1000 := by
 have h1 := Qab ha
 have h2 := Qab hb
 have h3 := Qmh S a b
 unfold Qkh
 split
 · have := Qb6 (K := 24) [Qx7,a,b,nB (Qbv S a b)] (by
    intro y hy
    simp only [List.mem_cons,List.not_mem_nil,or_false] at hy
    rcases hy with rfl | rfl | rfl | rfl
    · decide
    · omega
    · omega
    · exact Nat.le_trans (Qfx (by omega)) (by omega))
   simp only [List.length_cons,List.length_nil] at this
   omega
 · exact Nat.zero_le _
theorem Qvz {person:ByteArray} {x:Ct} (hp:Qi person = true) (h:Qi x.1 = true ∧ 0 < x.2 ∧ x.2 ≤ 1099511627776) : (Qf6 person x).size ≤ 1000 := by
 have h1 := Qab hp
 have h2 := Qab h.1
 have := Qb6 (K := 24) [Qq3,person,x.1,nB x.2] (by
  intro y hy
  simp only [List.mem_cons,List.not_mem_nil,or_false] at hy
  rcases hy with rfl | rfl | rfl | rfl
  · decide
  · omega
  · omega
  · exact Nat.le_trans (Qfx (by omega)) (by omega))
 unfold Qf6
 simp only [List.length_cons,List.length_nil] at this
 omega
theorem Qmw {l:List Ct} {x:Ct} : x ∈ Qb9 l ↔ x ∈ l := (Qgq l).mem_iff
theorem Qmv (l:List Ct) : (Qb9 l).length = l.length := (Qgq l).length_eq
theorem Q1x {c:Cfg} {z:List Ev} (hc:Qjv c = true) (hr:Rise z) (hm:∀ e ∈ z,Xj e = true) (hz:z.length < 1000) (now:Int) : (Q5d c z now).size ≤ 100000000000 := by
 have s1 := Q1q hc
 have s2 := Qa2 (K := 30000000) evD z fun e he => Q5h (hm e he)
 have s3 := Qa2 (K := 10000) (thD z now) (Qc7 z now) fun x hx => Q6o hm hx
 have n3 := Qsb z now
 have hds := (Qcs c.width z).1
 have hps := (Qcs c.width z).2.1
 have s4 := Qa2 (K := 1000) Qsi (Qb9 (Qbj (Qe c.width z).ds (Qq c.half) now)) fun x hx => by
  rw [hds] at hx
  exact Q29 (Q4h hm hz (Qmw.1 hx))
 have n4 := Qx0 z (Qq c.half) now
 rw [Qmv] at s4
 rw [← hds] at n4
 have s5 := Qa2 (K := 1000) (Qf0 z c) (Qat (Qe c.width z).ps (0 / Qq c.width) ((1099511627776 + c.width) / Qq c.width)) fun x hx => by
  rw [hps] at hx
  exact Qzs hm hz c (Qw5 hm hx)
 have n5 := Qry z c.width (0 / Qq c.width) ((1099511627776 + c.width) / Qq c.width)
 rw [← hps] at n5
 have s6 := Qa2 (K := 200000) snD (Qas c z) fun q hq => Q6k hm hz hq
 have n6 := (Q0w c z hm hz).len
 have s7 := Qa2 (K := 1000000) (Qd9 (Qas c z)) (Qar (Qas c z)) fun a ha => by
  have h1 := Qa2 (K := 1000) (Qkh (Qas c z) a) (Qci (Qas c z) a) fun b hb => Qzp n6 (Qi8 hm ha) (Ql9 hm hb)
  have h2 := Qpx c z a
  have h3 : (Qci (Qas c z) a).length * 1000 ≤ 1000 * 1000 := Nat.mul_le_mul_right _ (by omega)
  unfold Qd9
  omega
 have n7 := Qlz c z
 have s8 := Qa2 (K := 8000000) (Qio z c now) (Qzv z) fun p hp => by
  have h1 := Qa2 (K := 1000) (Qf6 p) (Qb9 (Q6q (Qq c.half) now (rowsOf (Qe c.width z).rs p))) fun x hx => Qvz (Qxp hm hp) (Qxy hr hm hz (Qmw.1 hx))
  have h2 := Qtc hr hm hz c.width (Qq c.half) now p
  rw [Qmv] at h1
  unfold Qio
  omega
 have n8 := Q3a z
 have m2 : z.length * 30000000 ≤ 1000 * 30000000 := Nat.mul_le_mul_right _ (by omega)
 have m3 : (Qc7 z now).length * 10000 ≤ 1000 * 10000 := Nat.mul_le_mul_right _ (by omega)
 have m4 : (Qbj (Qe c.width z).ds (Qq c.half) now).length * 1000 ≤ 1000 * 1000 := Nat.mul_le_mul_right _ (by omega)
 have m5 : (Qat (Qe c.width z).ps (0 / Qq c.width) ((1099511627776 + c.width) / Qq c.width)).length * 1000 ≤ 1000 * 1000 := Nat.mul_le_mul_right _ (by omega)
 have m6 : (Qas c z).length * 200000 ≤ 1000 * 200000 := Nat.mul_le_mul_right _ (by omega)
 have m7 : (Qar (Qas c z)).length * 1000000 ≤ 1000 * 1000000 := Nat.mul_le_mul_right _ (by omega)
 have m8 : (Qzv z).length * 8000000 ≤ 1000 * 8000000 := Nat.mul_le_mul_right _ (by omega)
 unfold Q5d
 simp only [ByteArray.size_append]
 omega
end Go.Proofs.YteabekcdcphjpaaGreatDoor
namespace Go.Proofs.YteabekcdcphjpaaGreatDoor
open Go.Se Go.RowKit Go.Shelf
theorem BlG.new {w w1:World} {b:Nat} (hn:New w w1 b (.cells #[.pointer none,.slice none 0 0] 74)) : BlG w1 w.heap.size b ⟨#[]⟩ none := by
 have hat : w1.heap[b]? = some (.cells #[.pointer none,.slice none 0 0] 74 (0,0)) := hn.at_
 refine ⟨.inl ⟨by rw [hn.block]; exact Nat.le_refl _,.slice none 0 0,hat,⟨rfl,.inl ⟨rfl,rfl⟩⟩,by simp [Value.ownBlock]⟩,fun p v T fz h => ?_,hn.ext.size⟩
 rw [hat] at h
 simp at h
 obtain ⟨⟨_,rfl⟩,_⟩ := h
 rfl
theorem BlG.keep {w w':World} {B b:Nat} {s:ByteArray} {g:Option Nat} (h:BlG w B b s g) (hb:w'.heap[b]? = w.heap[b]?) (hg:∀ k,g = some k → w'.heap[k]? = w.heap[k]?) (hsz:w.heap.size ≤ w'.heap.size) : BlG w' B b s g := by
 have bat : ∀ p,Lib.BuilderAt 74 5 B b p (Lib.strCells s) w → Lib.BuilderAt 74 5 B b p (Lib.strCells s) w' := by
  rintro p ⟨hB,v,hbk,hown,hne⟩
  have hv := h.row _ _ _ _ hbk
  refine ⟨hB,v,by rw [hb]; exact hbk,⟨hown.1,?_⟩,hne⟩
  rcases hown.2 with h0 | ⟨g1,cap,cur,hv1,hbg,hg1,r⟩
  · exact .inl h0
  · exact .inr ⟨g1,cap,cur,hv1,hbg,by rw [hg g1 (by rw [← hv,hv1]; rfl)]; exact hg1,r⟩
 refine ⟨h.is.imp (bat _) (bat _),fun p2 v2 T2 fz2 h2 => ?_,Nat.le_trans h.size hsz⟩
 rw [hb] at h2
 exact h.row _ _ _ _ h2
section
variable {w w':World} {B b:Nat} {g g':Option Nat} {T:Nat → Prop} {p:Nat} {c:Cfg} {z:List Ev} {s s':ByteArray}
structure Dg (w:World) (B b:Nat) (g:Option Nat) (T:Nat → Prop) (p:Nat) (c:Cfg) (z:List Ev) (s:ByteArray) : Prop where
 bl : BlG w B b s g
 wt : WT w T p c z
 safe : ∀ k,T k → Safe b g k
 gl : Gl w
 ten : 10 ≤ B
theorem Dg.ext (h:Dg w B b g T p c z s) (hx:Ext w w') : Dg w' B b g T p c z s := ⟨h.bl.ext (fun k _ hk => hx.block k hk) hx.size,h.wt.ext hx,h.safe,h.gl.ext hx,h.ten⟩
theorem Dg.wrt (h:Dg w B b g T p c z s) (hw:Wrt b g w g' w') (hb:BlG w' B b s' g') : Dg w' B b g' T p c z s' := by
 have hl := h.bl.lt
 have ht := h.ten
 exact ⟨hb,h.wt.keep fun k hk => hw.block (h.safe k hk) (h.wt.lt k hk),fun k hk => hw.safe (h.safe k hk) (h.wt.lt k hk),h.gl.mod hw.mod (fun k hk => hk.elim (fun e => by omega) fun e => by have := (hl.2.2 k e).1; omega),ht⟩
theorem BlG.safe_new (h:BlG w B b s g) {k:Nat} (hk:w.heap.size ≤ k) : Safe b g k := ⟨fun e => by have := h.lt.2.1; omega,fun e => by have := (h.lt.2.2 k e).2; omega⟩
theorem BlG.safe_old (h:BlG w B b s g) {k:Nat} (hk:k < B) : Safe b g k := ⟨fun e => by have := h.lt.1; omega,fun e => by have := (h.lt.2.2 k e).1; omega⟩
end
structure SlS {α:Type} (enc:α → List Value) (sz:Nat) (w:World) (b:Nat) (g:Option Nat) (A:Option Addr) (l:List α) : Prop where
 sl : Sl enc sz w A l
 safe : l ≠ [] → ∀ a,A = some a → Safe b g a.block ∧ a.block < w.heap.size
section
variable {α:Type} {enc:α → List Value} {sz:Nat} {w w' w0:World} {B b:Nat} {g g':Option Nat} {A:Option Addr} {l:List α} {s:ByteArray}
theorem SlS.wrt (h:SlS enc sz w b g A l) (hw:Wrt b g w g' w') : SlS enc sz w' b g' A l := by
 by_cases hl : l = []
 · subst hl
   exact ⟨fun i x hi => by simp at hi,fun h => absurd rfl h⟩
 · exact ⟨hw.sl h.sl fun a ha => (h.safe hl a ha).1,fun _ a ha => ⟨hw.safe (h.safe hl a ha).1 (h.safe hl a ha).2,Nat.lt_of_lt_of_le (h.safe hl a ha).2 hw.size⟩⟩
theorem SlS.ext (h:SlS enc sz w b g A l) (hx:Ext w w') : SlS enc sz w' b g A l := h.wrt (Wrt.ext hx)
theorem Qso (hs:Sl enc sz w A l) (hpos:∀ x,0 < (enc x).length) (hl:l ≠ []) {a:Addr} (ha:A = some a) : a.block < w.heap.size := by
 cases l with
 | nil => exact absurd rfl hl
 | cons x l =>
   obtain ⟨a',ha',hc⟩ := hs 0 x rfl
   obtain rfl : a = a' := by rw [ha] at ha'; simpa using ha'
   have hp := hpos x
   have := cell_lt (hc 0 ((enc x)[0]) (List.getElem?_eq_getElem hp))
   rwa [add_block,add_block] at this
end
theorem one_pos (x:ByteArray) : 0 < (Qbr x).length := Nat.zero_lt_one
theorem Q4l (x:Ct) : 0 < (Qd4 x).length := Nat.zero_lt_succ 1
theorem Qv9 (ws:List ByteArray) (k:Nat) : (Qd0 (ws.take k)).size ≤ (Qd0 ws).size := by
 cases ws with
 | nil => simp
 | cons w ws =>
   cases k with
   | zero => exact Nat.zero_le _
   | succ k =>
     have := Qbu (fun x => spB ++ Xt x) ws k
     show (Xt w ++ X5 ((ws.take k).map fun x => spB ++ Xt x)).size ≤ (Xt w ++ X5 (ws.map fun x => spB ++ Xt x)).size
     rw [ByteArray.size_append,ByteArray.size_append]
     omega
set_option maxHeartbeats 2000000 in
theorem Q2m {w:World} {B b:Nat} {g:Option Nat} {s:ByteArray} (h:BlG w B b s g) (ws:List ByteArray) (A:Option Addr) (c:Nat) (hs:SlS Qbr 1 w b g A ws) (hn:ws.length < 1000) (hl:(s ++ Qdb ws).size ≤ 140737488355328) :
 Cal Tryz.prog 36 [.slice A ws.length c,.pointer (some ⟨b,0,none⟩)] w fun r w' => r = .tuple #[] ∧ ∃ g',BlG w' B b (s ++ Qdb ws) g' ∧ Wrt b g w g' w' := by
 have hnl := Qu2
 have hsp : spB.size = 1 := rfl
 have hsz : s.size + ((Qd0 ws).size + 1) ≤ 140737488355328 := by
  unfold Qdb at hl
  rw [ByteArray.size_append,ByteArray.size_append,hnl] at hl
  exact hl
 have h0 : BlG w B b (s ++ Qd0 (ws.take 0)) g := by
  show BlG w B b (s ++ Qd0 []) g
  unfold Qd0
  rw [Qcm]
  exact h
 refine Fi Tryz.func36 rfl _ rfl rfl ?_;conv=>whnf
 refine Qg Qa (fun (q:Nat × Option Nat) w' => q.1 ≤ ws.length ∧ BlG w' B b (s ++ Qd0 (ws.take q.1)) q.2 ∧ Wrt b g w q.2 w' ∧ SlS Qbr 1 w' b q.2 A ws)
  (fun | (k,_) => [(1,.pointer (some ⟨b,0,none⟩)),(5,.slice A ws.length c),(6,.int .i64 ws.length),(7,.int .i64 (k:Nat))]) (fun q => ws.length - q.1) (0,g) ⟨Nat.zero_le _,h0,Wrt.refl,hs⟩ ⟨rfl,rfl,rfl,rfl,trivial⟩ ?_
 clear h0
 rintro ⟨k,g1⟩ w1 ⟨hk,hb,hw,hsl⟩
 simp only at hk hb hw hsl
 conv=>whnf
 constructor
 · intro hlt
   have hlt : k < ws.length := by simpa using hlt
   obtain ⟨a,rfl,hc⟩ := hsl.sl.get hlt
   have htk := Qwb ws k hlt
   have hpk := Qv9 ws (k + 1)
   generalize ws[k] = x at hc htk
   generalize Qd0 (ws.take k) = u at htk hb
   have hsx := congrArg ByteArray.size htk
   rw [ByteArray.size_append] at hsx
   conv=>whnf
   refine Qb Qa ?_;conv=>whnf
   refine ⟨a,⟨rfl,by omega,by omega⟩,?_⟩;conv=>whnf
   refine ⟨.string x,Qv hc,?_⟩;conv=>whnf
   refine Q9 Qa (ι := Option Nat) (fun _ => [(1,.pointer (some ⟨b,0,none⟩)),(4,.string x),(5,.slice (some a) ws.length c),(6,.int .i64 ws.length),(7,.int .i64 (k:Nat))])
    (fun g2 w' => BlG w' B b (s ++ (if 0 < k then u ++ spB else u)) g2 ∧ Wrt b g w g2 w' ∧ SlS Qbr 1 w' b g2 (some a) ws) ?_ ?_
   · (conv=>whnf)
     constructor
     · intro hk0
       have hk0 : 0 < k := by simpa using hk0
       rw [if_pos hk0,ByteArray.size_append] at hsx
       rw [if_pos hk0]
       conv=>whnf
       refine (Q4n 32 spB rfl hb (by rw [ByteArray.size_append]; omega)).mono ?_
       rintro _ w2 ⟨rfl,g2,hb2,hw2⟩;conv=>whnf
       rw [ByteArray.append_assoc] at hb2
       exact ⟨g2,⟨hb2,hw.trans hw2,hsl.wrt hw2⟩,⟨rfl,rfl,rfl,rfl,rfl,trivial⟩⟩
     · intro hk0
       have hk0 : ¬ 0 < k := by simpa using hk0
       rw [if_neg hk0]
       conv=>whnf
       exact ⟨g1,⟨hb,hw,hsl⟩,⟨rfl,rfl,rfl,rfl,rfl,trivial⟩⟩
   clear hb hw hsl hc
   rintro g2 w2 ⟨hb,hw,hsl⟩
   generalize (if 0 < k then u ++ spB else u) = y at htk hsx hb
   conv=>whnf
   refine Q9 Qa (ι := Unit) (fun _ => [(1,.pointer (some ⟨b,0,none⟩)),(4,.string (Xt x)),(5,.slice (some a) ws.length c),(6,.int .i64 ws.length),(7,.int .i64 (k:Nat))]) (fun _ w' => w' = w2) ?_ ?_
   · (conv=>whnf)
     constructor
     · intro he
       have he : x = ⟨#[]⟩ := by simpa using he
       rw [show Xt x = ⟨#[46]⟩ by rw [he]; rfl]
       conv=>whnf
       exact ⟨(),rfl,⟨rfl,rfl,rfl,rfl,rfl,trivial⟩⟩
     · intro he
       have he : ¬ x = ⟨#[]⟩ := by simpa using he
       rw [show Xt x = x by unfold Xt; rw [decide_eq_false he]; rfl]
       conv=>whnf
       exact ⟨(),rfl,⟨rfl,rfl,rfl,rfl,rfl,trivial⟩⟩
   rintro _ w3 rfl
   conv=>whnf
   refine (Q9g (Xt x) hb (by rw [ByteArray.size_append]; omega)).mono ?_
   rintro _ w4 ⟨rfl,g4,hb4,hw4⟩
   rw [ByteArray.append_assoc,← htk] at hb4
   (conv=>whnf);repeat(refine Sg ?_;(conv=>whnf))
   refine ⟨_,wrap_succ (by omega),?_⟩;conv=>whnf
   exact ⟨(k + 1,g4),by simp only; omega,⟨by simp only; omega,hb4,hw.trans hw4,hsl.wrt hw4⟩,⟨rfl,rfl,rfl,rfl,trivial⟩⟩
 · intro hge
   have hge : ws.length ≤ k := by simpa using hge
   rw [List.take_of_length_le hge] at hb
   conv=>whnf
   refine (Q4n 10 nlB rfl hb (by rw [ByteArray.size_append]; omega)).mono ?_
   rintro _ w2 ⟨rfl,g2,hb2,hw2⟩;conv=>whnf
   rw [ByteArray.append_assoc] at hb2
   exact ⟨rfl,g2,hb2,hw.trans hw2⟩
section
variable {w w1 w':World} {B b:Nat} {g g':Option Nat} {T:Nat → Prop} {p:Nat} {c:Cfg} {z:List Ev} {s:ByteArray}
theorem Dg.line (h:Dg w B b g T p c z s) (ws:List ByteArray) {k:Nat} {L:List Value} (hL:L = ws.map Value.string) (hn:New w w1 k (.cells L.toArray 9)) (hl1:ws.length < 1000) (hl:(s ++ Qdb ws).size ≤ 140737488355328) (n:Nat) (hws:n = ws.length) :
 Cal Tryz.prog 36 [.slice (some ⟨k,0,none⟩) n n,.pointer (some ⟨b,0,none⟩)] w1 fun r w' => r = .tuple #[] ∧ ∃ g',Dg w' B b g' T p c z (s ++ Qdb ws) ∧ Wrt b g w g' w' := by
 subst hL hws
 have hx := hn.ext
 have hs : SlT w1 (some ⟨k,0,none⟩) ws := Qcf (enc := Qbr) X0 (l := ws) (by rw [show Qbr = fun x => [Value.string x] from rfl,Qgk]; exact hn)
 have h1 := h.ext hx
 have hss : SlS Qbr 1 w1 b g (some ⟨k,0,none⟩) ws := ⟨hs,fun _ a ha => by
  have ha : (⟨k,0,none⟩ : Addr) = a := by simpa using ha
  subst ha
  have e := hn.block
  have z1 := hn.size
  exact ⟨h.bl.safe_new (by simp only; omega),by simp only; omega⟩⟩
 refine (Q2m h1.bl ws _ _ hss hl1 hl).mono ?_
 rintro r w' ⟨hr,g',hb',hw'⟩
 exact ⟨hr,g',h1.wrt hw' hb',(Wrt.ext hx).trans hw'⟩
end
theorem Q2n {cs:List Ev} {t:Int} {x:ByteArray} (h:Qe4 cs t x = true) : x ∈ cs.map (·.item) := by
 cases hr : Q3 cs x with
 | nil =>
   unfold Qe4 X4 at h
   rw [hr] at h
   simp at h
 | cons s l =>
   obtain ⟨e,he,hi,_⟩ := (Qny x s.at_ cs).1 (by rw [hr]; simp)
   exact List.mem_map.2 ⟨e,he,hi⟩
theorem Q5x {z:List Ev} {now:Int} {K:List ByteArray} (hn:K.Nodup) (hm:∀ x,x ∈ K ↔ Qe4 (Xd z) now x = true) : Xr K = Qc7 z now :=
 Qhj hn fun x => by
  rw [hm,List.mem_filter]
  exact ⟨fun h => ⟨Q2n h,h⟩,fun h => h.2⟩
theorem Dg.wql {w:World} {B b:Nat} {g:Option Nat} {T:Nat → Prop} {p:Nat} {c:Cfg} {z:List Ev} {s:ByteArray} (h:Dg w B b g T p c z s) : ∃ v T0 col q A n cap any last,WQL w T0 p c z v col q A n cap any last ∧ (∀ x ∈ z,Xj x = true) ∧ Rise z := by
 obtain ⟨v,T0,hQ,_,_,_⟩ := h.wt
 obtain ⟨col,q,A,n,cap,any,last,hL⟩ := hQ.at_
 exact ⟨v,T0,col,q,A,n,cap,any,last,hL,hQ.may,hQ.rise⟩
set_option maxHeartbeats 4000000 in
theorem Qtn {w:World} {B b:Nat} {g:Option Nat} {T:Nat → Prop} {p:Nat} {c:Cfg} {z:List Ev} {s:ByteArray} (h:Dg w B b g T p c z s) (hz:z.length < 1000) (now:Int) (hl:s.size + (X5 ((Qc7 z now).map (thD z now))).size ≤ 140737488355328) :
 Cal Tryz.prog 41 [.pointer (some ⟨p,0,none⟩),.int .i64 now,.func (.func 36) #[] #[.pointer (some ⟨b,0,none⟩)]] w fun r w' => r = .tuple #[] ∧ ∃ g',Dg w' B b g' T p c z (s ++ X5 ((Qc7 z now).map (thD z now))) ∧ Wrt b g w g' w' := by
 obtain ⟨v,T0,col,q,A,n,cap,any,last,hL,hm,_⟩ := h.wql
 have hc := hL.cts.cat
 rw [(Qdr c.width z).1] at hc
 have htl : (Xd z).length ≤ z.length := List.length_filter_le thB z
 have hrows : ∀ name,(Q3 (Xd z) name).length < 1000000000000 := fun name => by
  have := (Qcr (Xd z) (Qtd hm) name).1
  omega
 refine Fi Tryz.func41 rfl _ rfl rfl ?_;conv=>whnf
 refine ⟨_,hL.head.one rfl,?_⟩; (conv=>whnf);repeat(refine Sg ?_;(conv=>whnf))
 refine (Qu0 w _ q.pc _ hc now hrows (by omega)).mono ?_
 rintro _ w1 ⟨A1,c1,K,rfl,hs1,hK,hKm,hKl,hA1,hx1⟩
 have hD1 := h.ext hx1
 have hsl1 : SlS Qbr 1 w1 b g A1 (Xr K) := ⟨hs1,fun hne a ha => ⟨h.bl.safe_new (hA1 a ha),Qso hs1 one_pos hne ha⟩⟩
 rw [Q5x hK hKm] at hsl1 ⊢
 have hnl := Qsb z now
 have hnn : ∀ x ∈ Qc7 z now,Qi x = true := fun x hx => by
  obtain ⟨e,he,rfl⟩ := names_in hx
  exact Qor hm he
 have hw1 : Wrt b g w g w1 := Wrt.ext hx1
 clear hs1 hK hKm hKl hA1 hc hL
 generalize hNs : Qc7 z now = names at hsl1 hl hnl ⊢
 have h0 : Dg w1 B b g T p c z (s ++ X5 ((names.take 0).map (thD z now))) := by
  show Dg w1 B b g T p c z (s ++ X5 [])
  rw [Qbx,Qcm]
  exact hD1
 (conv=>whnf);repeat(refine Sg ?_;(conv=>whnf))
 refine Qg Qa (fun (x:Nat × Option Nat) w' => x.1 ≤ names.length ∧ Dg w' B b x.2 T p c z (s ++ X5 ((names.take x.1).map (thD z now))) ∧ Wrt b g w x.2 w' ∧ SlS Qbr 1 w' b x.2 A1 names)
  (fun | (k,_) => [(0,.pointer (some ⟨p,0,none⟩)),(1,.int .i64 now),(2,.func (.func 36) #[] #[.pointer (some ⟨b,0,none⟩)]),(15,.slice A1 names.length c1),(16,.int .i64 names.length),(17,.int .i64 (k:Nat))]) (fun x => names.length - x.1) (0,g) ⟨Nat.zero_le _,h0,hw1,hsl1⟩ ⟨rfl,rfl,rfl,rfl,rfl,rfl,trivial⟩ ?_
 clear h0 hw1 hsl1 hD1 hx1
 rintro ⟨k,g1⟩ w2 ⟨hk,hD,hw,hsl⟩
 simp only at hk hD hw hsl
 conv=>whnf
 constructor
 · intro hlt
   have hlt : k < names.length := by simpa using hlt
   obtain ⟨a,rfl,hca⟩ := hsl.sl.get hlt
   have htk := Xv (thD z now) names k hlt
   have hpk := Qbu (thD z now) names (k + 1)
   rw [htk,ByteArray.size_append] at hpk
   have hib := Q1m hm names[k] now
   have hth : thD z now names[k] = Qdb [Qq4,names[k],(X4 (Xd z) names[k] now).1.maker,(X4 (Xd z) names[k] now).1.tags,nB (X4 (Xd z) names[k] now).1.price,nB (X4 (Xd z) names[k] now).1.stock,nB (X4 (Xd z) names[k] now).1.born] := rfl
   rw [hth] at htk hpk
   generalize names[k] = x at hca htk hpk hib
   generalize X5 ((names.take k).map (thD z now)) = u at htk hpk hD
   (conv=>whnf);repeat(refine Sg ?_;(conv=>whnf))
   refine ⟨a,⟨rfl,by omega,by omega⟩,?_⟩; (conv=>whnf);repeat(refine Sg ?_;(conv=>whnf))
   refine ⟨.string x,Qv hca,?_⟩; (conv=>whnf);repeat(refine Sg ?_;(conv=>whnf))
   obtain ⟨v2,T2,col2,q2,A2,n2,cap2,any2,last2,hL2,_,_⟩ := hD.wql
   have hc2 := hL2.cts.cat
   rw [(Qdr c.width z).1] at hc2
   refine ⟨_,hL2.head.one rfl,?_⟩; (conv=>whnf);repeat(refine Sg ?_;(conv=>whnf))
   refine (Qgb w2 _ q2.pc _ hc2 x now (hrows x)).mono ?_
   rintro _ w3 ⟨rfl,hx3⟩
   clear hL2 hc2
   generalize (X4 (Xd z) x now).2 = ok
   generalize (X4 (Xd z) x now).1 = it at htk hpk hib
   obtain ⟨b1,b2,b3,b4,b5⟩ := hib
   (conv=>whnf);repeat(refine Sg ?_;(conv=>whnf))
   intro b8 w4 hn4; (conv=>whnf);repeat(refine Sg ?_;(conv=>whnf))
   refine Qj Qa (e := ty165) rfl hn4.At rfl rfl rfl (by simp [Qm,itC,Value.oneCell']) fun w5 h5 ho5 => ?_
   have h5 : At w5 b8 165 (itC it) := h5
   have hx25 : Ext w2 w5 := ho5.ext (hx3.trans hn4.ext) (by rw [hn4.block]; exact hx3.size)
   clear ho5 hn4 hx3
   (conv=>whnf);repeat(refine Sg ?_;(conv=>whnf))
   refine Dr .ext [0,1,2,3,4,5,6,7,9,10,12,13,8,11,14,15] [16] ?_;conv=>whnf
   have hxd : Ext w5 w5.drew := (Ext.refl w5).drew
   replace hx25 := hx25.trans hxd
   replace h5 := h5.ext hxd
   clear hxd
   generalize w5.drew = w6 at hx25 h5 ⊢
   refine ⟨.string it.maker,h5.one rfl,?_⟩;conv=>whnf
   refine ⟨.string it.tags,h5.one rfl,?_⟩;conv=>whnf
   refine ⟨.int .i64 it.price,h5.one rfl,?_⟩;conv=>whnf
   refine ⟨.int .i64 it.stock,h5.one rfl,?_⟩;conv=>whnf
   refine ⟨.int .i64 it.born,h5.one rfl,?_⟩;conv=>whnf
   have hD6 := hD.ext hx25
   refine (Qah it.price w6 hD6.gl b3.1 (by omega)).mono ?_
   rintro _ w7 ⟨rfl,hx7⟩
   refine ⟨hx7,?_⟩;conv=>whnf
   refine (Qah it.stock w7 (hD6.gl.ext hx7) b4.1 (by omega)).mono ?_
   rintro _ w8 ⟨rfl,hx8⟩
   refine ⟨hx8,?_⟩;conv=>whnf
   refine (Qah it.born w8 ((hD6.gl.ext hx7).ext hx8) b5.1 (by omega)).mono ?_
   rintro _ w9 ⟨rfl,hx9⟩
   refine ⟨hx9,?_⟩;conv=>whnf
   have hx29 := ((hx25.trans hx7).trans hx8).trans hx9
   have hD9 := hD.ext hx29
   intro b10 w10 hn10
   refine ⟨hn10.ext,?_⟩;conv=>whnf
   refine (hD9.line [Qq4,x,it.maker,it.tags,nB it.price,nB it.stock,nB it.born] rfl hn10 (by simp) (by rw [ByteArray.size_append,ByteArray.size_append]; omega) 7 rfl).mono ?_
   rintro _ w11 ⟨rfl,g11,hD11,hw11⟩
   rw [ByteArray.append_assoc,← htk] at hD11
   (conv=>whnf);repeat(refine Sg ?_;(conv=>whnf))
   refine ⟨_,wrap_succ (by omega),?_⟩; (conv=>whnf);repeat(refine Sg ?_;(conv=>whnf))
   have hw2 : Wrt b g1 w2 g11 w11 := (Wrt.ext hx29).trans hw11
   exact ⟨(k + 1,g11),by simp only; omega,⟨by simp only; omega,hD11,hw.trans hw2,hsl.wrt hw2⟩,⟨rfl,rfl,rfl,rfl,rfl,rfl,trivial⟩⟩
 · intro hge
   have hge : names.length ≤ k := by simpa using hge
   rw [List.take_of_length_le hge] at hD
   (conv=>whnf);repeat(refine Sg ?_;(conv=>whnf))
   exact ⟨rfl,g1,hD,hw⟩
end Go.Proofs.YteabekcdcphjpaaGreatDoor
namespace Go.Proofs.YteabekcdcphjpaaGreatDoor
open Go.Se Go.RowKit
open Go.Maps Go.Sort Go.Shelf
theorem Qjb (mb:Option Nat) (w:World) : Cal Tryz.prog 95 [.map mb] w fun r w' => r = .func (.func 168) #[] #[.pointer (some ⟨w.heap.size,0,none⟩)] ∧ w'.cell? ⟨w.heap.size,0,none⟩ = some (.map mb) ∧ Ext w w' :=
 Qfu Tryz.keys95 ⟨_,Tryz.func95,rfl,rfl⟩ mb w
theorem Qkc {w:World} {Bm b:Nat} {L:List (ByteArray × Value)} (hc:w.cell? ⟨Bm,0,none⟩ = some (.map (some b))) (hm:MapAt w b Value.string L) (hk:∀ x ∈ L,x.1.size ≤ 1000000) (hl:L.length ≤ 1000000000) :
 Cal Tryz.prog 94 [.func (.func 168) #[] #[.pointer (some ⟨Bm,0,none⟩)]] w fun r w' => ∃ A c,r = .slice A (Xr (L.map (·.1))).length c ∧ Own Qbr 1 9 w.heap.size w' A c (Xr (L.map (·.1))) ∧ Ext w w' := by
 obtain ⟨N,Q,h1,h2,h3⟩ := Qh4 { Tryz.keys95 with } hc hm hk hl
 exact Qc2 Tryz.sorted94 Qs0 (enters_of Tryz.func92 (by kernel_rfl) rfl) (enters_of Tryz.func168 (by kernel_rfl) rfl) ⟨_,Tryz.func94,rfl,rfl⟩ h2 h1 h3
theorem Qvn {w:World} {Bm:Nat} (hc:w.cell? ⟨Bm,0,none⟩ = some (.map none)) :
 Cal Tryz.prog 94 [.func (.func 168) #[] #[.pointer (some ⟨Bm,0,none⟩)]] w fun r w' => ∃ A c,r = .slice A 0 c ∧ Own Qbr 1 9 w.heap.size w' A c [] ∧ Ext w w' := by
 have := Qc2 Tryz.sorted94 Qs0 (enters_of Tryz.func92 (by kernel_rfl) rfl) (enters_of Tryz.func168 (by kernel_rfl) rfl) ⟨_,Tryz.func94,rfl,rfl⟩ (l := []) (fun ss (h:ss = []) => by rw [h]; exact List.Perm.refl _) (Nat.zero_le _) (AnyZ.keys_gives_nil { Tryz.keys95 with } Fence.wide 2 trivial rfl Bm w (cell_lt hc) hc)
 simp only [Qih,Qmy,List.length_nil] at this
 exact this
theorem Qy5 (mb:Option Nat) (w:World) : Cal Tryz.prog 107 [.map mb] w fun r w' => r = .func (.func 179) #[] #[.pointer (some ⟨w.heap.size,0,none⟩)] ∧ w'.cell? ⟨w.heap.size,0,none⟩ = some (.map mb) ∧ Ext w w' :=
 Qfu Tryz.keys107 ⟨_,Tryz.func107,rfl,rfl⟩ mb w
theorem Qsw {w:World} {Bm b:Nat} {L:List (ByteArray × Value)} (hc:w.cell? ⟨Bm,0,none⟩ = some (.map (some b))) (hm:MapAt w b Value.string L) (hk:∀ x ∈ L,x.1.size ≤ 1000000) (hl:L.length ≤ 1000000000) :
 Cal Tryz.prog 94 [.func (.func 179) #[] #[.pointer (some ⟨Bm,0,none⟩)]] w fun r w' => ∃ A c,r = .slice A (Xr (L.map (·.1))).length c ∧ Own Qbr 1 9 w.heap.size w' A c (Xr (L.map (·.1))) ∧ Ext w w' := by
 obtain ⟨N,Q,h1,h2,h3⟩ := Qh4 { Tryz.keys107 with } hc hm hk hl
 exact Qc2 Tryz.sorted94 Qs0 (enters_of Tryz.func92 (by kernel_rfl) rfl) (enters_of Tryz.func179 (by kernel_rfl) rfl) ⟨_,Tryz.func94,rfl,rfl⟩ h2 h1 h3
theorem Qe8 (w:World) (S:Nat → Prop) (p:Nat) (Ss:List Sn) (h:X3 w S p Ss) (hn:∀ x ∈ Qar Ss,x.size ≤ 1000000) (hl:(Qar Ss).length ≤ 1000000) :
 Cal Tryz.prog 30 [.pointer (some ⟨p,0,none⟩)] w fun r w' => ∃ A c,r = .slice A (Qar Ss).length c ∧ SlT w' A (Qar Ss) ∧ (∀ a,A = some a → w.heap.size ≤ a.block) ∧ Ext w w' := by
 obtain ⟨t,sh,hp,⟨sg,ct,b1,b2,hL,hI⟩,_⟩ := h
 have hm := hL.sg
 have hkn : sg.Pairwise (fun x y => x.1 ≠ y.1) := by
  have := hm.keys
  unfold Xk at this
  rw [List.pairwise_map] at this
  exact this
 have hit := hI.items hkn
 have hk1 : (Xk vi sg).map (·.1) = sg.map (·.1) := by unfold Xk; rw [List.map_map]; rfl
 have hsl : sg.length ≤ 1000000 := by
  have := congrArg List.length hit
  rw [Qcg,List.length_map] at this
  omega
 have hk : ∀ x ∈ Xk vi sg,x.1.size ≤ 1000000 := fun x hx => by
  have h1 : x.1 ∈ (Xk vi sg).map (·.1) := List.mem_map.2 ⟨x,hx,rfl⟩
  rw [hk1,← Qdy,hit] at h1
  exact hn _ h1
 refine Fi Tryz.func30 rfl _ rfl rfl ?_;conv=>whnf
 refine ⟨_,hp.one rfl,?_⟩; (conv=>whnf);repeat(refine Sg ?_;(conv=>whnf))
 refine ⟨_,hL.head.one rfl,?_⟩; (conv=>whnf);repeat(refine Sg ?_;(conv=>whnf))
 refine (Qjb (some b1) w).mono ?_
 rintro _ w1 ⟨rfl,hc1,hx1⟩; (conv=>whnf);repeat(refine Sg ?_;(conv=>whnf))
 refine (Qkc hc1 (hm.ext hx1) hk (by unfold Xk; rw [List.length_map]; omega)).mono ?_
 rintro _ w2 ⟨A2,c2,rfl,ho2,hx2⟩
 rw [hk1,hit] at ho2 ⊢
 (conv=>whnf);repeat(refine Sg ?_;(conv=>whnf))
 exact ⟨A2,c2,rfl,ho2.sl X0,fun a ha => Nat.le_trans hx1.size (ho2.block ha).1,hx1.trans hx2⟩
theorem Qjg (w:World) (S:Nat → Prop) (p:Nat) (Ss:List Sn) (h:X3 w S p Ss) (a:ByteArray) (hn:∀ x ∈ Qci Ss a,x.size ≤ 1000000) (hl:(Qci Ss a).length ≤ 1000000) :
 Cal Tryz.prog 31 [.pointer (some ⟨p,0,none⟩),.string a] w fun r w' => ∃ A c,r = .slice A (Qci Ss a).length c ∧ SlT w' A (Qci Ss a) ∧ (∀ a,A = some a → w.heap.size ≤ a.block) ∧ Ext w w' := by
 obtain ⟨t,sh,hp,⟨sg,ct,b1,b2,hL,hI⟩,_⟩ := h
 refine Fi Tryz.func31 rfl _ rfl rfl ?_;conv=>whnf
 refine ⟨_,hp.one rfl,?_⟩; (conv=>whnf);repeat(refine Sg ?_;(conv=>whnf))
 refine ⟨_,hL.head.one rfl,?_⟩; (conv=>whnf);repeat(refine Sg ?_;(conv=>whnf))
 rcases hL.ct.look Qx Qfg (Qp Xi) (e := ty147) ty147_ok rfl a with ⟨hno,hrd⟩ | ⟨bt,m,Sk,hsome,hrd,hIv,_,_⟩
 · have h0 := hI.near0 hno
   rw [h0]
   refine ⟨_,hrd .same Qo,?_⟩; (conv=>whnf);repeat(refine Sg ?_;(conv=>whnf))
   refine (Qjb none w).mono ?_
   rintro _ w1 ⟨rfl,hc1,hx1⟩; (conv=>whnf);repeat(refine Sg ?_;(conv=>whnf))
   refine (Qvn hc1).mono ?_
   rintro _ w2 ⟨A2,c2,rfl,ho2,hx2⟩; (conv=>whnf);repeat(refine Sg ?_;(conv=>whnf))
   exact ⟨A2,c2,rfl,ho2.sl X0,fun a ha => Nat.le_trans hx1.size (ho2.block ha).1,hx1.trans hx2⟩
 · have hm := hIv.2
   have hkn : m.Pairwise (fun x y => x.1 ≠ y.1) := by
    have := hm.keys
    unfold Xk at this
    rw [List.pairwise_map] at this
    exact this
   have hit := hI.near hsome hkn
   have hk1 : (Xk vi m).map (·.1) = m.map (·.1) := by unfold Xk; rw [List.map_map]; rfl
   have hsl : m.length ≤ 1000000 := by
    have := congrArg List.length hit
    rw [Qcg,List.length_map] at this
    omega
   have hk : ∀ x ∈ Xk vi m,x.1.size ≤ 1000000 := fun x hx => by
    have h1 : x.1 ∈ (Xk vi m).map (·.1) := List.mem_map.2 ⟨x,hx,rfl⟩
    rw [hk1,← Qdy,hit] at h1
    exact hn _ h1
   refine ⟨_,hrd .same Qo,?_⟩; (conv=>whnf);repeat(refine Sg ?_;(conv=>whnf))
   refine (Qjb (some bt) w).mono ?_
   rintro _ w1 ⟨rfl,hc1,hx1⟩; (conv=>whnf);repeat(refine Sg ?_;(conv=>whnf))
   refine (Qkc hc1 (hm.ext hx1) hk (by unfold Xk; rw [List.length_map]; omega)).mono ?_
   rintro _ w2 ⟨A2,c2,rfl,ho2,hx2⟩
   rw [hk1,hit] at ho2 ⊢
   (conv=>whnf);repeat(refine Sg ?_;(conv=>whnf))
   exact ⟨A2,c2,rfl,ho2.sl X0,fun a ha => Nat.le_trans hx1.size (ho2.block ha).1,hx1.trans hx2⟩
theorem Qyv {w:World} {S:Nat → Prop} {p:Nat} {half:Int} {rs:List Row} {bp:Nat} {b:CwB} {D:List (Ev × SV)} {L:List (ByteArray × (Option Addr × Nat))} {R Tg:Nat → Prop} (h:Qq8 w S p half rs bp b D L R Tg) : Xr (L.map (·.1)) = Qc8 ((evs rs).map (·.person)) := by
 refine Qhj (Qal h.rows.keys) fun x => ?_
 have hE := h.tags.evs
 rw [← hE]
 constructor
 · intro hx
   obtain ⟨y,hy,rfl⟩ := List.mem_map.1 hx
   obtain ⟨d,hd⟩ := List.exists_mem_of_ne_nil _ (h.rows.ne y hy)
   obtain ⟨h1,h2⟩ := List.mem_filter.1 hd
   exact List.mem_map.2 ⟨d.1,List.mem_map.2 ⟨d,h1,rfl⟩,of_decide_eq_true h2⟩
 · intro hx
   obtain ⟨e,he,rfl⟩ := List.mem_map.1 hx
   obtain ⟨d,hd,rfl⟩ := List.mem_map.1 he
   rw [Qgl]
   cases hq : Qc L d.1.person with
   | some v => rfl
   | none =>
     have h0 := h.rows.all _ hq
     have h1 : d ∈ Qay D d.1.person := List.mem_filter.2 ⟨hd,by simp⟩
     rw [h0] at h1
     cases h1
theorem Qtk (w:World) (S:Nat → Prop) (p:Nat) (half:Int) (rs:List Row) (h:Qef w S p half rs) (hn:∀ x ∈ Qc8 ((evs rs).map (·.person)),x.size ≤ 1000000) (hl:(Qc8 ((evs rs).map (·.person))).length ≤ 1000000) :
 Cal Tryz.prog 46 [.pointer (some ⟨p,0,none⟩)] w fun r w' => ∃ A c,r = .slice A (Qc8 ((evs rs).map (·.person))).length c ∧ SlT w' A (Qc8 ((evs rs).map (·.person))) ∧ (∀ a,A = some a → w.heap.size ≤ a.block) ∧ Ext w w' := by
 obtain ⟨bp,b,D,L,R,Tg,h⟩ := h
 have hit := Qyv h
 have hm := h.rows.map
 have hk1 := Qxz (Qay D) L
 have hsl : L.length ≤ 1000000 := by
  have := congrArg List.length hit
  rw [Qcg,List.length_map] at this
  omega
 have hk : ∀ x ∈ toV (Qay D) L,x.1.size ≤ 1000000 := fun x hx => by
  have h1 : x.1 ∈ (toV (Qay D) L).map (·.1) := List.mem_map.2 ⟨x,hx,rfl⟩
  rw [hk1,← Qdy,hit] at h1
  exact hn _ h1
 refine Fi Tryz.func46 rfl _ rfl rfl ?_;conv=>whnf
 refine ⟨_,h.head.one rfl,?_⟩; (conv=>whnf);repeat(refine Sg ?_;(conv=>whnf))
 refine (Qy5 (some bp) w).mono ?_
 rintro _ w1 ⟨rfl,hc1,hx1⟩; (conv=>whnf);repeat(refine Sg ?_;(conv=>whnf))
 refine (Qsw hc1 (hm.ext hx1) hk (by unfold toV; rw [List.length_map]; omega)).mono ?_
 rintro _ w2 ⟨A2,c2,rfl,ho2,hx2⟩
 rw [hk1,hit] at ho2 ⊢
 (conv=>whnf);repeat(refine Sg ?_;(conv=>whnf))
 exact ⟨A2,c2,rfl,ho2.sl X0,fun a ha => Nat.le_trans hx1.size (ho2.block ha).1,hx1.trans hx2⟩
end Go.Proofs.YteabekcdcphjpaaGreatDoor
namespace Go.Proofs.YteabekcdcphjpaaGreatDoor
open Go.Se Go.RowKit Go.Shelf
structure PrS (w:World) (b:Nat) (g:Option Nat) (T:Nat → Prop) (o:Nat) (Ss:List Sn) : Prop where
 at_ : X3 w (fun k => k = o ∨ T k) o Ss
 safe : Safe b g o
 lt : o < w.heap.size
section
variable {w w':World} {B b:Nat} {g g':Option Nat} {T:Nat → Prop} {p o:Nat} {c:Cfg} {z:List Ev} {s:ByteArray} {Ss:List Sn}
theorem PrS.wrt (h:PrS w b g T o Ss) (hD:Dg w B b g T p c z s) (hw:Wrt b g w g' w') : PrS w' b g' T o Ss :=
 ⟨h.at_.keep fun k hk hs => ⟨hw.block (hs.elim (fun e => e ▸ h.safe) (hD.safe k)) hk,hs⟩,hw.safe h.safe h.lt,Nat.lt_of_lt_of_le h.lt hw.size⟩
theorem PrS.ext (h:PrS w b g T o Ss) (hx:Ext w w') : PrS w' b g T o Ss := ⟨h.at_.ext hx,h.safe,Nat.lt_of_lt_of_le h.lt hx.size⟩
end
set_option maxHeartbeats 4000000 in
theorem Qrn {w:World} {B b:Nat} {g:Option Nat} {T:Nat → Prop} {p:Nat} {c:Cfg} {z:List Ev} {s:ByteArray} (h:Dg w B b g T p c z s) (hz:z.length < 1000) (hT10:∀ k,T k → 10 ≤ k) (hl:s.size + (X5 ((Qar (Qas c z)).map (Qd9 (Qas c z)))).size ≤ 140737488355328) :
 Cal Tryz.prog 45 [.pointer (some ⟨p,0,none⟩),.func (.func 36) #[] #[.pointer (some ⟨b,0,none⟩)]] w fun r w' => r = .tuple #[] ∧ ∃ g' T',Dg w' B b g' T' p c z (s ++ X5 ((Qar (Qas c z)).map (Qd9 (Qas c z)))) ∧ (∀ k,T' k → T k ∨ w.heap.size ≤ k) ∧ Mod (fun k => T k ∨ k = b ∨ g = some k) w w' := by
 obtain ⟨v,T0,col,q,A,n,cap,any,last,hL,hm,_⟩ := h.wql
 clear hL
 have hok := Q0w c z hm hz
 have hil := Qlz c z
 have hin : ∀ x ∈ Qar (Qas c z),Qi x = true := fun x hx => Qi8 hm hx
 have hnl := Qpx c z
 have hnn : ∀ a,∀ x ∈ Qci (Qas c z) a,Qi x = true := fun a x hx => Ql9 hm hx
 have hsl := hok.len
 refine Fi Tryz.func45 rfl _ rfl rfl ?_;conv=>whnf
 refine (Qhq h.wt hok).mono ?_
 rintro _ w1 ⟨o,T1,rfl,hW1,hT1,hM1,hog,hoT,hP1⟩
 generalize Qas c z = Ss at hok hil hin hnl hnn hsl hl hP1 ⊢
 have hlt := h.bl.lt
 have hb1 : w1.heap[b]? = w.heap[b]? := hM1.block b hlt.2.1 fun ht => (h.safe b ht).1 rfl
 have hg1 : ∀ k,g = some k → w1.heap[k]? = w.heap[k]? := fun k hk => hM1.block k (hlt.2.2 k hk).2 fun ht => (h.safe k ht).2 hk
 have hnew : ∀ k,w.heap.size ≤ k → Safe b g k := fun k hk => h.bl.safe_new hk
 have hD1 : Dg w1 B b g T1 p c z s := ⟨h.bl.keep hb1 hg1 hM1.size,hW1,fun k hk => (hT1 k hk).elim (h.safe k) (hnew k),h.gl.mod hM1 hT10,h.ten⟩
 have hol : o < w1.heap.size := by
  obtain ⟨t,sh,ha,_⟩ := hP1
  exact ha.lt
 have hPr1 : PrS w1 b g T1 o Ss := ⟨hP1,hnew o hog,hol⟩
 clear hb1 hg1 hW1 hP1
 (conv=>whnf);repeat(refine Sg ?_;(conv=>whnf))
 refine (Qe8 w1 _ o Ss hPr1.at_ (fun x hx => by have := Qab (hin x hx); omega) (by omega)).mono ?_
 rintro _ w2 ⟨A2,c2,rfl,hs2,hA2,hx2⟩
 have hsl2 : SlS Qbr 1 w2 b g A2 (Qar Ss) := ⟨hs2,fun hne a ha => ⟨hD1.bl.safe_new (hA2 a ha),Qso hs2 one_pos hne ha⟩⟩
 have hD2 := hD1.ext hx2
 have hPr2 := hPr1.ext hx2
 have hw2 : Wrt b g w1 g w2 := Wrt.ext hx2
 clear hs2 hA2 hD1 hPr1
 generalize hIs : Qar Ss = items at hsl2 hil hin hl ⊢
 have h0 : Dg w2 B b g T1 p c z (s ++ X5 ((items.take 0).map (Qd9 Ss))) := by
  show Dg w2 B b g T1 p c z (s ++ X5 [])
  rw [Qbx,Qcm]
  exact hD2
 (conv=>whnf);repeat(refine Sg ?_;(conv=>whnf))
 refine Qg Qa (fun (x:Nat × Option Nat) w' => x.1 ≤ items.length ∧ Dg w' B b x.2 T1 p c z (s ++ X5 ((items.take x.1).map (Qd9 Ss))) ∧ Wrt b g w1 x.2 w' ∧ SlS Qbr 1 w' b x.2 A2 items ∧ PrS w' b x.2 T1 o Ss)
  (fun | (k,_) => [(0,.pointer (some ⟨p,0,none⟩)),(1,.func (.func 36) #[] #[.pointer (some ⟨b,0,none⟩)]),(4,.pointer (some ⟨o,0,none⟩)),(12,.slice A2 items.length c2),(13,.int .i64 items.length),(14,.int .i64 (k:Nat))]) (fun x => items.length - x.1) (0,g) ⟨Nat.zero_le _,h0,hw2,hsl2,hPr2⟩ ⟨rfl,rfl,rfl,rfl,rfl,rfl,trivial⟩ ?_
 clear h0 hw2 hsl2 hPr2 hD2 hx2
 rintro ⟨k,g1⟩ w3 ⟨hk,hD,hw,hsi,hPr⟩
 simp only at hk hD hw hsi hPr
 conv=>whnf
 constructor
 · intro hlt
   have hlt : k < items.length := by simpa using hlt
   obtain ⟨a,rfl,hca⟩ := hsi.sl.get hlt
   have htk := Xv (Qd9 Ss) items k hlt
   have hpk := Qbu (Qd9 Ss) items (k + 1)
   rw [htk,ByteArray.size_append] at hpk
   have hxn := hin items[k] (List.getElem_mem hlt)
   generalize items[k] = x at hca htk hpk hxn
   generalize X5 ((items.take k).map (Qd9 Ss)) = u at htk hpk hD
   have hth : Qd9 Ss x = X5 ((Qci Ss x).map (Qkh Ss x)) := rfl
   rw [hth] at htk hpk
   (conv=>whnf);repeat(refine Sg ?_;(conv=>whnf))
   refine ⟨a,⟨rfl,by omega,by omega⟩,?_⟩; (conv=>whnf);repeat(refine Sg ?_;(conv=>whnf))
   refine ⟨.string x,Qv hca,?_⟩; (conv=>whnf);repeat(refine Sg ?_;(conv=>whnf))
   refine (Qjg w3 _ o Ss hPr.at_ x (fun y hy => by have := Qab (hnn x y hy); omega) (by have := hnl x; omega)).mono ?_
   rintro _ w4 ⟨A4,c4,rfl,hs4,hA4,hx4⟩
   have hsn4 : SlS Qbr 1 w4 b g1 A4 (Qci Ss x) := ⟨hs4,fun hne a ha => ⟨hD.bl.safe_new (hA4 a ha),Qso hs4 one_pos hne ha⟩⟩
   have hsi4 := hsi.ext hx4
   have hD4 := hD.ext hx4
   have hPr4 := hPr.ext hx4
   have hw4 := hw.trans (Wrt.ext hx4)
   clear hs4 hA4 hca hsi hD hPr hw
   have hyn := hnn x
   have hyl := hnl x
   have hne : ∀ y ∈ Qci Ss x,x ≠ y := fun y hy => Q8l hy
   generalize Qci Ss x = near at hsn4 htk hpk hyn hyl hne ⊢
   have h0 : Dg w4 B b g1 T1 p c z (s ++ u ++ X5 ((near.take 0).map (Qkh Ss x))) := by
    show Dg w4 B b g1 T1 p c z (s ++ u ++ X5 [])
    rw [Qbx,Qcm]
    exact hD4
   (conv=>whnf);repeat(refine Sg ?_;(conv=>whnf))
   refine Qg Qa (fun (y:Nat × Option Nat) w' => y.1 ≤ near.length ∧ Dg w' B b y.2 T1 p c z (s ++ u ++ X5 ((near.take y.1).map (Qkh Ss x))) ∧ Wrt b g w1 y.2 w' ∧ SlS Qbr 1 w' b y.2 (some a) items ∧ SlS Qbr 1 w' b y.2 A4 near ∧ PrS w' b y.2 T1 o Ss)
    (fun | (j,_) => [(0,.pointer (some ⟨p,0,none⟩)),(1,.func (.func 36) #[] #[.pointer (some ⟨b,0,none⟩)]),(4,.pointer (some ⟨o,0,none⟩)),(6,.string x),(12,.slice (some a) items.length c2),(13,.int .i64 items.length),(14,.int .i64 (k:Nat)),(20,.slice A4 near.length c4),(21,.int .i64 near.length),(22,.int .i64 (j:Nat))]) (fun y => near.length - y.1) (0,g1) ⟨Nat.zero_le _,h0,hw4,hsi4,hsn4,hPr4⟩ ⟨rfl,rfl,rfl,rfl,rfl,rfl,rfl,rfl,rfl,rfl,trivial⟩ ?_
   clear h0 hw4 hsi4 hsn4 hPr4 hD4 hx4
   rintro ⟨j,g2⟩ w5 ⟨hj,hD,hw,hsi,hsn,hPr⟩
   simp only at hj hD hw hsi hsn hPr
   conv=>whnf
   constructor
   · intro hlt2
     have hlt2 : j < near.length := by simpa using hlt2
     obtain ⟨a4,rfl,hcb⟩ := hsn.sl.get hlt2
     have htj := Xv (Qkh Ss x) near j hlt2
     have hpj := Qbu (Qkh Ss x) near (j + 1)
     rw [htj,ByteArray.size_append] at hpj
     have hxy := hne near[j] (List.getElem_mem hlt2)
     generalize near[j] = y at hcb htj hpj hxy
     generalize X5 ((near.take j).map (Qkh Ss x)) = u2 at htj hpj hD
     have hpl := Qmh Ss x y
     (conv=>whnf);repeat(refine Sg ?_;(conv=>whnf))
     refine ⟨a4,⟨rfl,by omega,by omega⟩,?_⟩; (conv=>whnf);repeat(refine Sg ?_;(conv=>whnf))
     refine ⟨.string y,Qv hcb,?_⟩; (conv=>whnf);repeat(refine Sg ?_;(conv=>whnf))
     constructor
     · intro hq
       have hq : bLt x y = true := hq
       have hth : Qkh Ss x y = Qdb [Qx7,x,y,nB (Qbv Ss x y)] := if_pos hq
       rw [hth] at htj hpj
       (conv=>whnf);repeat(refine Sg ?_;(conv=>whnf))
       refine (Qmd w5 _ o Ss hPr.at_ x y hxy).mono ?_
       rintro _ w6 ⟨rfl,hw6⟩
       subst hw6
       (conv=>whnf);repeat(refine Sg ?_;(conv=>whnf))
       refine (Qah (Qbv Ss x y:Nat) w6 hD.gl (by omega) (by omega)).mono ?_
       rintro _ w7 ⟨rfl,hx7⟩; (conv=>whnf);repeat(refine Sg ?_;(conv=>whnf))
       have hD7 := hD.ext hx7
       intro b8 w8 hn8; (conv=>whnf);repeat(refine Sg ?_;(conv=>whnf))
       refine (hD7.line [Qx7,x,y,nB (Qbv Ss x y)] rfl hn8 (by simp) (by simp only [ByteArray.size_append]; omega) 4 rfl).mono ?_
       rintro _ w9 ⟨rfl,g9,hD9,hw9⟩
       rw [ByteArray.append_assoc (a := s ++ u),← htj] at hD9
       have hw59 : Wrt b g2 w6 g9 w9 := (Wrt.ext hx7).trans hw9
       (conv=>whnf);repeat(refine Sg ?_;(conv=>whnf))
       refine ⟨_,wrap_succ (by omega),?_⟩; (conv=>whnf);repeat(refine Sg ?_;(conv=>whnf))
       exact ⟨(j + 1,g9),by simp only; omega,⟨by simp only; omega,hD9,hw.trans hw59,hsi.wrt hw59,hsn.wrt hw59,hPr.wrt hD hw59⟩,⟨rfl,rfl,rfl,rfl,rfl,rfl,rfl,rfl,rfl,rfl,trivial⟩⟩
     · intro hq
       have hq : ¬ bLt x y = true := by
        intro h
        have hq : bLt x y = false := hq
        rw [hq] at h; cases h
       have hth : Qkh Ss x y = ⟨#[]⟩ := if_neg hq
       rw [hth,Qcm] at htj
       (conv=>whnf);repeat(refine Sg ?_;(conv=>whnf))
       refine ⟨_,wrap_succ (by omega),?_⟩; (conv=>whnf);repeat(refine Sg ?_;(conv=>whnf))
       exact ⟨(j + 1,g2),by simp only; omega,⟨by simp only; omega,by simp only; rw [htj]; exact hD,hw,hsi,hsn,hPr⟩,⟨rfl,rfl,rfl,rfl,rfl,rfl,rfl,rfl,rfl,rfl,trivial⟩⟩
   · intro hge
     have hge : near.length ≤ j := by simpa using hge
     rw [List.take_of_length_le hge,ByteArray.append_assoc,← htk] at hD
     (conv=>whnf);repeat(refine Sg ?_;(conv=>whnf))
     refine ⟨_,wrap_succ (by omega),?_⟩; (conv=>whnf);repeat(refine Sg ?_;(conv=>whnf))
     exact ⟨(k + 1,g2),by simp only; omega,⟨by simp only; omega,hD,hw,hsi,hPr⟩,⟨rfl,rfl,rfl,rfl,rfl,rfl,trivial⟩⟩
 · intro hge
   have hge : items.length ≤ k := by simpa using hge
   rw [List.take_of_length_le hge] at hD
   (conv=>whnf);repeat(refine Sg ?_;(conv=>whnf))
   refine ⟨rfl,g1,T1,hD,hT1,?_⟩
   have := hw.mod
   exact ⟨this.os.trans hM1.os,this.tape.trans hM1.tape,this.output.trans hM1.output,Nat.le_trans hM1.size this.size,fun i hi hn => (this.block i (Nat.lt_of_lt_of_le hi hM1.size) fun e => hn (.inr e)).trans (hM1.block i hi fun e => hn (.inl e))⟩
end Go.Proofs.YteabekcdcphjpaaGreatDoor
