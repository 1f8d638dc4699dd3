/- Several texts in one: Bg1, Nm1, Dg1, Dg2, Bg2, Bg3, Bg4, Ky1, Bg6. -/
import Derived.Test.YtdahooejkjcjiaaGreatDoorGC
import Derived.Test.YtdahooejkjcjiaaGreatDoorHShelf
import Derived.Shelf.Strings.Builder1
import Derived.Maps.AppendAt
import Derived.WalkKit
import Derived.Test.YtdahooejkjcjiaaGreatDoorGK
import Derived.Test.YtdahooejkjcjiaaGreatDoorGM
import Derived.Test.YtdahooejkjcjiaaGreatDoorGI
import Derived.Test.YtdahooejkjcjiaaGreatDoorGN
import Derived.Test.YtdahooejkjcjiaaGreatDoorGH
import Derived.Test.YtdahooejkjcjiaaGreatDoorGJ
set_option linter.unusedVariables false
set_option linter.unusedSimpArgs false
namespace Go.Proofs.YtdahooejkjcjiaaGreatDoor
open Go.Se Go.RowKit Go.Shelf
theorem Qmj {P:Program} (w:World) (base:Nat) (t u ty e:TypeId) (i:TypeInfo) (ht:P.underlying t=some (.slice e)) (hu:P.underlying u=some .string) (hi:P.info? e=some i) (hz:i.zero=some (.int .u8 0))
 (hsize:i.size=1) (hby:i.bytes=1)
 (v:Value) (n:Nat) (xs:List Value) (hown:w.ownsRow base e 1 v n xs) (s:ByteArray)
 (h63:n+s.size≤maxLen) (hbytes:n+s.size≤140737488355328) (hbase:base≤w.heap.size) :
 ∃ v' w',(Builtin.append_ #[t,u] ty #[v,.string s]).run P w = .ok v' w'∧w'.ownsRow base e 1 v' (n+s.size) (xs++Lib.strCells s)∧w.grownBy w' v.ownBlock ∧
   (v' = .slice none 0 0↔v = .slice none 0 0∧s.size=0)∧(v'.ownBlock=v.ownBlock∨v'.ownBlock=some w.heap.size):=by
 obtain⟨v',w',hr,h1,h2,h3⟩:=Lib.run_append_own_string (P:=P) w base t u ty e i ht hu hi hz hsize hby v n xs hown s h63 hbytes hbase;refine⟨v',w',hr,h1,h2,h3,?_⟩;have hsmall:n+s.size≤9223372036854775807:=by simp only[maxLen] at h63;omega
 have hxl:xs.length=n:=by simpa using hown.1
 have fin:∀ {v2:Value} {w2:World},(Builtin.append_ #[t,u] ty #[v,.string s]).run P w = .ok v2 w2→v2.ownBlock=some w.heap.size→v'.ownBlock=v.ownBlock∨v'.ownBlock=some w.heap.size:=fun h hv=>by
  rw[hr] at h;injection h with e1 e2;rw[e1]
  exact .inr hv
 rcases hown.2 with⟨rfl,rfl⟩ | ⟨g,cap,cur,rfl,hbg,hg,hnc,hcm,hcs,htake⟩
 · by_cases hm:s.size=0
   · rw[h3.2 ⟨rfl,hm⟩];exact .inl rfl
   · exact fin (run_append_nil_string (P:=P) w t u ty e i (.int .u8 0) ht hu hi hz s (by omega) (by omega) (by rw[hby];omega)) rfl
 · by_cases hroom:n+s.size≤cap
   · have hcs':cur.size=cap:=by simpa using hcs
     have h:=Lib.run_append_room_string (P:=P) w t u ty e i ht hu hi hsize g n cap cur hg s hroom (by omega);rw[hr] at h;injection h with e1 e2;rw[e1]
     exact .inl rfl
   · have holds:∀ j u,xs[j]? = some u→w.cell? ((⟨g,0,none⟩:Addr).add j)=some u:=hown.cells (g:=g) rfl
     exact fin (Lib.run_append_grow_string (P:=P) w t u ty e i (.int .u8 0) ht hu hi hz ⟨g,0,none⟩ n cap xs (by rw[hsize];simpa using hxl) holds s (by omega) (by omega) (by rw[hby];exact growslice_fits (by omega) (by omega))) rfl
theorem Qti {P:Program} (w:World) {ops:Array Oper} {rest:List Oper} {o:Oper} {a:Act} {Q:Exit→Act→World→Prop} (hgd:o.guard=none) (sl x:Operand) (t u:TypeId)
 (ho:o.op = .call { callee := .builtin .append,args := #[sl,x],argTypes := #[t,u] })
 (base:Nat) (e:TypeId) (i:TypeInfo) (ht:P.underlying t=some (.slice e)) (hu:P.underlying u=some .string) (hi:P.info? e=some i) (hz:i.zero=some (.int .u8 0))
 (hsize:i.size=1) (hby:i.bytes=1)
 (v:Value) (n:Nat) (xs:List Value) (hs:a.eval sl=v) (hown:w.ownsRow base e 1 v n xs) (s:ByteArray) (hx:a.eval x = .string s)
 (h63:n+s.size≤maxLen) (hbytes:n+s.size≤140737488355328) (hbase:base≤w.heap.size)
 (h:∀ v' w',w'.ownsRow base e 1 v' (n+s.size) (xs++Lib.strCells s)→w.grownBy w' v.ownBlock→(v' = .slice none 0 0↔v = .slice none 0 0∧s.size=0)→(v'.ownBlock=v.ownBlock∨v'.ownBlock=some w.heap.size)→wpList P ops Q rest (a.put o.dst v') w'):wpList P ops Q (o :: rest) a w:=by
 refine wpList_plain hgd fun K hK => ?_
 obtain⟨v',w',hr,h2,h3,h4,h5⟩:=Qmj (P:=P) w base t u o.type e i ht hu hi hz hsize hby v n xs hown s h63 hbytes hbase;unfold Oper.wp execOp;simp only[ho,resolve,invoke,builtin,Sem.run_bind,Sem.run_pure,Result.andThen_ok,List.map_toArray,List.map_cons,List.map_nil,hs,hx,hr]
 exact hK _ _ (h v' w' h2 h3 h4 h5)
def RowOf (w:World) (b:Nat) (g:Option Nat):Prop:=∀ p v T fz,w.heap[b]? = some (.cells #[p,v] T fz)→v.ownBlock=g
theorem Q2q {w:World} {b:Nat} {p v v':Value} {T:TypeId} {fz:Nat×Nat} (hb:w.heap[b]? = some (.cells #[p,v] T fz)):RowOf (w.setCell ⟨b,1,none⟩ v') b v'.ownBlock:=by
 intro p2 v2 T2 fz2 h;have h2:(w.setCell ⟨b,1,none⟩ v').heap[b]? = some (.cells #[p,v'] T fz):=by simp[World.setCell,Array.getElem?_modify,hb]
 rw[h2] at h
 simp at h
 rw[← h.1.2]
theorem Q5e {w:World} {b:Nat} {p v q:Value} {T:TypeId} {fz:Nat×Nat} {g:Option Nat} (hb:w.heap[b]? = some (.cells #[p,v] T fz)) (hg:RowOf w b g):RowOf (w.setCell ⟨b,0,none⟩ q) b g:=by
 intro p2 v2 T2 fz2 h;have h2:(w.setCell ⟨b,0,none⟩ q).heap[b]? = some (.cells #[q,v] T fz):=by simp[World.setCell,Array.getElem?_modify,hb]
 rw[h2] at h
 simp at h
 rw[← h.1.2]
 exact hg _ _ _ _ hb
theorem Qwp:(Tryz.prog.info? 84).map (·.size)=some 2:=by kernel_rfl
theorem Q3z:liesAt Tryz.prog Tryz.prog.depth 84 (2/Tryz.prog.cellsOf 84) 0 84 1=true:=by kernel_rfl
set_option maxHeartbeats 1000000 in
set_option maxRecDepth 100000 in
theorem Q0n (b:Nat) (w:World) (h0:w.cell? ⟨b,0,none⟩=some (.pointer (some ⟨b,0,none⟩))) :
 Calls Tryz.prog 104 #[.pointer (some ⟨b,0,none⟩)] w fun e w'=>e = .returned (.tuple #[])∧w'=w:=by
 obtain⟨j,hj,_⟩:=Option.map_eq_some_iff.1 Qwp
 go_enter Tryz.func104,Tryz.ntmps104
 go_wp2
 rw[Lib.run_neq_ptr_same w _ Tryz.underlying81 hj]
 go_wp2
 go_end0
 exact⟨rfl,rfl⟩
set_option maxHeartbeats 1000000 in
set_option maxRecDepth 100000 in
theorem Qxy (b:Nat) (w:World) (h0:w.cell? ⟨b,0,none⟩=some (.pointer none)) (hsh:w.shape? b=some (84,2)) (hfz:w.frozen? ⟨b,0,none⟩=false) :
 Calls Tryz.prog 104 #[.pointer (some ⟨b,0,none⟩)] w fun e w'=>e = .returned (.tuple #[])∧w'=w.setCell ⟨b,0,none⟩ (.pointer (some ⟨b,0,none⟩)):=by
 obtain⟨j,hj,hjs⟩:=Option.map_eq_some_iff.1 Qwp
 go_enter Tryz.func104,Tryz.ntmps104
 go_wp2
 rw[Lib.run_to_unsafe w ⟨b,0,none⟩ Tryz.underlying81 Tryz.underlying227 hj (by rw[hjs];decide) hsh (Nat.zero_lt_succ 1)];simp only[Result.andThen];rw[Oper.upon_value]
 go_wp2
 rw[run_callFunc_extern Tryz.func164 (by kernel_rfl) (by kernel_rfl) (by kernel_rfl) (e:=Extern.AbiNoEscape.same) (by kernel_rfl)];rw[Lib.run_noEscape];simp only[Result.andThen];rw[Oper.upon_value]
 go_wp2
 rw[Lib.run_from_unsafe w ⟨b,0,none⟩ Tryz.underlying227 Tryz.underlying81 hj hsh Q3z];simp only[Result.andThen];rw[Oper.upon_value]
 go_wp2
 go_end0
 exact⟨rfl,rfl⟩
theorem Q92 (B b:Nat) (bs:List Value) (w:World) (g:Option Nat) (h:Lib.IsBuilder 84 5 B b bs w) (hg:RowOf w b g) :
 Calls Tryz.prog 104 #[.pointer (some ⟨b,0,none⟩)] w fun e w'=>e = .returned (.tuple #[])∧(Lib.BuilderAt 84 5 B b (.pointer (some ⟨b,0,none⟩)) bs w'∧Below B w w'∧(∀ k,k≠b→w'.heap[k]? = w.heap[k]?)∧RowOf w' b g):=by
 rcases h with h | h
 · refine(Qxy b w h.cell0 h.shape h.frozen0).mono ?_
   rintro e w' ⟨rfl,rfl⟩;obtain⟨_,v,hb,_⟩:=id h
   exact⟨rfl,h.used _,(Below.refl B w).setCell (p:=⟨b,0,none⟩) h.1 _,fun k hk=>Below.heap_setCell _ _ _ _ hk,Q5e hb hg⟩
 · refine(Q0n b w h.cell0).mono ?_
   rintro e w' ⟨rfl,rfl⟩
   exact⟨rfl,h,Below.refl B _,fun _ _=>rfl,hg⟩
theorem Q53:84≠5:=by decide
theorem Qnw:∀ args w,(callFunc 104 args).run Tryz.prog w = .ok (.enter 104 args) w:=enters_of Tryz.func104 (by kernel_rfl) rfl
set_option maxHeartbeats 2000000 in
set_option maxRecDepth 100000 in
theorem Q99 (B b:Nat) (bs:List Value) (s:ByteArray) (w:World) (g0:Option Nat) (h:Lib.IsBuilder 84 5 B b bs w) (hg0:RowOf w b g0) (hlen:bs.length+s.size≤140737488355328) (hBw:B≤w.heap.size) :
 Calls Tryz.prog 52 #[.pointer (some ⟨b,0,none⟩),.string s] w fun e w'=>e = .returned (.tuple #[.int .i64 s.size,.nilIface])∧(Lib.BuilderAt 84 5 B b (.pointer (some ⟨b,0,none⟩)) (bs++Lib.strCells s) w'∧Below B w w'∧∃ g1,RowOf w' b g1∧(g1=g0∨∃ k,g1=some k∧w.heap.size≤k)∧∀ k,k<w.heap.size→k≠b→g0≠some k→w'.heap[k]? = w.heap[k]?):=by
 obtain⟨i0,hi,hz0,hz1,hz2⟩:=info_parts Tryz.Builder_Extra_169.infoByte;have e240:=Qnw
 go_enter Tryz.func52,Tryz.ntmps52
 go_wp2_with (go_at_fn 104;refine(Q92 B b bs _ g0 h hg0).mono ?_)
 rintro e w1 ⟨rfl,h1,hb1,hk1,hr1⟩;obtain⟨hB,v,hbk,hown,hne⟩:=h1;have c0:w1.cell? ⟨b,0,none⟩=some (.pointer (some ⟨b,0,none⟩)):=by rw[Lib.cell_of_heap hbk];rfl
 have c1:w1.cell? ⟨b,1,none⟩=some v:=by rw[Lib.cell_of_heap hbk];rfl
 go_wp2_with (at_builtin;refine Qti _ rfl _ _ 82 9 rfl B 5 i0 Tryz.underlying82 Tryz.underlying9 hi hz0 hz1 hz2 _ _ _ rfl hown s rfl ?c3 ?c4 ?c5 ?_)
 case c3=>unfold maxLen;omega
 case c4=>omega
 case c5=>have:=hb1.size;omega
 intro v' w2 hown' hgrow _ hat;have hvg:v.ownBlock=g0:=hr1 _ _ _ _ hbk
 have hlt:b<w1.heap.size:=by
  rcases Nat.lt_or_ge b w1.heap.size with h' | h'
  · exact h'
  · simp[Array.getElem?_eq_none h'] at hbk
 have hb2:w2.heap[b]? = some (.cells #[.pointer (some ⟨b,0,none⟩),v] 84 (0,0)):=by
  rw[hgrow.block b hlt (fun e=>hne e.symm)]
  exact hbk
 have d0:w2.cell? ⟨b,0,none⟩=some (.pointer (some ⟨b,0,none⟩)):=by rw[Lib.cell_of_heap hb2];rfl
 have d1:w2.cell? ⟨b,1,none⟩=some v:=by rw[Lib.cell_of_heap hb2];rfl
 have f1:w2.frozen? ⟨b,1,none⟩=false:=Lib.frozen_of_heap hb2 1
 obtain⟨ao,n',cap,rfl⟩:∃ ao n' cap,v' = .slice ao n' cap:=by
  rcases hown'.2 with⟨hv,_⟩ | ⟨g,cap,cur,hv,_⟩
  · exact⟨_,_,_,hv⟩
  · exact⟨_,_,_,hv⟩
 go_wp2
 go_ret2
 refine⟨rfl,?_,?_,Value.ownBlock (.slice ao n' cap),?_,?_,?_⟩
 · exact Lib.BuilderAt.put (T:=84) (e:=5) hB hb2 (bs':=bs++Lib.strCells s) (by simpa [Lib.strCells_length] using hown') Q53
 · exact(hb1.grown hgrow (by have:=hb1.size;omega) (fun k hk=>(hown.lt k hk).1)).setCell (p:=⟨b,1,none⟩) hB _
 · exact Q2q hb2
 · rcases hat with e | e
   · exact .inl (e.trans hvg)
   · exact .inr ⟨_,e,by have:=hb1.size;omega⟩
 · intro k hk hkb hku
   rw[Below.heap_setCell _ _ _ _ hkb,hgrow.block k (by have:=hb1.size;omega) (fun e=>hku (hvg ▸ e.symm))]
   exact hk1 k hkb
set_option maxHeartbeats 2000000 in
set_option maxRecDepth 100000 in
theorem Q98 (B b:Nat) (bs:List Value) (c:Int) (w:World) (g0:Option Nat) (h:Lib.IsBuilder 84 5 B b bs w) (hg0:RowOf w b g0) (hlen:bs.length+1≤140737488355328) (hBw:B≤w.heap.size) :
 Calls Tryz.prog 51 #[.pointer (some ⟨b,0,none⟩),.int .u8 c] w fun e w'=>e = .returned .nilIface∧(Lib.BuilderAt 84 5 B b (.pointer (some ⟨b,0,none⟩)) (bs ++ [.int .u8 c]) w'∧Below B w w'∧∃ g1,RowOf w' b g1∧(g1=g0∨∃ k,g1=some k∧w.heap.size≤k)∧∀ k,k<w.heap.size→k≠b→g0≠some k→w'.heap[k]? = w.heap[k]?):=by
 obtain⟨i0,hi,hz0,hz1,hz2⟩:=info_parts Tryz.Builder_Extra_169.infoByte;have e240:=Qnw
 go_enter Tryz.func51,Tryz.ntmps51
 go_wp2_with (go_at_fn 104;refine(Q92 B b bs _ g0 h hg0).mono ?_)
 rintro e w1 ⟨rfl,h1,hb1,hk1,hr1⟩;obtain⟨hB,v,hbk,hown,hne⟩:=h1;have c0:w1.cell? ⟨b,0,none⟩=some (.pointer (some ⟨b,0,none⟩)):=by rw[Lib.cell_of_heap hbk];rfl
 have c1:w1.cell? ⟨b,1,none⟩=some v:=by rw[Lib.cell_of_heap hbk];rfl
 go_wp2_with (at_builtin;refine wpList_append_own_at _ rfl _ _ 82 rfl B 5 i0 (.int .u8 0) 1 1 Tryz.underlying82 hi hz0 hz1 hz2 rfl (by decide) _ _ _ rfl (hown.alloc _) ⟨w1.heap.size,0,none⟩ 1 1 [.int .u8 c] rfl rfl ?c1 ?c2 ?c3 ?c4 ?c5 ?_)
 case c1 =>
  intro j u hj
  match j,hj with
  | 0,hj=>simp at hj;subst hj;simp[Addr.add]
 case c2=>intro u hu;simp at hu;subst hu;rfl
 case c3=>unfold maxLen;omega
 case c4=>omega
 case c5=>have:=hb1.size;simp;omega
 intro v' w2 hown' hgrow _ hat;have hvg:v.ownBlock=g0:=hr1 _ _ _ _ hbk
 have hlt:b<w1.heap.size:=by
  rcases Nat.lt_or_ge b w1.heap.size with h' | h'
  · exact h'
  · simp[Array.getElem?_eq_none h'] at hbk
 have hb2:w2.heap[b]? = some (.cells #[.pointer (some ⟨b,0,none⟩),v] 84 (0,0)):=by
  rw[hgrow.block b (by simp;omega) (fun e=>hne e.symm),Lib.alloc_old w1 _ b hlt]
  exact hbk
 have d0:w2.cell? ⟨b,0,none⟩=some (.pointer (some ⟨b,0,none⟩)):=by rw[Lib.cell_of_heap hb2];rfl
 have d1:w2.cell? ⟨b,1,none⟩=some v:=by rw[Lib.cell_of_heap hb2];rfl
 have f1:w2.frozen? ⟨b,1,none⟩=false:=Lib.frozen_of_heap hb2 1
 obtain⟨g,cap,rfl⟩:∃ g cap,v' = .slice (some ⟨g,0,none⟩) (bs.length+1) cap:=by
  rcases hown'.2 with⟨_,h0⟩ | ⟨g,cap,cur,hv,_⟩
  · omega
  · exact⟨g,cap,hv⟩
 go_wp2
 go_ret
 refine⟨rfl,?_,?_,Value.ownBlock (.slice (some ⟨g,0,none⟩) (bs.length+1) cap),?_,?_,?_⟩
 · exact Lib.BuilderAt.put (T:=84) (e:=5) hB hb2 (bs':=bs ++ [.int .u8 c]) (by simpa using hown') Q53
 · exact((hb1.alloc (by have:=hb1.size;omega) _).grown hgrow (by have:=hb1.size;simp;omega) (fun k hk=>(hown.lt k hk).1)).setCell (p:=⟨b,1,none⟩) hB _
 · exact Q2q hb2
 · rcases hat with e | e
   · exact .inl (e.trans hvg)
   · exact .inr ⟨_,e,by have:=hb1.size;simp;omega⟩
 · intro k hk hkb hku
   have hlk:k<w1.heap.size:=by have:=hb1.size;omega
   rw[Below.heap_setCell _ _ _ _ hkb,hgrow.block k (by simp;omega) (fun e=>hku (hvg ▸ e.symm)),Lib.alloc_old w1 _ k hlk]
   exact hk1 k hkb
structure BlG (w:World) (B b:Nat) (s:ByteArray) (g:Option Nat):Prop where
 is:Lib.IsBuilder 84 5 B b (Lib.strCells s) w
 row:RowOf w b g
 size:B≤w.heap.size
structure Wrt (b:Nat) (g:Option Nat) (w:World) (g':Option Nat) (w':World):Prop where
 row:g'=g∨∃ k,g'=some k∧w.heap.size≤k
 mod:Mod (fun k=>k=b∨g=some k) w w'
def Safe (b:Nat) (g:Option Nat) (k:Nat):Prop:=k≠b∧g≠some k
section
variable {b:Nat} {g g' g'':Option Nat} {w w' w'':World}
theorem Wrt.refl:Wrt b g w g w:=⟨.inl rfl,Mod.refl _ _⟩
theorem Wrt.ext (h:Ext w w'):Wrt b g w g w':=⟨.inl rfl,Mod.of_ext h⟩
theorem Wrt.size (h:Wrt b g w g' w'):w.heap.size≤w'.heap.size:=h.mod.size
theorem Wrt.safe (h:Wrt b g w g' w') {k:Nat} (hs:Safe b g k) (hk:k<w.heap.size):Safe b g' k:=by
 refine⟨hs.1,?_⟩;rcases h.row with e | ⟨k2,e,h2⟩
 · rw[e];exact hs.2
 · rw[e];intro he;injection he with he;omega
theorem Wrt.block (h:Wrt b g w g' w') {k:Nat} (hs:Safe b g k) (hk:k<w.heap.size):w'.heap[k]? = w.heap[k]? := h.mod.block k hk fun e=>e.elim hs.1 hs.2
theorem Wrt.trans (h:Wrt b g w g' w') (h':Wrt b g' w' g'' w''):Wrt b g w g'' w'':=by
 refine⟨?_,h'.mod.os.trans h.mod.os,h'.mod.tape.trans h.mod.tape,h'.mod.output.trans h.mod.output,Nat.le_trans h.size h'.size,fun k hk hn => ?_⟩
 · rcases h'.row with e | ⟨k,e,hk⟩
   · rw[e];exact h.row
   · exact .inr ⟨k,e,Nat.le_trans h.size hk⟩
 · have hs:Safe b g k:=⟨fun e=>hn (.inl e),fun e=>hn (.inr e)⟩
   exact(h'.block (h.safe hs hk) (Nat.lt_of_lt_of_le hk h.size)).trans (h.block hs hk)
theorem Wrt.cell (h:Wrt b g w g' w') {a:Addr} {v:Value} (hs:Safe b g a.block) (hc:w.cell? a=some v):w'.cell? a=some v:=by
 rw[World.cell?_of_block (w:=w) (h.block hs (cell_lt hc))]
 exact hc
theorem Wrt.at_ (h:Wrt b g w g' w') {k t:Nat} {l:List Value} (hs:Safe b g k) (ha:At w k t l):At w' k t l:=(h.block hs ha.lt).trans ha
theorem Wrt.sl {α:Type} {enc:α→List Value} {sz:Nat} {A:Option Addr} {l:List α} (h:Wrt b g w g' w') (hs:Sl enc sz w A l) (hp:∀ a,A=some a→Safe b g a.block):Sl enc sz w' A l:=fun i x hi=>by
 obtain⟨a,ha,hc⟩:=hs i x hi
 exact⟨a,ha,fun j v hj=>h.cell (by rw[add_block,add_block];exact hp a ha) (hc j v hj)⟩
end
theorem BlG.ext {w w':World} {B b:Nat} {s:ByteArray} {g:Option Nat} (h:BlG w B b s g) (hk:∀ k,B≤k→k<w.heap.size→w'.heap[k]? = w.heap[k]?) (hsz:w.heap.size≤w'.heap.size):BlG w' B b s g:=by
 have bat:∀ p,Lib.BuilderAt 84 5 B b p (Lib.strCells s) w→Lib.BuilderAt 84 5 B b p (Lib.strCells s) w':=by
  rintro p ⟨hB,v,hb,hown,hne⟩;refine⟨hB,v,by rw[hk b hB (lt_of_block hb)];exact hb,?_,hne⟩;refine⟨hown.1,?_⟩;rcases hown.2 with h0 | ⟨g,cap,cur,hv,hbg,hg,r⟩
  · exact .inl h0
  · exact .inr ⟨g,cap,cur,hv,hbg,by rw[hk g hbg (lt_of_block hg)];exact hg,r⟩
 have hb:∃ p,B≤b∧∃ v,w.heap[b]? = some (.cells #[p,v] 84 (0,0)):=by
  rcases h.is with⟨hB,v,hb,_⟩ | ⟨hB,v,hb,_⟩
  · exact⟨_,hB,v,hb⟩
  · exact⟨_,hB,v,hb⟩
 obtain⟨p,hB,v,hb⟩:=hb;refine⟨h.is.imp (bat _) (bat _),fun p2 v2 T2 fz2 h2 => ?_,Nat.le_trans h.size hsz⟩;rw[hk b hB (lt_of_block hb)] at h2
 exact h.row _ _ _ _ h2
theorem BlG.lt {w:World} {B b:Nat} {s:ByteArray} {g:Option Nat} (h:BlG w B b s g):B≤b∧b<w.heap.size∧∀ k,g=some k→B≤k∧k<w.heap.size:=by
 have key:∀ p,Lib.BuilderAt 84 5 B b p (Lib.strCells s) w→B≤b∧b<w.heap.size∧∀ k,g=some k→B≤k∧k<w.heap.size:=by
  rintro p ⟨hB,v,hb,hown,hne⟩;refine⟨hB,lt_of_block hb,fun k hk => ?_⟩;have hv:=h.row _ _ _ _ hb;rw[hk] at hv
  exact hown.lt k hv
 exact h.is.elim (key _) (key _)
theorem Q7l:Qqr Tryz.prog 52:=⟨_,Tryz.func52,rfl,rfl⟩
theorem Q7k:Qqr Tryz.prog 51:=⟨_,Tryz.func51,rfl,rfl⟩
theorem Q4y:Qqr Tryz.prog 63:=⟨_,Tryz.func63,rfl,rfl⟩
theorem Qxl (s t:ByteArray):Lib.strCells s++Lib.strCells t=Lib.strCells (s++t):=by
 unfold Lib.strCells;rw[← List.map_append,← Array.toList_append,ByteArray.data_append]
theorem Q8k {w:World} {B b:Nat} {s:ByteArray} {g:Option Nat} (t:ByteArray) (h:BlG w B b s g) (hl:s.size+t.size≤140737488355328) :
 Cal Tryz.prog 52 [.pointer (some ⟨b,0,none⟩),.string t] w fun r w'=>r = .tuple #[.int .i64 t.size,.nilIface]∧∃ g',BlG w' B b (s++t) g'∧Wrt b g w g' w':=by
 refine Qb9 Q7l (Q99 B b _ t w g h.is h.row (by rw[Lib.strCells_length];exact hl) h.size) ?_;rintro w' ⟨h1,h2,g',h3,h4,h5⟩;rw[Qxl] at h1
 exact⟨rfl,g',⟨.inr h1,h3,Nat.le_trans h.size h2.size⟩,h4,h2.os,h2.tape,h2.output,h2.size,fun k hk hn=>h5 k hk (fun e=>hn (.inl e)) fun e=>hn (.inr e)⟩
theorem Q3j {w:World} {B b:Nat} {s:ByteArray} {g:Option Nat} (c:Int) (t:ByteArray) (ht:[Value.int .u8 c]=Lib.strCells t) (h:BlG w B b s g) (hl:s.size+1≤140737488355328) :
 Cal Tryz.prog 51 [.pointer (some ⟨b,0,none⟩),.int .u8 c] w fun r w'=>r = .nilIface∧∃ g',BlG w' B b (s++t) g'∧Wrt b g w g' w':=by
 refine Qb9 Q7k (Q98 B b _ c w g h.is h.row (by rw[Lib.strCells_length];exact hl) h.size) ?_;rintro w' ⟨h1,h2,g',h3,h4,h5⟩;rw[ht,Qxl] at h1
 exact⟨rfl,g',⟨.inr h1,h3,Nat.le_trans h.size h2.size⟩,h4,h2.os,h2.tape,h2.output,h2.size,fun k hk hn=>h5 k hk (fun e=>hn (.inl e)) fun e=>hn (.inr e)⟩
end Go.Proofs.YtdahooejkjcjiaaGreatDoor
namespace Go.Proofs.YtdahooejkjcjiaaGreatDoor
open Go.Se Go.RowKit
theorem Qny (name:ByteArray) (t:Int):∀ cs:List Ev,t∈(Xf cs name).map (·.at_)↔∃ x∈cs,x.item=name∧x.at_=t:=by
 refine Xe (by simp[Xf]) fun cs e ih => ?_
 have hx:(∃ x∈cs ++ [e],x.item=name∧x.at_=t)↔(∃ x∈cs,x.item=name∧x.at_=t)∨(e.item=name∧e.at_=t):=by
  constructor
  · rintro ⟨x,hx,h⟩
    rcases List.mem_append.1 hx with hx | hx
    · exact .inl ⟨x,hx,h⟩
    · rw[List.mem_singleton] at hx;subst hx;exact .inr h
  · rintro (⟨x,hx,h⟩ | h)
    · exact⟨x,by simp[hx],h⟩
    · exact⟨e,by simp,h⟩
 rw[Qcl,hx,← ih];unfold Qgk Qno
 by_cases hn:name=e.item
 · subst hn
   rw[if_pos rfl,List.map_append,List.mem_append,List.map_cons,List.map_nil,List.mem_singleton];have:(Qga (Xf cs e.item) e).at_=e.at_:=Qg5 _ _;rw[this];constructor
   · rintro (h | h)
     · exact .inl h
     · exact .inr ⟨rfl,h.symm⟩
   · rintro (h | ⟨_,h⟩)
     · exact .inl h
     · exact .inr h.symm
 · rw[if_neg hn]
   constructor
   · exact .inl
   · rintro (h | ⟨h,_⟩)
     · exact h
     · exact absurd h.symm hn
def Qe3 (cs:List Ev) (t:Int) (name:ByteArray):Bool:=(Xz cs name t).2&&(Xz cs name t).1.listed
theorem Q3x (it:It) (w:World):Cal Tryz.prog 166 [.agg (itC it).toArray] w fun r w'=>r = .bool true∧Ext w w':=by
 refine Fi Tryz.func166 rfl _ rfl rfl ?_;conv=>whnf
 intro b w1 hn;(conv=>whnf);repeat(refine Sg ?_;(conv=>whnf))
 exact⟨rfl,hn.ext⟩
theorem Q2u {w:World} {S:Nat→Prop} {bm:Nat} {cs:List Ev} {L:List (ByteArray×(Option Addr×Nat))} (h:Qcs stC 9 234 w S bm (Xf cs) L):L.length≤cs.length:=by
 have hn:(L.map (·.1)).Nodup:=Qao h.keys
 have hs:∀ x∈L.map (·.1),x∈cs.map (·.item):=fun x hx=>by
  obtain⟨y,hy,rfl⟩:=List.mem_map.1 hx;have hne:=h.ne y hy;obtain⟨s,hs⟩:=List.exists_mem_of_ne_nil _ hne;obtain⟨e,he,hi,_⟩:=(Qny y.1 s.at_ cs).1 (List.mem_map.2 ⟨s,hs,rfl⟩)
  exact List.mem_map.2 ⟨e,he,hi⟩
 have:=Qi1 hn hs
 simpa using this
theorem Qxp {α:Type} (rows:ByteArray→List α) (L:List (ByteArray×(Option Addr×Nat))):(toV rows L).map (·.1)=L.map (·.1):=by unfold toV;rw[List.map_map];rfl
set_option maxHeartbeats 1000000 in
theorem Qv9 (w:World) (S:Nat→Prop) (p:Nat) (cs:List Ev) (h:Qh8 w S p cs) (t:Int) (hl:∀ name,(Xf cs name).length<1000000000000) (hcl:cs.length<100000) :
 Cal Tryz.prog 165 [.pointer (some ⟨p,0,none⟩),.int .i64 t,.func (.func 166) #[] #[]] w fun r w'=>∃ A c K,r = .slice A (Qad K).length c∧SlT w' A (Qad K)∧K.Nodup∧(∀ x,x∈K↔Qe3 cs t x=true)∧K.length<1000000∧(∀ a,A=some a→w.heap.size≤a.block)∧Ext w w':=by
 obtain⟨bm,L,hC⟩:=id h;have hLl:=Q2u hC.rows;have hkn:(L.map (·.1)).Nodup:=Qao hC.rows.keys
 have hin:∀ x,Qe3 cs t x=true→x∈L.map (·.1):=fun x hx=>by
  rw[Qin]
  cases hq:Qd L x with
  | some v=>rfl
  | none =>
    have h0:=hC.rows.all x hq;unfold Qe3 Xz at hx;rw[h0] at hx
    simp at hx
 have hmap:=hC.rows.map;refine Fi Tryz.func165 rfl _ rfl rfl ?_;conv=>whnf
 refine⟨.map (some bm),hC.head.one rfl,?_⟩;(conv=>whnf);repeat(refine Sg ?_;(conv=>whnf))
 refine map_range Qxr hmap fun w3 hi3 hx3 => ?_
 have hs3:w.heap.size<w3.heap.size:=hi3.lt;generalize hr:w.heap.size=r at hi3 hs3 ⊢
 (conv=>whnf);repeat(refine Sg ?_;(conv=>whnf))
 refine Qe Qa (fun(q:List (ByteArray×Value)×Option Addr×Nat×List ByteArray) w'=>Ext w w'∧Iter w' r bm Value.string (toV (Xf cs) L) q.1∧q.2.2.2=(q.1.map (·.1)).filter (Qe3 cs t)∧q.1.length≤L.length∧Own Qa8 1 9 w3.heap.size w' q.2.1 q.2.2.1 q.2.2.2∧w3.heap.size≤w'.heap.size)
  (fun | (vs,A,c,K) => [(0,.pointer (some ⟨p,0,none⟩)),(1,.int .i64 t),(2,.func (.func 166) #[] #[]),(7,.slice A K.length c),(15,.pointer (some ⟨r,0,none⟩))]) (fun q=>L.length-q.1.length) ([],none,0,[]) ⟨hx3,hi3,rfl,Nat.zero_le _,Own.nil,Nat.le_refl _⟩ ⟨rfl,rfl,rfl,rfl,rfl,trivial⟩ ?_
 clear hi3 hx3;rintro ⟨vs,A,c,K⟩ w4 ⟨hx4,hi4,hK,hvl,hown,h34⟩;simp only at hi4 hK hvl hown
 have hKl:K.length≤vs.length:=by
  rw[hK];have:=List.length_filter_le (Qe3 cs t) (vs.map (·.1));rw[List.length_map] at this
  exact this
 conv=>whnf
 refine Qil hi4 (fun hp => ?_) (fun x w5 hxin hnew hlt hi5 ho5 hen => ?_)
 · (conv=>whnf);repeat(refine Sg ?_;(conv=>whnf))
   constructor
   · intro hh;cases hh
   intro _
   have hpk:(vs.map (·.1)).Perm (L.map (·.1)):=by
    have:=hp.map (·.1);rw[Qxp] at this
    exact this
   have hKn:K.Nodup:=by rw[hK];exact(hpk.nodup_iff.2 hkn).sublist List.filter_sublist
   have hKm:∀ x,x∈K↔Qe3 cs t x=true:=fun x=>by
    rw[hK,List.mem_filter]
    exact⟨fun h=>h.2,fun h=>⟨hpk.mem_iff.2 (hin x h),h⟩⟩
   (conv=>whnf);repeat(refine Sg ?_;(conv=>whnf))
   refine(Qkg K A c w3.heap.size w4 hown (by omega)).mono ?_;rintro _ w5 ⟨rfl,hsl,hx5⟩
   (conv=>whnf);repeat(refine Sg ?_;(conv=>whnf))
   refine⟨A,c,K,?_,hsl,hKn,hKm,by omega,fun a ha=>by have:=(hown.block ha).1;omega,hx5 w hx4 (by omega)⟩;rw[Qc1]
 · have hx5:=ho5.ext hx4 (by omega)
   have hown5:Own Qa8 1 9 w3.heap.size w5 A c K:=hown.keep fun a ha=>ho5.block _ (by have:=(hown.block ha).1;omega)
   have hlt:vs.length<L.length:=by simpa [toV] using hlt
   have hsn:((vs ++ [x]).map (·.1)).filter (Qe3 cs t)=K++if Qe3 cs t x.1=true then [x.1] else []:=by
    rw[List.map_append,List.filter_append,hK]
    congr 1
    by_cases hq:Qe3 cs t x.1=true
    · simp[hq]
    · simp[hq]
   have s5:=ho5.size
   (conv=>whnf);repeat(refine Sg ?_;(conv=>whnf))
   constructor
   · intro _
     (conv=>whnf);repeat(refine Sg ?_;(conv=>whnf))
     refine Qdl (hen w5 rfl rfl) ?_
     (conv=>whnf);repeat(refine Sg ?_;(conv=>whnf))
     refine(Qha w5 S p cs (h.ext hx5) x.1 t (hl x.1)).mono ?_;rintro _ w6 ⟨rfl,hx6⟩
     (conv=>whnf);repeat(refine Sg ?_;(conv=>whnf))
     intro b9 w7 hn7;(conv=>whnf);repeat(refine Sg ?_;(conv=>whnf))
     refine Qh Qa (e:=ty158) rfl hn7.At rfl rfl rfl (by simp[Qq,itC,Value.oneCell']) fun w8 h9 ho8 => ?_
     have h9:At w8 b9 158 (itC (Xz cs x.1 t).1):=h9;have hx58:Ext w5 w8:=ho8.ext (hx6.trans hn7.ext) (by rw[hn7.block];exact hx6.size);clear ho8 hn7 hx6
     (conv=>whnf);repeat(refine Sg ?_;(conv=>whnf))
     refine⟨.bool (Xz cs x.1 t).1.listed,fun _=>h9.one rfl,?_⟩;(conv=>whnf);repeat(refine Sg ?_;(conv=>whnf))
     refine⟨itC (Xz cs x.1 t).1,fun _=>⟨rfl,h9.all⟩,?_⟩;(conv=>whnf);repeat(refine Sg ?_;(conv=>whnf))
     refine⟨Unit,fun _=>(.bool true),fun _ w'=>Ext w8 w',(),fun hg=>((Q3x (Xz cs x.1 t).1 w8)).mono fun r w' h=>⟨(),h.1,h.2⟩,?_⟩;intro _ w9 h2
     have hx89:Ext w8 w9:=by
      rcases h2 with⟨_,h⟩ | ⟨_,h⟩
      · exact h
      · rw[h];exact Ext.refl _
     clear h2
     conv=>whnf
     have hx59:=hx58.trans hx89;have hi9:=hi5.ext hx59;have hown9:=hown5.ext hx59;have hx9:=hx5.trans hx59;have s9:=hx59.size;clear hx58 hx89 h9 hi5 hown5
     (conv=>whnf);repeat(refine Sg ?_;(conv=>whnf))
     constructor
     · intro hq
       have hq:Qe3 cs t x.1=true:=by
        have:(((Xz cs x.1 t).2&&(Xz cs x.1 t).1.listed)&&true)=true:=hq;rw[Bool.and_true] at this
        exact this
       rw[if_pos hq] at hsn
       (conv=>whnf);repeat(refine Sg ?_;(conv=>whnf))
       intro bb wb hnb;(conv=>whnf);repeat(refine Sg ?_;(conv=>whnf))
       refine Qg Q9 (l:=K) (news := [x.1]) rfl (hown9.ext hnb.ext) rfl (Q9.new1 (x:=x.1) hnb) (by simp;omega) (by have:=hnb.size;omega) fun A6 c6 w6 hown6 hg6 hA6 => ?_
       have hr6:∀ k,A.map (·.block)=some k→w3.heap.size≤k:=Qp (hown9.ext hnb.ext);have hx6:Ext w w6:=Qi (hx9.trans hnb.ext) hg6 (fun k hk=>by have:=hr6 k hk;omega)
       have hi6:Iter w6 r bm Value.string (toV (Xf cs) L) (vs ++ [x]):=by
        have hib:=hi9.ext hnb.ext;have hbl:=hmap.lt
        exact hib.keep (hg6.block bm hib.map.lt fun e=>by have:=hr6 bm e.symm;omega) (hg6.block r hib.lt fun e=>by have:=hr6 r e.symm;omega)
       have sb:=hnb.size;have s6:=hg6.size;generalize K ++ [x.1]=K2 at hown6 hsn ⊢
       (conv=>whnf);repeat(refine Sg ?_;(conv=>whnf))
       exact⟨(vs ++ [x],A6,c6,K2),by simp;omega,⟨hx6,hi6,hsn.symm,by simp;omega,hown6,by omega⟩,⟨rfl,rfl,rfl,rfl,rfl,trivial⟩⟩
     · intro hq
       have hq:¬ Qe3 cs t x.1=true:=fun h=>by
        have:(((Xz cs x.1 t).2&&(Xz cs x.1 t).1.listed)&&true)=false:=hq;rw[Bool.and_true] at this;unfold Qe3 at h;rw[this] at h
        cases h
       rw[if_neg hq,List.append_nil] at hsn
       (conv=>whnf);repeat(refine Sg ?_;(conv=>whnf))
       exact⟨(vs ++ [x],A,c,K),by simp;omega,⟨hx9,hi9,hsn.symm,by simp;omega,hown9,by omega⟩,⟨rfl,rfl,rfl,rfl,rfl,trivial⟩⟩
   · intro hh;cases hh
theorem Quq (w:World) (S:Nat→Prop) (p:Nat) (cs:List Ev) (h:Qh8 w S p cs) (t:Int) (hl:∀ name,(Xf cs name).length<1000000000000) (hcl:cs.length<100000) :
 Cal Tryz.prog 106 [.pointer (some ⟨p,0,none⟩),.int .i64 t] w fun r w'=>∃ A c K,r = .slice A (Qad K).length c∧SlT w' A (Qad K)∧K.Nodup∧(∀ x,x∈K↔Qe3 cs t x=true)∧K.length<1000000∧(∀ a,A=some a→w.heap.size≤a.block)∧Ext w w':=by
 refine Fi Tryz.func106 rfl _ rfl rfl ?_;conv=>whnf
 refine(Qv9 w S p cs h t hl hcl).mono ?_;rintro _ w2 ⟨A,c,K,rfl,h2,h3,h4,h5,h6,h7⟩
 (conv=>whnf);repeat(refine Sg ?_;(conv=>whnf))
 exact⟨A,c,K,rfl,h2,h3,h4,h5,h6,h7⟩
def nlB:ByteArray:=⟨#[10]⟩
def Xj:List ByteArray→ByteArray
 | []=>⟨#[]⟩
 | x :: l=>x++Xj l
theorem Qcg:Xj []=⟨#[]⟩:=rfl
theorem Qq1 (x:ByteArray):(⟨#[]⟩:ByteArray)++x=x:=by apply ByteArray.ext;simp
theorem X3 (x:ByteArray):x++(⟨#[]⟩:ByteArray)=x:=by apply ByteArray.ext;simp
theorem Qfs (l m:List ByteArray):Xj (l++m)=Xj l++Xj m:=by
 induction l with
 | nil=>rw[List.nil_append,Qcg,Qq1]
 | cons x l ih =>
   show x++Xj (l++m)=(x++Xj l)++Xj m
   rw[ih,ByteArray.append_assoc]
theorem Xi {α:Type} (f:α→ByteArray) (l:List α) (k:Nat) (h:k<l.length):Xj ((l.take (k+1)).map f)=Xj ((l.take k).map f)++f l[k]:=by
 rw[List.take_succ_eq_append_getElem h,List.map_append,Qfs]
 congr 1
 show Xj [f l[k]]=f l[k]
 unfold Xj;rw[Qcg,X3]
def Qbt:List ByteArray→ByteArray
 | []=>⟨#[]⟩
 | w :: ws=>Xx w++Xj (ws.map fun x=>spB++Xx x)
theorem Qwd (ws:List ByteArray) (k:Nat) (h:k<ws.length):Qbt (ws.take (k+1))=(if 0<k then Qbt (ws.take k)++spB else Qbt (ws.take k))++Xx ws[k]:=by
 cases ws with
 | nil=>simp at h
 | cons w ws =>
   cases k with
   | zero =>
     show Xx w++Xj []=_
     rw[if_neg (by omega)];show Xx w++Xj []=Qbt []++Xx w
     unfold Qbt;rw[Qcg,Qq1,X3]
   | succ k =>
     have h2:k<ws.length:=by simpa using h
     rw[if_pos (by omega)];show Xx w++Xj ((ws.take (k+1)).map fun x=>spB++Xx x)=(Xx w++Xj ((ws.take k).map fun x=>spB++Xx x))++spB++Xx ws[k]
     rw[Xi _ ws k h2];simp only[ByteArray.append_assoc]
def Qb6 (ws:List ByteArray):ByteArray:=Qbt ws++nlB
def jnB (l:List ByteArray):ByteArray:=⟨(Lib.join (l.map (·.data.toList)) [44]).toArray⟩
def nB (n:Int):ByteArray:=Qqu n.toNat
def Qho:ByteArray:=⟨#[99,111,110,102,105,103]⟩
def Qg6:ByteArray:=⟨#[101,118,101,110,116]⟩
def Qg7:ByteArray:=⟨#[116,104,105,110,103]⟩
def Qc3:ByteArray:=⟨#[112,111,112,117,108,97,114]⟩
def Qkk:ByteArray:=⟨#[112,97,110,101]⟩
def Qdr:ByteArray:=⟨#[115,101,115,115,105,111,110]⟩
def Qi6:ByteArray:=⟨#[112,97,105,114]⟩
def Qek:ByteArray:=⟨#[116,97,115,116,101]⟩
def Qdc (l:List Ct):List Ct:=l.mergeSort fun a b => !Qe4 b a
theorem Q4t (a b c:Ct) (h1:Qe4 b a=false) (h2:Qe4 c b=false):Qe4 c a=false:=by
 unfold Qe4 at *;simp only[Bool.or_eq_false_iff,decide_eq_false_iff_not,Bool.and_eq_false_iff] at *;refine⟨by omega,?_⟩
 by_cases e:c.2=a.2
 · right
   have e1:b.2=a.2:=by omega
   have e2:c.2=b.2:=by omega
   have q1:bLt b.1 a.1=false:=h1.2.elim (fun h=>absurd e1 h) id;have q2:bLt c.1 b.1=false:=h2.2.elim (fun h=>absurd e2 h) id
   cases hc:bLt c.1 a.1 with
   | false=>rfl
   | true =>
     cases hb:bLt a.1 b.1 with
     | true=>rw[Qaz hc hb] at q2;cases q2
     | false=>rw[Qb2 hb q1,q2] at hc;cases hc
 · exact .inl e
theorem Qyo (a b:Ct):((!Qe4 b a)||(!Qe4 a b))=true:=by
 cases h:Qe4 b a with
 | false=>rfl
 | true =>
   cases h2:Qe4 a b with
   | false=>rfl
   | true =>
     unfold Qe4 at h h2;simp only[Bool.or_eq_true,decide_eq_true_eq,Bool.and_eq_true] at h h2
     exfalso
     have e:a.2=b.2:=by omega
     have q1:bLt b.1 a.1=true:=by rcases h with h | h;omega;exact h.2
     have q2:bLt a.1 b.1=true:=by rcases h2 with h | h;omega;exact h.2
     have:=Qaz q1 q2;rw[X9] at this;cases this
theorem Qjz (l:List Ct):(Qdc l).Perm l:=List.mergeSort_perm _ _
theorem Q24 (l:List Ct):Srt Qe4 (Qdc l):=by
 have:=List.pairwise_mergeSort (le:=fun a b => !Qe4 b a) (fun a b c h1 h2=>by
  simp only[Bool.not_eq_true'] at *
  exact Q4t a b c h1 h2) Qyo l
 exact this.imp fun h=>by simpa using h
theorem Qqg {F L:List Ct} (hp:F.Perm L) (hs:Srt Qe4 F):F=Qdc L:=by
 refine Qzr (hp.trans (Qjz L).symm) hs (Q24 L) fun x _ y _ h1 h2 => ?_
 unfold Qe4 at h1 h2;simp only[Bool.or_eq_false_iff,decide_eq_false_iff_not,Bool.and_eq_false_iff] at h1 h2;have e2:x.2=y.2:=by omega
 have e1:x.1=y.1:=by
  have q1:bLt x.1 y.1=false:=h1.2.elim (fun h=>absurd e2 h) id;have q2:bLt y.1 x.1=false:=h2.2.elim (fun h=>absurd e2.symm h) id
  exact Qb2 q1 q2
 exact Prod.ext e1 e2
def Qz9 (c:Cfg):ByteArray:=Qb6 [Qho,nB c.half,nB c.width,nB c.gap,nB c.span,nB c.floor,nB c.crowd]
def evD (e:Ev):ByteArray:=Qb6 [Qg6,Qpj e]
def Qcn (z:List Ev) (now:Int):List ByteArray:=Qbl (((Qs z).map (·.item)).filter (Qe3 (Qs z) now))
def thD (z:List Ev) (now:Int) (name:ByteArray):ByteArray:=Qb6 [Qg7,name,(Xz (Qs z) name now).1.maker,(Xz (Qs z) name now).1.tags,nB (Xz (Qs z) name now).1.price,nB (Xz (Qs z) name now).1.stock,nB (Xz (Qs z) name now).1.born]
def Qci (s:Qkm) (half now:Int):List Ct:=((s.map (·.1)).map fun k=>(k,Qaa s half k now)).filter fun x=>decide (0<x.2)
def Qna (x:Ct):ByteArray:=Qb6 [Qc3,x.1,nB x.2]
def snD (s:Sn):ByteArray:=Qb6 [Qdr,s.person,nB s.from_,nB s.to_,jnB s.items]
def X6 (S:List Sn):List ByteArray:=Qbl (S.flatMap (·.items))
def Qc4 (S:List Sn) (a:ByteArray):List ByteArray:=Qbl ((S.flatMap (·.items)).filter fun b => !decide (a=b)&&decide (0<Qa2 S a b))
def Qkr (S:List Sn) (a b:ByteArray):ByteArray:=if bLt a b=true then Qb6 [Qi6,a,b,nB (Qa2 S a b)] else⟨#[]⟩
def Qbq (S:List Sn) (a:ByteArray):ByteArray:=Xj ((Qc4 S a).map (Qkr S a))
def Qfn (person:ByteArray) (x:Ct):ByteArray:=Qb6 [Qek,person,x.1,nB x.2]
def Qc5 (z:List Ev) (c:Cfg) (key:ByteArray):ByteArray:=Qb6 [Qkk,key,nB (paS (Qo c.width z).ps key (0/Qw c.width) ((1099511627776+c.width)/Qw c.width))]
def Qry (z:List Ev):List ByteArray:=Qbl ((Qe6 z).map (·.person))
def Qdu (z:List Ev) (c:Cfg) (now:Int) (person:ByteArray):ByteArray:=Xj ((Qdc (Q3p (Qw c.half) now (rowsOf (Qo c.width z).rs person))).map (Qfn person))
def Q0b (c:Cfg) (z:List Ev) (now:Int):ByteArray :=
 Qz9 c++Xj (z.map evD)++Xj ((Qcn z now).map (thD z now))++Xj ((Qdc (Qci (Qo c.width z).ds (Qw c.half) now)).map Qna)
  ++ Xj ((Qb5 (Qo c.width z).ps (0/Qw c.width) ((1099511627776+c.width)/Qw c.width)).map (Qc5 z c))
  ++ Xj ((Qc0 c z).map snD)++Xj ((X6 (Qc0 c z)).map (Qbq (Qc0 c z)))++Xj ((Qry z).map (Qdu z c now))
theorem Qzm {S:List Sn} {a:ByteArray}:0<Qgy S a↔a∈S.flatMap (·.items):=by
 unfold Qgy hasB;rw[List.length_pos_iff_exists_mem,List.mem_flatMap];simp only[List.mem_filter,decide_eq_true_eq]
theorem Q14 {S:List Sn} {a b:ByteArray} (h:0<Qa2 S a b):b∈S.flatMap (·.items):=by
 unfold Qa2 hasB at h;rw[List.length_pos_iff_exists_mem] at h;obtain⟨s,hs⟩:=h;simp only[List.mem_filter,Bool.and_eq_true,decide_eq_true_eq] at hs
 exact List.mem_flatMap.2 ⟨s,hs.1,hs.2.2⟩
theorem Qw1 {m:List (ByteArray×Int)} (h:∀ x∈m,0<x.2) {a:ByteArray}:a∈m.map (·.1)↔0<(Qd m a).getD 0:=by
 rw[Qin]
 cases hq:Qd m a with
 | none=>simp
 | some v=>simpa using h (a,v) (Qbj hq)
theorem TabIs.items {sg:List (ByteArray×Int)} {ct:Qta} {S:List Sn} (h:TabIs sg ct S) (hn:sg.Pairwise (fun x y=>x.1≠y.1)):Qad (sg.map (·.1))=X6 S:=by
 refine Qgx (Qao hn) fun x => ?_
 rw[Qw1 h.pos.1,h.sg,← Qzm];omega
theorem Qk7 {S:List Sn} {a b:ByteArray}:b∈(S.flatMap (·.items)).filter (fun b => !decide (a=b)&&decide (0<Qa2 S a b))↔a≠b∧0<Qa2 S a b:=by
 rw[List.mem_filter,Bool.and_eq_true,Bool.not_eq_true',decide_eq_false_iff_not,decide_eq_true_eq]
 exact⟨fun h=>h.2,fun h=>⟨Q14 h.2,h⟩⟩
theorem TabIs.near {sg:List (ByteArray×Int)} {ct:Qta} {S:List Sn} (h:TabIs sg ct S) {a:ByteArray} {m:List (ByteArray×Int)} (hm:Qd ct a=some m) (hn:m.Pairwise (fun x y=>x.1≠y.1)):Qad (m.map (·.1))=Qc4 S a:=by
 refine Qgx (Qao hn) fun x => ?_
 rw[Qw1 (h.pos.2 (a,m) (Qbj hm)),Qk7];have:=h.ct a x;rw[hm] at this;simp only[Option.getD_some] at this;rw[this]
 by_cases hx:a=x
 · simp[hx]
 · rw[if_neg hx]
   exact⟨fun h=>⟨hx,by omega⟩,fun h=>by have:=h.2;omega⟩
theorem TabIs.near0 {sg:List (ByteArray×Int)} {ct:Qta} {S:List Sn} (h:TabIs sg ct S) {a:ByteArray} (hm:Qd ct a=none):Qc4 S a = []:=by
 have:∀ x,x∉Qc4 S a:=fun x hx=>by
  unfold Qc4 at hx;rw[X0,Qk7] at hx;have h2:=h.ct a x;rw[hm] at h2;rw[if_neg hx.1] at h2;have h3:(Qd ((none:Option (List (ByteArray×Int))).getD []) x).getD 0=0:=rfl;rw[h3] at h2;omega
 cases hq:Qc4 S a with
 | nil=>rfl
 | cons y l=>exact absurd (by rw[hq];simp) (this y)
theorem Q0q (x:ByteArray) (l:List ByteArray):Xj (x :: l)=x++Xj l:=rfl
theorem Qq3 {K:Nat}:∀ l:List ByteArray,(∀ x∈l,x.size≤K)→(Xj l).size≤l.length*K
 | [],_=>Nat.zero_le _
 | x :: l,h=>by
   have ih:=Qq3 (K:=K) l fun y hy=>h y (by simp[hy])
   have hx:=h x (by simp);rw[Q0q,ByteArray.size_append,List.length_cons,Nat.succ_mul];omega
theorem Qa6 {α:Type} (f:α→ByteArray) {K:Nat} (l:List α) (h:∀ x∈l,(f x).size≤K):(Xj (l.map f)).size≤l.length*K:=by
 have:=Qq3 (K:=K) (l.map f) fun y hy=>by
  obtain⟨x,hx,rfl⟩:=List.mem_map.1 hy
  exact h x hx
 rwa [List.length_map] at this
theorem Qae {α:Type} (f:α→ByteArray) (l:List α) (k:Nat):(Xj ((l.take k).map f)).size≤(Xj (l.map f)).size:=by
 have h:l.map f=(l.take k).map f++(l.drop k).map f:=by rw[← List.map_append,List.take_append_drop]
 rw[h,Qfs,ByteArray.size_append];omega
theorem Qhl (s:ByteArray):(Xx s).size≤s.size+1:=Qhk s
theorem Qwc {K:Nat} (ws:List ByteArray) (h:∀ x∈ws,x.size≤K):(Qbt ws).size≤ws.length*(K+2):=by
 cases ws with
 | nil=>exact Nat.zero_le _
 | cons w ws =>
   have h1:=Qa6 (K:=K+2) (fun x=>spB++Xx x) ws fun x hx=>by
    have h1:=h x (by simp[hx]);have h2:=Qhl x;have h3:spB.size=1:=rfl;rw[ByteArray.size_append];omega
   have h2:=h w (by simp);have h3:=Qhl w;show (Xx w++Xj (ws.map fun x=>spB++Xx x)).size≤_
   rw[ByteArray.size_append,List.length_cons,Nat.succ_mul];omega
theorem Qut:nlB.size=1:=rfl
theorem Qcm {K:Nat} (ws:List ByteArray) (h:∀ x∈ws,x.size≤K):(Qb6 ws).size≤ws.length*(K+2)+1:=by
 have:=Qwc ws h;unfold Qb6;rw[ByteArray.size_append,Qut];omega
theorem Qak {n:Int} (h:n≤9223372036854775807):(nB n).size≤21:=Qec _ (by omega)
theorem Qj1 {z:List Ev} (hm:∀ e∈z,Xw e=true) {e:Ev} (he:e∈Qs z):Qm e.item=true:=by
 obtain⟨h1,h2⟩:=List.mem_filter.1 he;have hk:=Qbm (Qb8.1 (hm e h1)).kind;have h3:e.kind=11∨e.kind=12∨e.kind=13:=by simpa [thB] using h2
 rcases hk with⟨h,_⟩ | ⟨h,_⟩ | ⟨h,_⟩ | ⟨_,_,h,_⟩ | ⟨_,_,h,_⟩ | ⟨_,_,h,_⟩ | ⟨h,_⟩
 · omega
 · omega
 · omega
 · exact h
 · exact h
 · exact h
 · omega
theorem Quz {z:List Ev} (hm:∀ e∈z,Xw e=true) {e:Ev} (he:e∈Qe6 z):Qm e.person=true:=by
 obtain⟨h1,h2⟩:=List.mem_filter.1 he;have hk:=Qbm (Qb8.1 (hm e h1)).kind;have h3:¬ (e.kind=11∨e.kind=12∨e.kind=13)∧¬ e.kind=14:=by simpa [peB,thB] using h2
 rcases hk with⟨_,h,_⟩ | ⟨_,h,_⟩ | ⟨_,h,_⟩ | ⟨h,_⟩ | ⟨h,_⟩ | ⟨h,_⟩ | ⟨h,_⟩
 · exact h
 · exact h
 · exact h
 · omega
 · omega
 · omega
 · omega
theorem Qf5 {z:List Ev} (hm:∀ e∈z,Xw e=true) {e:Ev} (he:e∈z.filter wpB):Qm e.person=true∧Qm e.item=true:=by
 obtain⟨h1,h2⟩:=List.mem_filter.1 he
 exact Qcj (hm e h1) (by simpa [wpB] using h2)
def ItB (i:It):Prop:=i.maker.size<1000∧i.tags.size<1000∧(0≤i.price∧i.price≤1099511627776)∧(0≤i.stock∧i.stock≤1099511627776)∧0≤i.born∧i.born≤1099511627776
theorem Qug (name:ByteArray):ItB { Qce with name:=name }:=by
 have h:(⟨#[]⟩:ByteArray).size=0:=rfl;unfold ItB Qce;simp only[h];omega
theorem Xak {s:St} {e:Ev} (h:ItB s.item) (he:Xw e=true) (hk:e.kind=11∨e.kind=12∨e.kind=13):ItB (Qat s e).item:=by
 have hc:=Qbm (Qb8.1 he).kind;have ha:=(Qb8.1 he).at_;obtain⟨h1,h2,h3,h4,h5⟩:=h;have hr:=Qiu e.text;have ht:=Qet he;unfold Qat
 split
 · next k =>
   have hl:Qb1 e.text=true∧0≤e.val∧e.val≤1048576:=by
    rcases hc with⟨h,_⟩ | ⟨h,_⟩ | ⟨h,_⟩ | ⟨_,_,_,h⟩ | ⟨h,_⟩ | ⟨h,_⟩ | ⟨h,_⟩
    · omega
    · omega
    · omega
    · exact h
    · omega
    · omega
    · omega
   have hn:Qm (Qas e.text)=true:=by
    have:=hl.1;unfold Qb1 at this;simp only[Bool.and_eq_true] at this
    exact this.1.2
   have hs:=Qbf hn;refine⟨by show (Qas e.text).size<1000;omega,by show (Qaj e.text).size<1000;omega,by show 0≤e.val∧e.val≤_;omega,h4,?_⟩;show 0≤(if s.born=true then s.item.born else e.at_)∧(if s.born=true then s.item.born else e.at_)≤_
   split
   · exact h5
   · exact ha
 · split
   · next k =>
     have hl:0≤e.val∧e.val≤1048576:=by
      rcases hc with⟨h,_⟩ | ⟨h,_⟩ | ⟨h,_⟩ | ⟨h,_⟩ | ⟨_,_,_,_,h⟩ | ⟨h,_⟩ | ⟨h,_⟩
      · omega
      · omega
      · omega
      · omega
      · exact h
      · omega
      · omega
     exact⟨h1,h2,h3,by show 0≤e.val∧e.val≤_;omega,h5⟩
   · exact⟨h1,h2,h3,h4,h5⟩
theorem Qxz:∀ cs:List Ev,(∀ e∈cs,Xw e=true∧(e.kind=11∨e.kind=12∨e.kind=13))→∀ name,∀ s∈Xf cs name,ItB s.item:=by
 refine Xe (fun _ name s hs=>by simp[Xf] at hs) fun l e ih h name s hs => ?_
 have ih:=ih (fun x hx=>h x (by simp[hx]));obtain⟨he,hk⟩:=h e (by simp);rw[Qcl] at hs;unfold Qgk Qno at hs
 split at hs
 · rcases List.mem_append.1 hs with hs | hs
   · exact ih _ s hs
   · rw[List.mem_singleton] at hs
     subst hs;unfold Qga;refine Xak ?_ he hk
     cases hq:(Xf l e.item).getLast? with
     | none=>exact Qug _
     | some s=>exact ih _ s (List.mem_of_getLast? hq)
 · exact ih name s hs
theorem Qtm {z:List Ev} (hm:∀ e∈z,Xw e=true) (name:ByteArray) (t:Int):ItB (Xz (Qs z) name t).1:=by
 have hb:=Qxz (Qs z) (fun e he=>⟨hm e (List.mem_filter.1 he).1,by simpa [thB] using (List.mem_filter.1 he).2⟩) name;unfold Xz
 split
 · next s hs =>
   split
   · exact Qug ⟨#[]⟩
   · exact hb s (List.mem_of_getElem? hs)
 · exact Qug ⟨#[]⟩
theorem names_in {z:List Ev} {now:Int} {x:ByteArray} (h:x∈Qcn z now):∃ e∈Qs z,e.item=x:=by
 unfold Qcn at h;rw[X0] at h;obtain⟨e,he,hx⟩:=List.mem_map.1 (List.mem_filter.1 h).1
 exact⟨e,he,hx⟩
theorem Ql8 (z:List Ev) (now:Int):(Qcn z now).length≤z.length:=by
 unfold Qcn;have h1:=Qf3 (((Qs z).map (·.item)).filter (Qe3 (Qs z) now));have h2:=List.length_filter_le (Qe3 (Qs z) now) ((Qs z).map (·.item));have h3:(Qs z).length≤z.length:=List.length_filter_le thB z;rw[List.length_map] at h2;omega
theorem Qtz:∀ l:List Ev,(Qfo l).length≤l.length∧∀ x∈Qfo l,∃ e∈l,e.item=x.1:=by
 refine Xe ⟨by simp[Qfo],fun x hx=>by simp[Qfo] at hx⟩ fun l e ih => ?_
 rw[Qlp,List.length_append,List.length_singleton];unfold Qoh
 split
 · exact⟨by omega,fun x hx=>by obtain⟨u,hu,h⟩:=ih.2 x hx;exact⟨u,by simp[hu],h⟩⟩
 · have:=Qfr e.item (Xn ((Qd (Qfo l) e.item).getD []) e.at_ ((Qd ((Qd (Qfo l) e.item).getD []) e.at_).getD 0+Qv e)) (Qfo l)
   refine⟨by omega,fun x hx => ?_⟩;rcases Qcf hx with h | hx
   · exact⟨e,by simp,by rw[h]⟩
   · obtain⟨u,hu,h⟩:=ih.2 x hx;exact⟨u,by simp[hu],h⟩
theorem Qp3 (width:Int):∀ l:List Ev,(Qgd width l).length≤l.length∧∀ x∈Qgd width l,∃ e∈l,e.item=x.1.1:=by
 refine Xe ⟨by simp[Qgd],fun x hx=>by simp[Qgd] at hx⟩ fun l e ih => ?_
 rw[Qp4,List.length_append,List.length_singleton];unfold Qog
 split
 · exact⟨by omega,fun x hx=>by obtain⟨u,hu,h⟩:=ih.2 x hx;exact⟨u,by simp[hu],h⟩⟩
 · have:=Qfr (e.item,e.at_/Qw width) ((Qd (Qgd width l) (e.item,e.at_/Qw width)).getD 0+Qv e) (Qgd width l)
   refine⟨by omega,fun x hx => ?_⟩;rcases Qcf hx with h | hx
   · exact⟨e,by simp,by rw[h]⟩
   · obtain⟨u,hu,h⟩:=ih.2 x hx;exact⟨u,by simp[hu],h⟩
theorem Qln {z:List Ev} (hm:∀ e∈z,Xw e=true) (hz:z.length<1000) (half:Int) (key:ByteArray) (now:Int):Qaa (Qfo (z.filter wpB)) half key now=Qng (z.filter wpB) half key now∧0≤Qng (z.filter wpB) half key now∧Qng (z.filter wpB) half key now≤1099511627776:=by
 have hb:=Q2e (Qs7 hm) half key now;have hl:=List.length_filter_le wpB z;refine⟨?_,hb.1,by omega⟩;unfold Qaa;rw[Q8v _ _ _ _ (fun e he=>(List.mem_filter.1 he).2)]
 exact(wrap_eq rfl ⟨by omega,by omega⟩).symm
theorem Qql {z:List Ev} (hm:∀ e∈z,Xw e=true) (hz:z.length<1000) {half now:Int} {x:Ct} (h:x∈Qci (Qfo (z.filter wpB)) half now):Qm x.1=true∧0<x.2∧x.2≤1099511627776:=by
 unfold Qci at h;obtain⟨h1,h2⟩:=List.mem_filter.1 h;obtain⟨k,hk,rfl⟩:=List.mem_map.1 h1;obtain⟨y,hy,rfl⟩:=List.mem_map.1 hk;obtain⟨e,he,hi⟩:=(Qtz _).2 y hy;have hn:=(Qf5 hm he).2;have hc:=Qln hm hz half y.1 now;rw[hi] at hn;have h3:0<Qaa (Qfo (z.filter wpB)) half y.1 now:=by simpa using h2
 rw[hc.1] at h3;refine⟨hn,?_,?_⟩
 · show 0<Qaa _ _ _ _;rw[hc.1];exact h3
 · show Qaa _ _ _ _≤_;rw[hc.1];exact hc.2.2
theorem Qqm (z:List Ev) (half now:Int):(Qci (Qfo (z.filter wpB)) half now).length≤z.length:=by
 unfold Qci;have h1:=List.length_filter_le (fun x:Ct=>decide (0<x.2)) (((Qfo (z.filter wpB)).map (·.1)).map fun k=>(k,Qaa (Qfo (z.filter wpB)) half k now));rw[List.length_map,List.length_map] at h1;have h2:=(Qtz (z.filter wpB)).1;have h3:=List.length_filter_le wpB z;omega
theorem Qpp {z:List Ev} (hm:∀ e∈z,Xw e=true) {width lo hi:Int} {x:ByteArray} (h:x∈Qb5 (Qgd width (z.filter wpB)) lo hi):Qm x=true:=by
 unfold Qb5 at h;rw[X0] at h;obtain⟨y,hy,rfl⟩:=List.mem_map.1 h;obtain⟨e,he,hi⟩:=(Qp3 width _).2 y (List.mem_filter.1 hy).1;rw[← hi]
 exact(Qf5 hm he).2
theorem Ql4 (z:List Ev) (width lo hi:Int):(Qb5 (Qgd width (z.filter wpB)) lo hi).length≤z.length:=by
 unfold Qb5;have h1:=Qf3 (((Qgd width (z.filter wpB)).filter fun x=>Qks lo hi x.1.2).map (·.1.1));have h2:=List.length_filter_le (fun x:PK×Int=>Qks lo hi x.1.2) (Qgd width (z.filter wpB));have h3:=(Qp3 width (z.filter wpB)).1;have h4:=List.length_filter_le wpB z;rw[List.length_map] at h1;omega
theorem Qp1 {z:List Ev} (hm:∀ e∈z,Xw e=true) (hz:z.length<1000) (width:Int) (key:ByteArray) (lo hi:Int):0≤paS (Qgd width (z.filter wpB)) key lo hi∧paS (Qgd width (z.filter wpB)) key lo hi≤1099511627776:=by
 have hb:=Q43 (Qs7 hm) width key lo hi;have hl:=List.length_filter_le wpB z;rw[Q6d _ _ _ _ _ (fun e he=>(List.mem_filter.1 he).2)];omega
def Q8q (l:List Ev) (q:Sn):Prop:=(∃ e∈l,e.person=q.person)∧(∃ e∈l,e.at_=q.from_)∧(∃ e∈l,e.at_=q.to_)∧∀ i∈q.items,∃ e∈l,e.item=i
theorem Q72 {gap:Int} {l:List Ev} {acc:List Sn} {e:Ev} (he:e∈l) (h:∀ q∈acc,Q8q l q):∀ q∈Qah gap acc (adE e),Q8q l q:=by
 intro q hq;have hone:Q8q l ⟨(adE e).1,(adE e).2.1,(adE e).2.1,[(adE e).2.2]⟩:=⟨⟨e,he,rfl⟩,⟨e,he,rfl⟩,⟨e,he,rfl⟩,fun i hi=>⟨e,he,by rw[List.mem_singleton] at hi;rw[hi];rfl⟩⟩;unfold Qah at hq
 split at hq
 · next g hg =>
   have hgm:=h g (List.mem_of_getLast? hg)
   split at hq
   · rcases List.mem_append.1 hq with hq | hq
     · exact h q (List.dropLast_subset _ hq)
     · rw[List.mem_singleton] at hq
       subst hq;refine⟨⟨e,he,rfl⟩,hgm.2.1,⟨e,he,rfl⟩,fun i hi => ?_⟩;rcases Qhe.1 hi with hi | hi
       · exact hgm.2.2.2 i hi
       · exact⟨e,he,by rw[hi];rfl⟩
   · rcases List.mem_append.1 hq with hq | hq
     · exact h q hq
     · rw[List.mem_singleton] at hq
       subst hq
       exact hone
 · rcases List.mem_append.1 hq with hq | hq
   · exact h q hq
   · rw[List.mem_singleton] at hq
     subst hq
     exact hone
theorem all_in (gap:Int) (l:List Ev):∀ L:List Ad3,(∀ a∈L,a∈l.map adE)→∀ q∈allL gap L,Q8q l q:=by
 refine Xe (fun _ q hq=>by simp[allL] at hq) fun L a ih h => ?_
 rw[Qd8];obtain⟨e,he,rfl⟩:=List.mem_map.1 (h a (by simp))
 exact Q72 he (ih fun x hx=>h x (by simp[hx]))
theorem Q6k (c:Cfg) (z:List Ev):∀ q∈Qc0 c z,Q8q (z.filter wpB) q:=by
 intro q hq;unfold Qc0 at hq;rw[← Qjy _ (Qji _).1] at hq
 exact all_in _ _ _ (fun a ha=>(Qjj _).1 ha) q hq
theorem Q21 (c:Cfg) {z:List Ev} (hz:z.length<1000):∀ q∈Qc0 c z,q.items.length<1000:=by
 intro q hq;unfold Qc0 at hq;rw[← Qjy _ (Qji _).1] at hq;have h1:=Qjb _ _ q hq;have h2:=Qfe (lt:=ahB) ((z.filter wpB).map adE);have h3:=List.length_filter_le wpB z;rw[List.length_map] at h2;omega
theorem Qqf {c:Cfg} {z:List Ev} (hm:∀ e∈z,Xw e=true) {q:Sn} (hq:q∈Qc0 c z):Qm q.person=true∧(0≤q.from_∧q.from_≤1099511627776)∧(0≤q.to_∧q.to_≤1099511627776)∧∀ i∈q.items,Qm i=true:=by
 obtain⟨⟨e1,h1,k1⟩,⟨e2,h2,k2⟩,⟨e3,h3,k3⟩,h4⟩:=Q6k c z q hq;refine⟨by rw[← k1];exact(Qf5 hm h1).1,by rw[← k2];exact Qim (Qs7 hm _ h2),by rw[← k3];exact Qim (Qs7 hm _ h3),fun i hi => ?_⟩;obtain⟨e,he,rfl⟩:=h4 i hi
 exact(Qf5 hm he).2
theorem Qpi (c:Cfg) (z:List Ev) {x:ByteArray} (h:x∈(Qc0 c z).flatMap (·.items)):x∈(z.filter wpB).map (·.item):=by
 obtain⟨q,hq,hx⟩:=List.mem_flatMap.1 h;obtain⟨e,he,rfl⟩:=(Q6k c z q hq).2.2.2 x hx
 exact List.mem_map.2 ⟨e,he,rfl⟩
theorem Q29 {z:List Ev} {K:List ByteArray} (hn:K.Nodup) (h:∀ x∈K,x∈(z.filter wpB).map (·.item)):K.length≤z.length:=by
 have h1:=Qi1 hn h;have h2:=List.length_filter_le wpB z;rw[List.length_map] at h1;omega
theorem Ql1 (c:Cfg) (z:List Ev):(X6 (Qc0 c z)).length≤z.length:=Q29 (Qfk _) fun x hx=>by
 unfold X6 at hx
 exact Qpi c z (X0.1 hx)
theorem Qxa (c:Cfg) (z:List Ev) (a:ByteArray):(Qc4 (Qc0 c z) a).length≤z.length:=Q29 (Qfk _) fun x hx=>by
 unfold Qc4 at hx
 exact Qpi c z (List.mem_filter.1 (X0.1 hx)).1
theorem Qjk {c:Cfg} {z:List Ev} (hm:∀ e∈z,Xw e=true) {x:ByteArray} (h:x∈X6 (Qc0 c z)):Qm x=true:=by
 unfold X6 at h;obtain⟨e,he,rfl⟩:=List.mem_map.1 (Qpi c z (X0.1 h))
 exact(Qf5 hm he).2
theorem Qrp {c:Cfg} {z:List Ev} (hm:∀ e∈z,Xw e=true) {a x:ByteArray} (h:x∈Qc4 (Qc0 c z) a):Qm x=true:=by
 unfold Qc4 at h;obtain⟨e,he,rfl⟩:=List.mem_map.1 (Qpi c z (List.mem_filter.1 (X0.1 h)).1)
 exact(Qf5 hm he).2
theorem Q7j {S:List Sn} {a x:ByteArray} (h:x∈Qc4 S a):a≠x:=by
 unfold Qc4 at h;rw[X0,Qk7] at h
 exact h.1
theorem Q5h (width:Int):∀ z:List Ev,∀ r∈(Qo width z).rs,∀ t∈r.2,Qm t=true:=by
 refine Xe (fun r hr=>by simp[Qo,Qwf] at hr) fun z e ih r hr t ht => ?_
 rw[Qpd] at hr;rcases List.mem_append.1 hr with hr | hr
 · exact ih r hr t ht
 · split at hr
   · rw[List.mem_singleton] at hr
     subst hr
     exact((Qsx _).1 ht).2
   · cases hr
theorem Qp2 {z:List Ev} (hm:∀ e∈z,Xw e=true) {x:ByteArray} (h:x∈Qry z):Qm x=true:=by
 unfold Qry at h;obtain⟨e,he,rfl⟩:=List.mem_map.1 (X0.1 h)
 exact Quz hm he
theorem Qu3 (z:List Ev):(Qry z).length≤z.length:=by
 unfold Qry;have h1:=Qf3 ((Qe6 z).map (·.person));have h2:(Qe6 z).length≤z.length:=List.length_filter_le peB z;rw[List.length_map] at h1;omega
theorem Qqk {z:List Ev} (hr:Rise z) (hm:∀ e∈z,Xw e=true) (hz:z.length<1000) {width half now:Int} {person:ByteArray} {x:Ct} (h:x∈Q3p half now (rowsOf (Qo width z).rs person)):Qm x.1=true∧0<x.2∧x.2≤1099511627776:=by
 have hrs:=Qft width z hr hm;have hrl:=Qxi width z;have hl2:(rowsOf (Qo width z).rs person).length≤(Qo width z).rs.length:=List.length_filter_le _ _;unfold Q3p at h;obtain⟨h1,h2⟩:=List.mem_filter.1 h;have h2:0<x.2:=by simpa using h2
 have hg:=Q3f half now x.1 (rowsOf (Qo width z).rs person) (fun r hr=>⟨(hrs r (List.mem_filter.1 hr).1).1,(hrs r (List.mem_filter.1 hr).1).2.1⟩) (by omega);have hk:=Qdm (Qs1 half now (rowsOf (Qo width z).rs person)) (show (x.1,x.2)∈_ from h1);obtain⟨g1,g2,g3,g4⟩:=hg;rw[hk] at g1 g4;obtain⟨r,hr1,_,hr2⟩:=g4.1 rfl;refine⟨Q5h width z r (List.mem_filter.1 hr1).1 _ hr2,h2,?_⟩;simp only[Option.getD_some] at g1;omega
theorem Qmz {z:List Ev} (hr:Rise z) (hm:∀ e∈z,Xw e=true) (hz:z.length<1000) (width half now:Int) (person:ByteArray):(Q3p half now (rowsOf (Qo width z).rs person)).length≤8000:=by
 have hrs:=Qft width z hr hm;have hrl:=Qxi width z;have hl2:(rowsOf (Qo width z).rs person).length≤(Qo width z).rs.length:=List.length_filter_le _ _;have h2:=Qxq half now (rowsOf (Qo width z).rs person);have h3:=Qvt (fun r:Row=>r.2.length) 8 (rowsOf (Qo width z).rs person) fun r hr=>(hrs r (List.mem_filter.1 hr).1).2.2
 unfold Q3p;refine Nat.le_trans (List.length_filter_le _ _) ?_;omega
theorem Q1e (l:List ByteArray) (h:∀ x∈l,Qm x=true):(jnB l).size≤l.length*25:=by
 have key:∀ l:List ByteArray,(∀ x∈l,Qm x=true)→Lib.lens (l.map (·.data.toList))≤l.length*24:=by
  intro l
  induction l with
  | nil=>intro _;exact Nat.le_refl _
  | cons x l ih =>
    intro h;have h1:=ih fun y hy=>h y (by simp[hy])
    have h2:=Qbf (h x (by simp));have h3:x.data.toList.length=x.size:=rfl;unfold Lib.lens at h1 ⊢;simp only[List.map_cons,List.sum_cons,List.length_cons,Nat.succ_mul] at h1 ⊢;omega
 have h1:=key l h;unfold jnB;rw[show ∀ a:List UInt8,(⟨a.toArray⟩:ByteArray).size=a.length from fun a=>by simp[ByteArray.size]]
 cases l with
 | nil=>exact Nat.zero_le _
 | cons x l =>
   rw[List.map_cons,Lib.join_length];rw[List.map_cons] at h1;simp only[List.length_cons,List.length_map,List.length_nil] at h1 ⊢;omega
theorem Q0s {c:Cfg} (h:Qo7 c=true):(Qz9 c).size≤1000:=by
 obtain⟨h1,h2,h3,_,h5,h6,h7⟩:=Qwr h
 have:=Qcm (K:=21) [Qho,nB c.half,nB c.width,nB c.gap,nB c.span,nB c.floor,nB c.crowd] (by
  intro x hx;simp only[List.mem_cons,List.not_mem_nil,or_false] at hx;rcases hx with rfl | rfl | rfl | rfl | rfl | rfl | rfl
  · decide
  all_goals exact Qak (by omega))
 unfold Qz9;simp only[List.length_cons,List.length_nil] at this;omega
theorem Q4h {e:Ev} (h:Xw e=true):(evD e).size≤30000000:=by
 have hs:=Qrf (Qun h (by have:=Qet h;omega))
 have:=Qcm (K:=10000000) [Qg6,Qpj e] (by
  intro x hx;simp only[List.mem_cons,List.not_mem_nil,or_false] at hx;rcases hx with rfl | rfl
  · decide
  · exact hs)
 unfold evD;simp only[List.length_cons,List.length_nil] at this;omega
theorem Q5o {z:List Ev} (hm:∀ e∈z,Xw e=true) {now:Int} {name:ByteArray} (h:name∈Qcn z now):(thD z now name).size≤10000:=by
 obtain⟨e,he,rfl⟩:=names_in h;have hn:=Qbf (Qj1 hm he);obtain⟨b1,b2,b3,b4,b5⟩:=Qtm hm e.item now
 have:=Qcm (K:=1000) [Qg7,e.item,(Xz (Qs z) e.item now).1.maker,(Xz (Qs z) e.item now).1.tags,nB (Xz (Qs z) e.item now).1.price,nB (Xz (Qs z) e.item now).1.stock,nB (Xz (Qs z) e.item now).1.born] (by
  intro x hx;simp only[List.mem_cons,List.not_mem_nil,or_false] at hx;rcases hx with rfl | rfl | rfl | rfl | rfl | rfl | rfl
  · decide
  · omega
  · omega
  · omega
  all_goals exact Nat.le_trans (Qak (by omega)) (by omega))
 unfold thD;simp only[List.length_cons,List.length_nil] at this;omega
theorem Q2d {x:Ct} (h:Qm x.1=true∧0<x.2∧x.2≤1099511627776):(Qna x).size≤1000:=by
 have hn:=Qbf h.1
 have:=Qcm (K:=24) [Qc3,x.1,nB x.2] (by
  intro y hy;simp only[List.mem_cons,List.not_mem_nil,or_false] at hy;rcases hy with rfl | rfl | rfl
  · decide
  · omega
  · exact Nat.le_trans (Qak (by omega)) (by omega))
 unfold Qna;simp only[List.length_cons,List.length_nil] at this;omega
theorem Qyy {z:List Ev} (hm:∀ e∈z,Xw e=true) (hz:z.length<1000) (c:Cfg) {key:ByteArray} (h:Qm key=true):(Qc5 z c key).size≤1000:=by
 have hn:=Qbf h;unfold Qc5;rw[(Qcu c.width z).2.1];have hp:=Qp1 hm hz c.width key (0/Qw c.width) ((1099511627776+c.width)/Qw c.width);generalize paS (Qgd c.width (z.filter wpB)) key (0/Qw c.width) ((1099511627776+c.width)/Qw c.width)=n at hp ⊢
 have:=Qcm (K:=24) [Qkk,key,nB n] (by
  intro y hy;simp only[List.mem_cons,List.not_mem_nil,or_false] at hy;rcases hy with rfl | rfl | rfl
  · decide
  · omega
  · exact Nat.le_trans (Qak (by omega)) (by omega))
 simp only[List.length_cons,List.length_nil] at this;omega
theorem Q5k {c:Cfg} {z:List Ev} (hm:∀ e∈z,Xw e=true) (hz:z.length<1000) {q:Sn} (hq:q∈Qc0 c z):(snD q).size≤200000:=by
 obtain⟨h1,h2,h3,h4⟩:=Qqf hm hq;have hn:=Qbf h1;have hl:=Q21 c hz q hq;have hj:=Q1e q.items h4
 have:=Qcm (K:=25000) [Qdr,q.person,nB q.from_,nB q.to_,jnB q.items] (by
  intro y hy;simp only[List.mem_cons,List.not_mem_nil,or_false] at hy;rcases hy with rfl | rfl | rfl | rfl | rfl
  · decide
  · omega
  · exact Nat.le_trans (Qak (by omega)) (by omega)
  · exact Nat.le_trans (Qak (by omega)) (by omega)
  · omega)
 unfold snD;simp only[List.length_cons,List.length_nil] at this;omega
theorem Qyw {S:List Sn} (hS:S.length<1000) {a b:ByteArray} (ha:Qm a=true) (hb:Qm b=true):(Qkr S a b).size≤1000:=by
 have h1:=Qbf ha;have h2:=Qbf hb;have h3:=Qmd S a b;unfold Qkr
 split
 · have:=Qcm (K:=24) [Qi6,a,b,nB (Qa2 S a b)] (by
    intro y hy;simp only[List.mem_cons,List.not_mem_nil,or_false] at hy;rcases hy with rfl | rfl | rfl | rfl
    · decide
    · omega
    · omega
    · exact Nat.le_trans (Qak (by omega)) (by omega))
   simp only[List.length_cons,List.length_nil] at this;omega
 · exact Nat.zero_le _
theorem Qvy {person:ByteArray} {x:Ct} (hp:Qm person=true) (h:Qm x.1=true∧0<x.2∧x.2≤1099511627776):(Qfn person x).size≤1000:=by
 have h1:=Qbf hp;have h2:=Qbf h.1
 have:=Qcm (K:=24) [Qek,person,x.1,nB x.2] (by
  intro y hy;simp only[List.mem_cons,List.not_mem_nil,or_false] at hy;rcases hy with rfl | rfl | rfl | rfl
  · decide
  · omega
  · omega
  · exact Nat.le_trans (Qak (by omega)) (by omega))
 unfold Qfn;simp only[List.length_cons,List.length_nil] at this;omega
theorem Qfm {l:List Ct} {x:Ct}:x∈Qdc l↔x∈l:=(Qjz l).mem_iff
theorem Qg2 (l:List Ct):(Qdc l).length=l.length:=(Qjz l).length_eq
theorem Qrb {c:Cfg} {z:List Ev} (hc:Qo7 c=true) (hr:Rise z) (hm:∀ e∈z,Xw e=true) (hz:z.length<1000) (now:Int):(Q0b c z now).size≤100000000000:=by
 have s1:=Q0s hc;have s2:=Qa6 (K:=30000000) evD z fun e he=>Q4h (hm e he)
 have s3:=Qa6 (K:=10000) (thD z now) (Qcn z now) fun x hx=>Q5o hm hx
 have n3:=Ql8 z now;have hds:=(Qcu c.width z).1;have hps:=(Qcu c.width z).2.1
 have s4:=Qa6 (K:=1000) Qna (Qdc (Qci (Qo c.width z).ds (Qw c.half) now)) fun x hx=>by
  rw[hds] at hx
  exact Q2d (Qql hm hz (Qfm.1 hx))
 have n4:=Qqm z (Qw c.half) now;rw[Qg2] at s4;rw[← hds] at n4
 have s5:=Qa6 (K:=1000) (Qc5 z c) (Qb5 (Qo c.width z).ps (0/Qw c.width) ((1099511627776+c.width)/Qw c.width)) fun x hx=>by
  rw[hps] at hx
  exact Qyy hm hz c (Qpp hm hx)
 have n5:=Ql4 z c.width (0/Qw c.width) ((1099511627776+c.width)/Qw c.width);rw[← hps] at n5;have s6:=Qa6 (K:=200000) snD (Qc0 c z) fun q hq=>Q5k hm hz hq
 have n6:=(Q5z c z hm hz).len
 have s7:=Qa6 (K:=1000000) (Qbq (Qc0 c z)) (X6 (Qc0 c z)) fun a ha=>by
  have h1:=Qa6 (K:=1000) (Qkr (Qc0 c z) a) (Qc4 (Qc0 c z) a) fun b hb=>Qyw n6 (Qjk hm ha) (Qrp hm hb)
  have h2:=Qxa c z a;have h3:(Qc4 (Qc0 c z) a).length*1000≤1000*1000:=Nat.mul_le_mul_right _ (by omega);unfold Qbq;omega
 have n7:=Ql1 c z
 have s8:=Qa6 (K:=8000000) (Qdu z c now) (Qry z) fun p hp=>by
  have h1:=Qa6 (K:=1000) (Qfn p) (Qdc (Q3p (Qw c.half) now (rowsOf (Qo c.width z).rs p))) fun x hx=>Qvy (Qp2 hm hp) (Qqk hr hm hz (Qfm.1 hx))
  have h2:=Qmz hr hm hz c.width (Qw c.half) now p;rw[Qg2] at h1;unfold Qdu;omega
 have n8:=Qu3 z;have m2:z.length*30000000≤1000*30000000:=Nat.mul_le_mul_right _ (by omega);have m3:(Qcn z now).length*10000≤1000*10000:=Nat.mul_le_mul_right _ (by omega);have m4:(Qci (Qo c.width z).ds (Qw c.half) now).length*1000≤1000*1000:=Nat.mul_le_mul_right _ (by omega);have m5:(Qb5 (Qo c.width z).ps (0/Qw c.width) ((1099511627776+c.width)/Qw c.width)).length*1000≤1000*1000:=Nat.mul_le_mul_right _ (by omega);have m6:(Qc0 c z).length*200000≤1000*200000:=Nat.mul_le_mul_right _ (by omega);have m7:(X6 (Qc0 c z)).length*1000000≤1000*1000000:=Nat.mul_le_mul_right _ (by omega);have m8:(Qry z).length*8000000≤1000*8000000:=Nat.mul_le_mul_right _ (by omega);unfold Q0b;simp only[ByteArray.size_append];omega
end Go.Proofs.YtdahooejkjcjiaaGreatDoor
namespace Go.Proofs.YtdahooejkjcjiaaGreatDoor
open Go.Se Go.RowKit Go.Shelf
theorem BlG.new {w w1:World} {b:Nat} (hn:New w w1 b (.cells #[.pointer none,.slice none 0 0] 84)):BlG w1 w.heap.size b ⟨#[]⟩ none:=by
 have hat:w1.heap[b]? = some (.cells #[.pointer none,.slice none 0 0] 84 (0,0)):=hn.at_;refine⟨.inl ⟨by rw[hn.block];exact Nat.le_refl _,.slice none 0 0,hat,⟨rfl,.inl ⟨rfl,rfl⟩⟩,by simp[Value.ownBlock]⟩,fun p v T fz h => ?_,hn.ext.size⟩;rw[hat] at h
 simp at h
 obtain⟨⟨_,rfl⟩,_⟩:=h
 rfl
theorem BlG.keep {w w':World} {B b:Nat} {s:ByteArray} {g:Option Nat} (h:BlG w B b s g) (hb:w'.heap[b]? = w.heap[b]?) (hg:∀ k,g=some k→w'.heap[k]? = w.heap[k]?) (hsz:w.heap.size≤w'.heap.size):BlG w' B b s g:=by
 have bat:∀ p,Lib.BuilderAt 84 5 B b p (Lib.strCells s) w→Lib.BuilderAt 84 5 B b p (Lib.strCells s) w':=by
  rintro p ⟨hB,v,hbk,hown,hne⟩;have hv:=h.row _ _ _ _ hbk;refine⟨hB,v,by rw[hb];exact hbk,⟨hown.1,?_⟩,hne⟩;rcases hown.2 with h0 | ⟨g1,cap,cur,hv1,hbg,hg1,r⟩
  · exact .inl h0
  · exact .inr ⟨g1,cap,cur,hv1,hbg,by rw[hg g1 (by rw[← hv,hv1];rfl)];exact hg1,r⟩
 refine⟨h.is.imp (bat _) (bat _),fun p2 v2 T2 fz2 h2 => ?_,Nat.le_trans h.size hsz⟩;rw[hb] at h2
 exact h.row _ _ _ _ h2
section
variable {w w':World} {B b:Nat} {g g':Option Nat} {T:Nat→Prop} {p:Nat} {c:Cfg} {z:List Ev} {s s':ByteArray}
structure Dg (w:World) (B b:Nat) (g:Option Nat) (T:Nat→Prop) (p:Nat) (c:Cfg) (z:List Ev) (s:ByteArray):Prop where
 bl:BlG w B b s g
 wt:WT w T p c z
 safe:∀ k,T k→Safe b g k
 gl:Gl w
 ten:10≤B
theorem Dg.ext (h:Dg w B b g T p c z s) (hx:Ext w w'):Dg w' B b g T p c z s:=⟨h.bl.ext (fun k _ hk=>hx.block k hk) hx.size,h.wt.ext hx,h.safe,h.gl.ext hx,h.ten⟩
theorem Dg.wrt (h:Dg w B b g T p c z s) (hw:Wrt b g w g' w') (hb:BlG w' B b s' g'):Dg w' B b g' T p c z s':=by
 have hl:=h.bl.lt;have ht:=h.ten
 exact⟨hb,h.wt.keep fun k hk=>hw.block (h.safe k hk) (h.wt.lt k hk),fun k hk=>hw.safe (h.safe k hk) (h.wt.lt k hk),h.gl.mod hw.mod (fun k hk=>hk.elim (fun e=>by omega) fun e=>by have:=(hl.2.2 k e).1;omega),ht⟩
theorem BlG.safe_new (h:BlG w B b s g) {k:Nat} (hk:w.heap.size≤k):Safe b g k:=⟨fun e=>by have:=h.lt.2.1;omega,fun e=>by have:=(h.lt.2.2 k e).2;omega⟩
theorem BlG.safe_old (h:BlG w B b s g) {k:Nat} (hk:k<B):Safe b g k:=⟨fun e=>by have:=h.lt.1;omega,fun e=>by have:=(h.lt.2.2 k e).1;omega⟩
end
structure SlS {α:Type} (enc:α→List Value) (sz:Nat) (w:World) (b:Nat) (g:Option Nat) (A:Option Addr) (l:List α):Prop where
 sl:Sl enc sz w A l
 safe:l ≠ []→∀ a,A=some a→Safe b g a.block∧a.block<w.heap.size
section
variable {α:Type} {enc:α→List Value} {sz:Nat} {w w' w0:World} {B b:Nat} {g g':Option Nat} {A:Option Addr} {l:List α} {s:ByteArray}
theorem SlS.wrt (h:SlS enc sz w b g A l) (hw:Wrt b g w g' w'):SlS enc sz w' b g' A l:=by
 by_cases hl:l = []
 · subst hl
   exact⟨fun i x hi=>by simp at hi,fun h=>absurd rfl h⟩
 · exact⟨hw.sl h.sl fun a ha=>(h.safe hl a ha).1,fun _ a ha=>⟨hw.safe (h.safe hl a ha).1 (h.safe hl a ha).2,Nat.lt_of_lt_of_le (h.safe hl a ha).2 hw.size⟩⟩
theorem SlS.ext (h:SlS enc sz w b g A l) (hx:Ext w w'):SlS enc sz w' b g A l:=h.wrt (Wrt.ext hx)
theorem Qqe (hs:Sl enc sz w A l) (hpos:∀ x,0<(enc x).length) (hl:l ≠ []) {a:Addr} (ha:A=some a):a.block<w.heap.size:=by
 cases l with
 | nil=>exact absurd rfl hl
 | cons x l =>
   obtain⟨a',ha',hc⟩:=hs 0 x rfl;obtain rfl:a=a':=by rw[ha] at ha';simpa using ha'
   have hp:=hpos x;have:=cell_lt (hc 0 ((enc x)[0]) (List.getElem?_eq_getElem hp))
   rwa [add_block,add_block] at this
theorem BlG.slice (h:BlG w0 B b s g) (hs:Sl enc sz w A l) (hpos:∀ x,0<(enc x).length) (hA:∀ a,A=some a→w0.heap.size≤a.block):SlS enc sz w b g A l :=
 ⟨hs,fun hl a ha=>⟨h.safe_new (hA a ha),Qqe hs hpos hl ha⟩⟩
end
theorem one_pos (x:ByteArray):0<(Qa8 x).length:=Nat.zero_lt_one
theorem Q3g (x:Ct):0<(Qcq x).length:=Nat.zero_lt_succ 1
theorem Qwb (ws:List ByteArray) (k:Nat):(Qbt (ws.take k)).size≤(Qbt ws).size:=by
 cases ws with
 | nil=>simp
 | cons w ws =>
   cases k with
   | zero=>exact Nat.zero_le _
   | succ k =>
     have:=Qae (fun x=>spB++Xx x) ws k;show (Xx w++Xj ((ws.take k).map fun x=>spB++Xx x)).size≤(Xx w++Xj (ws.map fun x=>spB++Xx x)).size
     rw[ByteArray.size_append,ByteArray.size_append];omega
set_option maxHeartbeats 2000000 in
theorem Q1q {w:World} {B b:Nat} {g:Option Nat} {s:ByteArray} (h:BlG w B b s g) (ws:List ByteArray) (A:Option Addr) (c:Nat) (hs:SlS Qa8 1 w b g A ws) (hn:ws.length<1000) (hl:(s++Qb6 ws).size≤140737488355328) :
 Cal Tryz.prog 50 [.slice A ws.length c,.pointer (some ⟨b,0,none⟩)] w fun r w'=>r = .tuple #[]∧∃ g',BlG w' B b (s++Qb6 ws) g'∧Wrt b g w g' w':=by
 have hnl:=Qut;have hsp:spB.size=1:=rfl
 have hsz:s.size+((Qbt ws).size+1)≤140737488355328:=by
  unfold Qb6 at hl;rw[ByteArray.size_append,ByteArray.size_append,hnl] at hl
  exact hl
 have h0:BlG w B b (s++Qbt (ws.take 0)) g:=by
  show BlG w B b (s++Qbt []) g
  unfold Qbt;rw[X3]
  exact h
 refine Fi Tryz.func50 rfl _ rfl rfl ?_;conv=>whnf
 refine Qe Qa (fun(q:Nat×Option Nat) w'=>q.1≤ws.length∧BlG w' B b (s++Qbt (ws.take q.1)) q.2∧Wrt b g w q.2 w'∧SlS Qa8 1 w' b q.2 A ws)
  (fun | (k,_) => [(1,.pointer (some ⟨b,0,none⟩)),(5,.slice A ws.length c),(6,.int .i64 ws.length),(7,.int .i64 (k:Nat))]) (fun q=>ws.length-q.1) (0,g) ⟨Nat.zero_le _,h0,Wrt.refl,hs⟩ ⟨rfl,rfl,rfl,rfl,trivial⟩ ?_
 clear h0;rintro ⟨k,g1⟩ w1 ⟨hk,hb,hw,hsl⟩;simp only at hk hb hw hsl
 conv=>whnf
 constructor
 · intro hlt
   have hlt:k<ws.length:=by simpa using hlt
   obtain⟨a,rfl,hc⟩:=hsl.sl.get hlt;have htk:=Qwd ws k hlt;have hpk:=Qwb ws (k+1);generalize ws[k]=x at hc htk;generalize Qbt (ws.take k)=u at htk hb;have hsx:=congrArg ByteArray.size htk;rw[ByteArray.size_append] at hsx
   conv=>whnf
   refine Qb Qa ?_;conv=>whnf
   refine⟨a,⟨rfl,by omega,by omega⟩,?_⟩;conv=>whnf
   refine⟨.string x,Qu hc,?_⟩;conv=>whnf
   refine Xk Qa (ι:=Option Nat) (fun _ => [(1,.pointer (some ⟨b,0,none⟩)),(4,.string x),(5,.slice (some a) ws.length c),(6,.int .i64 ws.length),(7,.int .i64 (k:Nat))])
    (fun g2 w'=>BlG w' B b (s++(if 0<k then u++spB else u)) g2∧Wrt b g w g2 w'∧SlS Qa8 1 w' b g2 (some a) ws) ?_ ?_
   · (conv=>whnf)
     constructor
     · intro hk0
       have hk0:0<k:=by simpa using hk0
       rw[if_pos hk0,ByteArray.size_append] at hsx;rw[if_pos hk0]
       conv=>whnf
       refine(Q3j 32 spB rfl hb (by rw[ByteArray.size_append];omega)).mono ?_;rintro _ w2 ⟨rfl,g2,hb2,hw2⟩;conv=>whnf
       rw[ByteArray.append_assoc] at hb2
       exact⟨g2,⟨hb2,hw.trans hw2,hsl.wrt hw2⟩,⟨rfl,rfl,rfl,rfl,rfl,trivial⟩⟩
     · intro hk0
       have hk0:¬ 0<k:=by simpa using hk0
       rw[if_neg hk0]
       conv=>whnf
       exact⟨g1,⟨hb,hw,hsl⟩,⟨rfl,rfl,rfl,rfl,rfl,trivial⟩⟩
   clear hb hw hsl hc;rintro g2 w2 ⟨hb,hw,hsl⟩;generalize (if 0<k then u++spB else u)=y at htk hsx hb
   conv=>whnf
   refine Xk Qa (ι:=Unit) (fun _ => [(1,.pointer (some ⟨b,0,none⟩)),(4,.string (Xx x)),(5,.slice (some a) ws.length c),(6,.int .i64 ws.length),(7,.int .i64 (k:Nat))]) (fun _ w'=>w'=w2) ?_ ?_
   · (conv=>whnf)
     constructor
     · intro he
       have he:x=⟨#[]⟩:=by simpa using he
       rw[show Xx x=⟨#[46]⟩ by rw[he];rfl]
       conv=>whnf
       exact⟨(),rfl,⟨rfl,rfl,rfl,rfl,rfl,trivial⟩⟩
     · intro he
       have he:¬ x=⟨#[]⟩:=by simpa using he
       rw[show Xx x=x by unfold Xx;rw[decide_eq_false he];rfl]
       conv=>whnf
       exact⟨(),rfl,⟨rfl,rfl,rfl,rfl,rfl,trivial⟩⟩
   rintro _ w3 rfl
   conv=>whnf
   refine(Q8k (Xx x) hb (by rw[ByteArray.size_append];omega)).mono ?_;rintro _ w4 ⟨rfl,g4,hb4,hw4⟩;rw[ByteArray.append_assoc,← htk] at hb4
   (conv=>whnf);repeat(refine Sg ?_;(conv=>whnf))
   refine⟨_,wrap_succ (by omega),?_⟩;conv=>whnf
   exact⟨(k+1,g4),by simp only;omega,⟨by simp only;omega,hb4,hw.trans hw4,hsl.wrt hw4⟩,⟨rfl,rfl,rfl,rfl,trivial⟩⟩
 · intro hge
   have hge:ws.length≤k:=by simpa using hge
   rw[List.take_of_length_le hge] at hb
   conv=>whnf
   refine(Q3j 10 nlB rfl hb (by rw[ByteArray.size_append];omega)).mono ?_;rintro _ w2 ⟨rfl,g2,hb2,hw2⟩;conv=>whnf
   rw[ByteArray.append_assoc] at hb2
   exact⟨rfl,g2,hb2,hw.trans hw2⟩
section
variable {w w1 w':World} {B b:Nat} {g g':Option Nat} {T:Nat→Prop} {p:Nat} {c:Cfg} {z:List Ev} {s:ByteArray}
theorem Dg.line (h:Dg w B b g T p c z s) (ws:List ByteArray) {k:Nat} {L:List Value} (hL:L=ws.map Value.string) (hn:New w w1 k (.cells L.toArray 9)) (hl1:ws.length<1000) (hl:(s++Qb6 ws).size≤140737488355328) (n:Nat) (hws:n=ws.length) :
 Cal Tryz.prog 50 [.slice (some ⟨k,0,none⟩) n n,.pointer (some ⟨b,0,none⟩)] w1 fun r w'=>r = .tuple #[]∧∃ g',Dg w' B b g' T p c z (s++Qb6 ws)∧Wrt b g w g' w':=by
 subst hL hws;have hx:=hn.ext;have hs:SlT w1 (some ⟨k,0,none⟩) ws:=Qej (enc:=Qa8) X7 (l:=ws) (by rw[show Qa8=fun x => [Value.string x] from rfl,Qhg];exact hn);have h1:=h.ext hx
 have hss:SlS Qa8 1 w1 b g (some ⟨k,0,none⟩) ws:=⟨hs,fun _ a ha=>by
  have ha:(⟨k,0,none⟩:Addr)=a:=by simpa using ha
  subst ha;have e:=hn.block;have z1:=hn.size
  exact⟨h.bl.safe_new (by simp only;omega),by simp only;omega⟩⟩
 refine(Q1q h1.bl ws _ _ hss hl1 hl).mono ?_;rintro r w' ⟨hr,g',hb',hw'⟩
 exact⟨hr,g',h1.wrt hw' hb',(Wrt.ext hx).trans hw'⟩
end
theorem Q1r {cs:List Ev} {t:Int} {x:ByteArray} (h:Qe3 cs t x=true):x∈cs.map (·.item):=by
 cases hr:Xf cs x with
 | nil =>
   unfold Qe3 Xz at h;rw[hr] at h
   simp at h
 | cons s l =>
   obtain⟨e,he,hi,_⟩:=(Qny x s.at_ cs).1 (by rw[hr];simp)
   exact List.mem_map.2 ⟨e,he,hi⟩
theorem Q4w {z:List Ev} {now:Int} {K:List ByteArray} (hn:K.Nodup) (hm:∀ x,x∈K↔Qe3 (Qs z) now x=true):Qad K=Qcn z now :=
 Qgx hn fun x=>by
  rw[hm,List.mem_filter]
  exact⟨fun h=>⟨Q1r h,h⟩,fun h=>h.2⟩
theorem Dg.wql {w:World} {B b:Nat} {g:Option Nat} {T:Nat→Prop} {p:Nat} {c:Cfg} {z:List Ev} {s:ByteArray} (h:Dg w B b g T p c z s):∃ v T0 col q A n cap any last,WQL w T0 p c z v col q A n cap any last∧(∀ x∈z,Xw x=true)∧Rise z:=by
 obtain⟨v,T0,hQ,_,_,_⟩:=h.wt;obtain⟨col,q,A,n,cap,any,last,hL⟩:=hQ.at_
 exact⟨v,T0,col,q,A,n,cap,any,last,hL,hQ.may,hQ.rise⟩
set_option maxHeartbeats 4000000 in
theorem Qs9 {w:World} {B b:Nat} {g:Option Nat} {T:Nat→Prop} {p:Nat} {c:Cfg} {z:List Ev} {s:ByteArray} (h:Dg w B b g T p c z s) (hz:z.length<1000) (now:Int) (hl:s.size+(Xj ((Qcn z now).map (thD z now))).size≤140737488355328) :
 Cal Tryz.prog 55 [.pointer (some ⟨p,0,none⟩),.int .i64 now,.func (.func 50) #[] #[.pointer (some ⟨b,0,none⟩)]] w fun r w'=>r = .tuple #[]∧∃ g',Dg w' B b g' T p c z (s++Xj ((Qcn z now).map (thD z now)))∧Wrt b g w g' w':=by
 obtain⟨v,T0,col,q,A,n,cap,any,last,hL,hm,_⟩:=h.wql;have hc:=hL.cts.cat;rw[(Qeb c.width z).1] at hc;have htl:(Qs z).length≤z.length:=List.length_filter_le thB z
 have hrows:∀ name,(Xf (Qs z) name).length<1000000000000:=fun name=>by
  have:=(Qca (Qs z) (Qdq hm) name).1;omega
 refine Fi Tryz.func55 rfl _ rfl rfl ?_;conv=>whnf
 refine⟨_,hL.head.one rfl,?_⟩;(conv=>whnf);repeat(refine Sg ?_;(conv=>whnf))
 refine(Quq w _ q.pc _ hc now hrows (by omega)).mono ?_;rintro _ w1 ⟨A1,c1,K,rfl,hs1,hK,hKm,hKl,hA1,hx1⟩;have hD1:=h.ext hx1;have hsl1:SlS Qa8 1 w1 b g A1 (Qad K):=⟨hs1,fun hne a ha=>⟨h.bl.safe_new (hA1 a ha),Qqe hs1 one_pos hne ha⟩⟩;rw[Q4w hK hKm] at hsl1 ⊢;have hnl:=Ql8 z now
 have hnn:∀ x∈Qcn z now,Qm x=true:=fun x hx=>by
  obtain⟨e,he,rfl⟩:=names_in hx
  exact Qj1 hm he
 have hw1:Wrt b g w g w1:=Wrt.ext hx1;clear hs1 hK hKm hKl hA1 hc hL;generalize hNs:Qcn z now=names at hsl1 hl hnl ⊢
 have h0:Dg w1 B b g T p c z (s++Xj ((names.take 0).map (thD z now))):=by
  show Dg w1 B b g T p c z (s++Xj [])
  rw[Qcg,X3]
  exact hD1
 (conv=>whnf);repeat(refine Sg ?_;(conv=>whnf))
 refine Qe Qa (fun(x:Nat×Option Nat) w'=>x.1≤names.length∧Dg w' B b x.2 T p c z (s++Xj ((names.take x.1).map (thD z now)))∧Wrt b g w x.2 w'∧SlS Qa8 1 w' b x.2 A1 names)
  (fun | (k,_) => [(0,.pointer (some ⟨p,0,none⟩)),(1,.int .i64 now),(2,.func (.func 50) #[] #[.pointer (some ⟨b,0,none⟩)]),(15,.slice A1 names.length c1),(16,.int .i64 names.length),(17,.int .i64 (k:Nat))]) (fun x=>names.length-x.1) (0,g) ⟨Nat.zero_le _,h0,hw1,hsl1⟩ ⟨rfl,rfl,rfl,rfl,rfl,rfl,trivial⟩ ?_
 clear h0 hw1 hsl1 hD1 hx1;rintro ⟨k,g1⟩ w2 ⟨hk,hD,hw,hsl⟩;simp only at hk hD hw hsl
 conv=>whnf
 constructor
 · intro hlt
   have hlt:k<names.length:=by simpa using hlt
   obtain⟨a,rfl,hca⟩:=hsl.sl.get hlt;have htk:=Xi (thD z now) names k hlt;have hpk:=Qae (thD z now) names (k+1);rw[htk,ByteArray.size_append] at hpk;have hib:=Qtm hm names[k] now;have hth:thD z now names[k]=Qb6 [Qg7,names[k],(Xz (Qs z) names[k] now).1.maker,(Xz (Qs z) names[k] now).1.tags,nB (Xz (Qs z) names[k] now).1.price,nB (Xz (Qs z) names[k] now).1.stock,nB (Xz (Qs z) names[k] now).1.born]:=rfl;rw[hth] at htk hpk;generalize names[k]=x at hca htk hpk hib;generalize Xj ((names.take k).map (thD z now))=u at htk hpk hD
   (conv=>whnf);repeat(refine Sg ?_;(conv=>whnf))
   refine⟨a,⟨rfl,by omega,by omega⟩,?_⟩;(conv=>whnf);repeat(refine Sg ?_;(conv=>whnf))
   refine⟨.string x,Qu hca,?_⟩;(conv=>whnf);repeat(refine Sg ?_;(conv=>whnf))
   obtain⟨v2,T2,col2,q2,A2,n2,cap2,any2,last2,hL2,_,_⟩:=hD.wql;have hc2:=hL2.cts.cat;rw[(Qeb c.width z).1] at hc2;refine⟨_,hL2.head.one rfl,?_⟩;(conv=>whnf);repeat(refine Sg ?_;(conv=>whnf))
   refine(Qha w2 _ q2.pc _ hc2 x now (hrows x)).mono ?_;rintro _ w3 ⟨rfl,hx3⟩;clear hL2 hc2;generalize (Xz (Qs z) x now).2=ok;generalize (Xz (Qs z) x now).1=it at htk hpk hib;obtain⟨b1,b2,b3,b4,b5⟩:=hib
   (conv=>whnf);repeat(refine Sg ?_;(conv=>whnf))
   intro b8 w4 hn4;(conv=>whnf);repeat(refine Sg ?_;(conv=>whnf))
   refine Qh Qa (e:=ty158) rfl hn4.At rfl rfl rfl (by simp[Qq,itC,Value.oneCell']) fun w5 h5 ho5 => ?_
   have h5:At w5 b8 158 (itC it):=h5;have hx25:Ext w2 w5:=ho5.ext (hx3.trans hn4.ext) (by rw[hn4.block];exact hx3.size);clear ho5 hn4 hx3
   (conv=>whnf);repeat(refine Sg ?_;(conv=>whnf))
   refine Dr .ext [0,1,2,3,4,5,6,7,9,10,12,13,8,11,14,15] [16] ?_;conv=>whnf
   have hxd:Ext w5 w5.drew:=(Ext.refl w5).drew;replace hx25:=hx25.trans hxd;replace h5:=h5.ext hxd;clear hxd;generalize w5.drew=w6 at hx25 h5 ⊢;refine⟨.string it.maker,h5.one rfl,?_⟩;conv=>whnf
   refine⟨.string it.tags,h5.one rfl,?_⟩;conv=>whnf
   refine⟨.int .i64 it.price,h5.one rfl,?_⟩;conv=>whnf
   refine⟨.int .i64 it.stock,h5.one rfl,?_⟩;conv=>whnf
   refine⟨.int .i64 it.born,h5.one rfl,?_⟩;conv=>whnf
   have hD6:=hD.ext hx25;refine(Qar it.price w6 hD6.gl b3.1 (by omega)).mono ?_;rintro _ w7 ⟨rfl,hx7⟩;refine⟨hx7,?_⟩;conv=>whnf
   refine(Qar it.stock w7 (hD6.gl.ext hx7) b4.1 (by omega)).mono ?_;rintro _ w8 ⟨rfl,hx8⟩;refine⟨hx8,?_⟩;conv=>whnf
   refine(Qar it.born w8 ((hD6.gl.ext hx7).ext hx8) b5.1 (by omega)).mono ?_;rintro _ w9 ⟨rfl,hx9⟩;refine⟨hx9,?_⟩;conv=>whnf
   have hx29:=((hx25.trans hx7).trans hx8).trans hx9;have hD9:=hD.ext hx29;intro b10 w10 hn10;refine⟨hn10.ext,?_⟩;conv=>whnf
   refine(hD9.line [Qg7,x,it.maker,it.tags,nB it.price,nB it.stock,nB it.born] rfl hn10 (by simp) (by rw[ByteArray.size_append,ByteArray.size_append];omega) 7 rfl).mono ?_;rintro _ w11 ⟨rfl,g11,hD11,hw11⟩;rw[ByteArray.append_assoc,← htk] at hD11
   (conv=>whnf);repeat(refine Sg ?_;(conv=>whnf))
   refine⟨_,wrap_succ (by omega),?_⟩;(conv=>whnf);repeat(refine Sg ?_;(conv=>whnf))
   have hw2:Wrt b g1 w2 g11 w11:=(Wrt.ext hx29).trans hw11
   exact⟨(k+1,g11),by simp only;omega,⟨by simp only;omega,hD11,hw.trans hw2,hsl.wrt hw2⟩,⟨rfl,rfl,rfl,rfl,rfl,rfl,trivial⟩⟩
 · intro hge
   have hge:names.length≤k:=by simpa using hge
   rw[List.take_of_length_le hge] at hD
   (conv=>whnf);repeat(refine Sg ?_;(conv=>whnf))
   exact⟨rfl,g1,hD,hw⟩
end Go.Proofs.YtdahooejkjcjiaaGreatDoor
namespace Go.Proofs.YtdahooejkjcjiaaGreatDoor
open Go.Se Go.RowKit
open Go.Maps Go.Sort Go.Shelf
theorem Qjn (mb:Option Nat) (w:World):Cal Tryz.prog 182 [.map mb] w fun r w'=>r = .func (.func 223) #[] #[.pointer (some ⟨w.heap.size,0,none⟩)]∧w'.cell? ⟨w.heap.size,0,none⟩=some (.map mb)∧Ext w w' :=
 Qgp Tryz.keys182 ⟨_,Tryz.func182,rfl,rfl⟩ mb w
theorem Qkj {w:World} {Bm b:Nat} {L:List (ByteArray×Value)} (hc:w.cell? ⟨Bm,0,none⟩=some (.map (some b))) (hm:MapAt w b Value.string L) (hk:∀ x∈L,x.1.size≤1000000) (hl:L.length≤1000000000) :
 Cal Tryz.prog 111 [.func (.func 223) #[] #[.pointer (some ⟨Bm,0,none⟩)]] w fun r w'=>∃ A c,r = .slice A (Qad (L.map (·.1))).length c∧Own Qa8 1 9 w.heap.size w' A c (Qad (L.map (·.1)))∧Ext w w':=by
 obtain⟨N,Q,h1,h2,h3⟩:=Qij { Tryz.keys182 with } hc hm hk hl
 exact Qdp Tryz.sorted111 Qsp (enters_of Tryz.func175 (by kernel_rfl) rfl) (enters_of Tryz.func223 (by kernel_rfl) rfl) ⟨_,Tryz.func111,rfl,rfl⟩ h2 h1 h3
theorem Qvn {w:World} {Bm:Nat} (hc:w.cell? ⟨Bm,0,none⟩=some (.map none)) :
 Cal Tryz.prog 111 [.func (.func 223) #[] #[.pointer (some ⟨Bm,0,none⟩)]] w fun r w'=>∃ A c,r = .slice A 0 c∧Own Qa8 1 9 w.heap.size w' A c []∧Ext w w':=by
 have:=Qdp Tryz.sorted111 Qsp (enters_of Tryz.func175 (by kernel_rfl) rfl) (enters_of Tryz.func223 (by kernel_rfl) rfl) ⟨_,Tryz.func111,rfl,rfl⟩ (l := []) (fun ss (h:ss = [])=>by rw[h];exact List.Perm.refl _) (Nat.zero_le _) (AnyZ.keys_gives_nil { Tryz.keys182 with } Fence.wide 2 trivial rfl Bm w (cell_lt hc) hc);simp only[Qiy,Qmo,List.length_nil] at this
 exact this
theorem Qyg (mb:Option Nat) (w:World):Cal Tryz.prog 118 [.map mb] w fun r w'=>r = .func (.func 184) #[] #[.pointer (some ⟨w.heap.size,0,none⟩)]∧w'.cell? ⟨w.heap.size,0,none⟩=some (.map mb)∧Ext w w' :=
 Qgp Tryz.keys118 ⟨_,Tryz.func118,rfl,rfl⟩ mb w
theorem Qsl {w:World} {Bm b:Nat} {L:List (ByteArray×Value)} (hc:w.cell? ⟨Bm,0,none⟩=some (.map (some b))) (hm:MapAt w b Value.string L) (hk:∀ x∈L,x.1.size≤1000000) (hl:L.length≤1000000000) :
 Cal Tryz.prog 111 [.func (.func 184) #[] #[.pointer (some ⟨Bm,0,none⟩)]] w fun r w'=>∃ A c,r = .slice A (Qad (L.map (·.1))).length c∧Own Qa8 1 9 w.heap.size w' A c (Qad (L.map (·.1)))∧Ext w w':=by
 obtain⟨N,Q,h1,h2,h3⟩:=Qij { Tryz.keys118 with } hc hm hk hl
 exact Qdp Tryz.sorted111 Qsp (enters_of Tryz.func175 (by kernel_rfl) rfl) (enters_of Tryz.func184 (by kernel_rfl) rfl) ⟨_,Tryz.func111,rfl,rfl⟩ h2 h1 h3
theorem Quy (w:World) (S:Nat→Prop) (p:Nat) (Ss:List Sn) (h:Qd6 w S p Ss) (hn:∀ x∈X6 Ss,x.size≤1000000) (hl:(X6 Ss).length≤1000000) :
 Cal Tryz.prog 115 [.pointer (some ⟨p,0,none⟩)] w fun r w'=>∃ A c,r = .slice A (X6 Ss).length c∧SlT w' A (X6 Ss)∧(∀ a,A=some a→w.heap.size≤a.block)∧Ext w w':=by
 obtain⟨t,sh,hp,⟨sg,ct,b1,b2,hL,hI⟩,_⟩:=h;have hm:=hL.sg
 have hkn:sg.Pairwise (fun x y=>x.1≠y.1):=by
  have:=hm.keys;unfold Qav at this;rw[List.pairwise_map] at this
  exact this
 have hit:=hI.items hkn;have hk1:(Qav vi sg).map (·.1)=sg.map (·.1):=by unfold Qav;rw[List.map_map];rfl
 have hsl:sg.length≤1000000:=by
  have:=congrArg List.length hit;rw[Qc1,List.length_map] at this;omega
 have hk:∀ x∈Qav vi sg,x.1.size≤1000000:=fun x hx=>by
  have h1:x.1∈(Qav vi sg).map (·.1):=List.mem_map.2 ⟨x,hx,rfl⟩;rw[hk1,← Qg3,hit] at h1
  exact hn _ h1
 refine Fi Tryz.func115 rfl _ rfl rfl ?_;conv=>whnf
 refine⟨_,hp.one rfl,?_⟩;(conv=>whnf);repeat(refine Sg ?_;(conv=>whnf))
 refine⟨_,hL.head.one rfl,?_⟩;(conv=>whnf);repeat(refine Sg ?_;(conv=>whnf))
 refine(Qjn (some b1) w).mono ?_;rintro _ w1 ⟨rfl,hc1,hx1⟩;(conv=>whnf);repeat(refine Sg ?_;(conv=>whnf))
 refine(Qkj hc1 (hm.ext hx1) hk (by unfold Qav;rw[List.length_map];omega)).mono ?_;rintro _ w2 ⟨A2,c2,rfl,ho2,hx2⟩;rw[hk1,hit] at ho2 ⊢
 (conv=>whnf);repeat(refine Sg ?_;(conv=>whnf))
 exact⟨A2,c2,rfl,ho2.sl X7,fun a ha=>Nat.le_trans hx1.size (ho2.block ha).1,hx1.trans hx2⟩
theorem Qyr (w:World) (S:Nat→Prop) (p:Nat) (Ss:List Sn) (h:Qd6 w S p Ss) (a:ByteArray) (hn:∀ x∈Qc4 Ss a,x.size≤1000000) (hl:(Qc4 Ss a).length≤1000000) :
 Cal Tryz.prog 116 [.pointer (some ⟨p,0,none⟩),.string a] w fun r w'=>∃ A c,r = .slice A (Qc4 Ss a).length c∧SlT w' A (Qc4 Ss a)∧(∀ a,A=some a→w.heap.size≤a.block)∧Ext w w':=by
 obtain⟨t,sh,hp,⟨sg,ct,b1,b2,hL,hI⟩,_⟩:=h;refine Fi Tryz.func116 rfl _ rfl rfl ?_;conv=>whnf
 refine⟨_,hp.one rfl,?_⟩;(conv=>whnf);repeat(refine Sg ?_;(conv=>whnf))
 refine⟨_,hL.head.one rfl,?_⟩;(conv=>whnf);repeat(refine Sg ?_;(conv=>whnf))
 rcases hL.ct.look Qa3 Qs3 (Xc Qac) (e:=ty109) ty109_ok rfl a with⟨hno,hrd⟩ | ⟨bt,m,Sk,hsome,hrd,hIv,_,_⟩
 · have h0:=hI.near0 hno
   rw[h0];refine⟨_,hrd .same Xb,?_⟩;(conv=>whnf);repeat(refine Sg ?_;(conv=>whnf))
   refine(Qjn none w).mono ?_;rintro _ w1 ⟨rfl,hc1,hx1⟩;(conv=>whnf);repeat(refine Sg ?_;(conv=>whnf))
   refine(Qvn hc1).mono ?_;rintro _ w2 ⟨A2,c2,rfl,ho2,hx2⟩;(conv=>whnf);repeat(refine Sg ?_;(conv=>whnf))
   exact⟨A2,c2,rfl,ho2.sl X7,fun a ha=>Nat.le_trans hx1.size (ho2.block ha).1,hx1.trans hx2⟩
 · have hm:=hIv.2
   have hkn:m.Pairwise (fun x y=>x.1≠y.1):=by
    have:=hm.keys;unfold Qav at this;rw[List.pairwise_map] at this
    exact this
   have hit:=hI.near hsome hkn;have hk1:(Qav vi m).map (·.1)=m.map (·.1):=by unfold Qav;rw[List.map_map];rfl
   have hsl:m.length≤1000000:=by
    have:=congrArg List.length hit;rw[Qc1,List.length_map] at this;omega
   have hk:∀ x∈Qav vi m,x.1.size≤1000000:=fun x hx=>by
    have h1:x.1∈(Qav vi m).map (·.1):=List.mem_map.2 ⟨x,hx,rfl⟩;rw[hk1,← Qg3,hit] at h1
    exact hn _ h1
   refine⟨_,hrd .same Xb,?_⟩;(conv=>whnf);repeat(refine Sg ?_;(conv=>whnf))
   refine(Qjn (some bt) w).mono ?_;rintro _ w1 ⟨rfl,hc1,hx1⟩;(conv=>whnf);repeat(refine Sg ?_;(conv=>whnf))
   refine(Qkj hc1 (hm.ext hx1) hk (by unfold Qav;rw[List.length_map];omega)).mono ?_;rintro _ w2 ⟨A2,c2,rfl,ho2,hx2⟩;rw[hk1,hit] at ho2 ⊢
   (conv=>whnf);repeat(refine Sg ?_;(conv=>whnf))
   exact⟨A2,c2,rfl,ho2.sl X7,fun a ha=>Nat.le_trans hx1.size (ho2.block ha).1,hx1.trans hx2⟩
theorem Qx5 {w:World} {S:Nat→Prop} {p:Nat} {half:Int} {rs:List Row} {bp:Nat} {b:CwB} {D:List (Ev×SV)} {L:List (ByteArray×(Option Addr×Nat))} {R Tg:Nat→Prop} (h:Qqx w S p half rs bp b D L R Tg):Qad (L.map (·.1))=Qbl ((evs rs).map (·.person)):=by
 refine Qgx (Qao h.rows.keys) fun x => ?_
 have hE:=h.tags.evs;rw[← hE];constructor
 · intro hx
   obtain⟨y,hy,rfl⟩:=List.mem_map.1 hx;obtain⟨d,hd⟩:=List.exists_mem_of_ne_nil _ (h.rows.ne y hy);obtain⟨h1,h2⟩:=List.mem_filter.1 hd
   exact List.mem_map.2 ⟨d.1,List.mem_map.2 ⟨d,h1,rfl⟩,of_decide_eq_true h2⟩
 · intro hx
   obtain⟨e,he,rfl⟩:=List.mem_map.1 hx;obtain⟨d,hd,rfl⟩:=List.mem_map.1 he;rw[Qin]
   cases hq:Qd L d.1.person with
   | some v=>rfl
   | none =>
     have h0:=h.rows.all _ hq;have h1:d∈X4 D d.1.person:=List.mem_filter.2 ⟨hd,by simp⟩;rw[h0] at h1
     cases h1
theorem Qs8 (w:World) (S:Nat→Prop) (p:Nat) (half:Int) (rs:List Row) (h:Qc7 w S p half rs) (hn:∀ x∈Qbl ((evs rs).map (·.person)),x.size≤1000000) (hl:(Qbl ((evs rs).map (·.person))).length≤1000000) :
 Cal Tryz.prog 60 [.pointer (some ⟨p,0,none⟩)] w fun r w'=>∃ A c,r = .slice A (Qbl ((evs rs).map (·.person))).length c∧SlT w' A (Qbl ((evs rs).map (·.person)))∧(∀ a,A=some a→w.heap.size≤a.block)∧Ext w w':=by
 obtain⟨bp,b,D,L,R,Tg,h⟩:=h;have hit:=Qx5 h;have hm:=h.rows.map;have hk1:=Qxp (X4 D) L
 have hsl:L.length≤1000000:=by
  have:=congrArg List.length hit;rw[Qc1,List.length_map] at this;omega
 have hk:∀ x∈toV (X4 D) L,x.1.size≤1000000:=fun x hx=>by
  have h1:x.1∈(toV (X4 D) L).map (·.1):=List.mem_map.2 ⟨x,hx,rfl⟩;rw[hk1,← Qg3,hit] at h1
  exact hn _ h1
 refine Fi Tryz.func60 rfl _ rfl rfl ?_;conv=>whnf
 refine⟨_,h.head.one rfl,?_⟩;(conv=>whnf);repeat(refine Sg ?_;(conv=>whnf))
 refine(Qyg (some bp) w).mono ?_;rintro _ w1 ⟨rfl,hc1,hx1⟩;(conv=>whnf);repeat(refine Sg ?_;(conv=>whnf))
 refine(Qsl hc1 (hm.ext hx1) hk (by unfold toV;rw[List.length_map];omega)).mono ?_;rintro _ w2 ⟨A2,c2,rfl,ho2,hx2⟩;rw[hk1,hit] at ho2 ⊢
 (conv=>whnf);repeat(refine Sg ?_;(conv=>whnf))
 exact⟨A2,c2,rfl,ho2.sl X7,fun a ha=>Nat.le_trans hx1.size (ho2.block ha).1,hx1.trans hx2⟩
end Go.Proofs.YtdahooejkjcjiaaGreatDoor
namespace Go.Proofs.YtdahooejkjcjiaaGreatDoor
open Go.Se Go.RowKit Go.Shelf
structure PrS (w:World) (b:Nat) (g:Option Nat) (T:Nat→Prop) (o:Nat) (Ss:List Sn):Prop where
 at_:Qd6 w (fun k=>k=o∨T k) o Ss
 safe:Safe b g o
 lt:o<w.heap.size
section
variable {w w':World} {B b:Nat} {g g':Option Nat} {T:Nat→Prop} {p o:Nat} {c:Cfg} {z:List Ev} {s:ByteArray} {Ss:List Sn}
theorem PrS.wrt (h:PrS w b g T o Ss) (hD:Dg w B b g T p c z s) (hw:Wrt b g w g' w'):PrS w' b g' T o Ss :=
 ⟨h.at_.keep fun k hk hs=>⟨hw.block (hs.elim (fun e=>e ▸ h.safe) (hD.safe k)) hk,hs⟩,hw.safe h.safe h.lt,Nat.lt_of_lt_of_le h.lt hw.size⟩
theorem PrS.ext (h:PrS w b g T o Ss) (hx:Ext w w'):PrS w' b g T o Ss:=⟨h.at_.ext hx,h.safe,Nat.lt_of_lt_of_le h.lt hx.size⟩
end
set_option maxHeartbeats 4000000 in
theorem Qq8 {w:World} {B b:Nat} {g:Option Nat} {T:Nat→Prop} {p:Nat} {c:Cfg} {z:List Ev} {s:ByteArray} (h:Dg w B b g T p c z s) (hz:z.length<1000) (hT10:∀ k,T k→10≤k) (hl:s.size+(Xj ((X6 (Qc0 c z)).map (Qbq (Qc0 c z)))).size≤140737488355328) :
 Cal Tryz.prog 59 [.pointer (some ⟨p,0,none⟩),.func (.func 50) #[] #[.pointer (some ⟨b,0,none⟩)]] w fun r w'=>r = .tuple #[]∧∃ g' T',Dg w' B b g' T' p c z (s++Xj ((X6 (Qc0 c z)).map (Qbq (Qc0 c z))))∧(∀ k,T' k→T k∨w.heap.size≤k)∧Mod (fun k=>T k∨k=b∨g=some k) w w':=by
 obtain⟨v,T0,col,q,A,n,cap,any,last,hL,hm,_⟩:=h.wql;clear hL;have hok:=Q5z c z hm hz;have hil:=Ql1 c z;have hin:∀ x∈X6 (Qc0 c z),Qm x=true:=fun x hx=>Qjk hm hx
 have hnl:=Qxa c z;have hnn:∀ a,∀ x∈Qc4 (Qc0 c z) a,Qm x=true:=fun a x hx=>Qrp hm hx
 have hsl:=hok.len;refine Fi Tryz.func59 rfl _ rfl rfl ?_;conv=>whnf
 refine(Qwe h.wt hok).mono ?_;rintro _ w1 ⟨o,T1,rfl,hW1,hT1,hM1,hog,hoT,hP1⟩;generalize Qc0 c z=Ss at hok hil hin hnl hnn hsl hl hP1 ⊢;have hlt:=h.bl.lt;have hb1:w1.heap[b]? = w.heap[b]? := hM1.block b hlt.2.1 fun ht=>(h.safe b ht).1 rfl
 have hg1:∀ k,g=some k→w1.heap[k]? = w.heap[k]? := fun k hk=>hM1.block k (hlt.2.2 k hk).2 fun ht=>(h.safe k ht).2 hk
 have hnew:∀ k,w.heap.size≤k→Safe b g k:=fun k hk=>h.bl.safe_new hk
 have hD1:Dg w1 B b g T1 p c z s:=⟨h.bl.keep hb1 hg1 hM1.size,hW1,fun k hk=>(hT1 k hk).elim (h.safe k) (hnew k),h.gl.mod hM1 hT10,h.ten⟩
 have hol:o<w1.heap.size:=by
  obtain⟨t,sh,ha,_⟩:=hP1
  exact ha.lt
 have hPr1:PrS w1 b g T1 o Ss:=⟨hP1,hnew o hog,hol⟩;clear hb1 hg1 hW1 hP1
 (conv=>whnf);repeat(refine Sg ?_;(conv=>whnf))
 refine(Quy w1 _ o Ss hPr1.at_ (fun x hx=>by have:=Qbf (hin x hx);omega) (by omega)).mono ?_;rintro _ w2 ⟨A2,c2,rfl,hs2,hA2,hx2⟩;have hsl2:SlS Qa8 1 w2 b g A2 (X6 Ss):=⟨hs2,fun hne a ha=>⟨hD1.bl.safe_new (hA2 a ha),Qqe hs2 one_pos hne ha⟩⟩;have hD2:=hD1.ext hx2;have hPr2:=hPr1.ext hx2;have hw2:Wrt b g w1 g w2:=Wrt.ext hx2;clear hs2 hA2 hD1 hPr1;generalize hIs:X6 Ss=items at hsl2 hil hin hl ⊢
 have h0:Dg w2 B b g T1 p c z (s++Xj ((items.take 0).map (Qbq Ss))):=by
  show Dg w2 B b g T1 p c z (s++Xj [])
  rw[Qcg,X3]
  exact hD2
 (conv=>whnf);repeat(refine Sg ?_;(conv=>whnf))
 refine Qe Qa (fun(x:Nat×Option Nat) w'=>x.1≤items.length∧Dg w' B b x.2 T1 p c z (s++Xj ((items.take x.1).map (Qbq Ss)))∧Wrt b g w1 x.2 w'∧SlS Qa8 1 w' b x.2 A2 items∧PrS w' b x.2 T1 o Ss)
  (fun | (k,_) => [(0,.pointer (some ⟨p,0,none⟩)),(1,.func (.func 50) #[] #[.pointer (some ⟨b,0,none⟩)]),(4,.pointer (some ⟨o,0,none⟩)),(12,.slice A2 items.length c2),(13,.int .i64 items.length),(14,.int .i64 (k:Nat))]) (fun x=>items.length-x.1) (0,g) ⟨Nat.zero_le _,h0,hw2,hsl2,hPr2⟩ ⟨rfl,rfl,rfl,rfl,rfl,rfl,trivial⟩ ?_
 clear h0 hw2 hsl2 hPr2 hD2 hx2;rintro ⟨k,g1⟩ w3 ⟨hk,hD,hw,hsi,hPr⟩;simp only at hk hD hw hsi hPr
 conv=>whnf
 constructor
 · intro hlt
   have hlt:k<items.length:=by simpa using hlt
   obtain⟨a,rfl,hca⟩:=hsi.sl.get hlt;have htk:=Xi (Qbq Ss) items k hlt;have hpk:=Qae (Qbq Ss) items (k+1);rw[htk,ByteArray.size_append] at hpk;have hxn:=hin items[k] (List.getElem_mem hlt);generalize items[k]=x at hca htk hpk hxn;generalize Xj ((items.take k).map (Qbq Ss))=u at htk hpk hD;have hth:Qbq Ss x=Xj ((Qc4 Ss x).map (Qkr Ss x)):=rfl;rw[hth] at htk hpk
   (conv=>whnf);repeat(refine Sg ?_;(conv=>whnf))
   refine⟨a,⟨rfl,by omega,by omega⟩,?_⟩;(conv=>whnf);repeat(refine Sg ?_;(conv=>whnf))
   refine⟨.string x,Qu hca,?_⟩;(conv=>whnf);repeat(refine Sg ?_;(conv=>whnf))
   refine(Qyr w3 _ o Ss hPr.at_ x (fun y hy=>by have:=Qbf (hnn x y hy);omega) (by have:=hnl x;omega)).mono ?_;rintro _ w4 ⟨A4,c4,rfl,hs4,hA4,hx4⟩;have hsn4:SlS Qa8 1 w4 b g1 A4 (Qc4 Ss x):=⟨hs4,fun hne a ha=>⟨hD.bl.safe_new (hA4 a ha),Qqe hs4 one_pos hne ha⟩⟩;have hsi4:=hsi.ext hx4;have hD4:=hD.ext hx4;have hPr4:=hPr.ext hx4;have hw4:=hw.trans (Wrt.ext hx4);clear hs4 hA4 hca hsi hD hPr hw;have hyn:=hnn x;have hyl:=hnl x;have hne:∀ y∈Qc4 Ss x,x≠y:=fun y hy=>Q7j hy
   generalize Qc4 Ss x=near at hsn4 htk hpk hyn hyl hne ⊢
   have h0:Dg w4 B b g1 T1 p c z (s++u++Xj ((near.take 0).map (Qkr Ss x))):=by
    show Dg w4 B b g1 T1 p c z (s++u++Xj [])
    rw[Qcg,X3]
    exact hD4
   (conv=>whnf);repeat(refine Sg ?_;(conv=>whnf))
   refine Qe Qa (fun(y:Nat×Option Nat) w'=>y.1≤near.length∧Dg w' B b y.2 T1 p c z (s++u++Xj ((near.take y.1).map (Qkr Ss x)))∧Wrt b g w1 y.2 w'∧SlS Qa8 1 w' b y.2 (some a) items∧SlS Qa8 1 w' b y.2 A4 near∧PrS w' b y.2 T1 o Ss)
    (fun | (j,_) => [(0,.pointer (some ⟨p,0,none⟩)),(1,.func (.func 50) #[] #[.pointer (some ⟨b,0,none⟩)]),(4,.pointer (some ⟨o,0,none⟩)),(6,.string x),(12,.slice (some a) items.length c2),(13,.int .i64 items.length),(14,.int .i64 (k:Nat)),(20,.slice A4 near.length c4),(21,.int .i64 near.length),(22,.int .i64 (j:Nat))]) (fun y=>near.length-y.1) (0,g1) ⟨Nat.zero_le _,h0,hw4,hsi4,hsn4,hPr4⟩ ⟨rfl,rfl,rfl,rfl,rfl,rfl,rfl,rfl,rfl,rfl,trivial⟩ ?_
   clear h0 hw4 hsi4 hsn4 hPr4 hD4 hx4;rintro ⟨j,g2⟩ w5 ⟨hj,hD,hw,hsi,hsn,hPr⟩;simp only at hj hD hw hsi hsn hPr
   conv=>whnf
   constructor
   · intro hlt2
     have hlt2:j<near.length:=by simpa using hlt2
     obtain⟨a4,rfl,hcb⟩:=hsn.sl.get hlt2;have htj:=Xi (Qkr Ss x) near j hlt2;have hpj:=Qae (Qkr Ss x) near (j+1);rw[htj,ByteArray.size_append] at hpj;have hxy:=hne near[j] (List.getElem_mem hlt2);generalize near[j]=y at hcb htj hpj hxy;generalize Xj ((near.take j).map (Qkr Ss x))=u2 at htj hpj hD;have hpl:=Qmd Ss x y
     (conv=>whnf);repeat(refine Sg ?_;(conv=>whnf))
     refine⟨a4,⟨rfl,by omega,by omega⟩,?_⟩;(conv=>whnf);repeat(refine Sg ?_;(conv=>whnf))
     refine⟨.string y,Qu hcb,?_⟩;(conv=>whnf);repeat(refine Sg ?_;(conv=>whnf))
     constructor
     · intro hq
       have hq:bLt x y=true:=hq;have hth:Qkr Ss x y=Qb6 [Qi6,x,y,nB (Qa2 Ss x y)]:=if_pos hq;rw[hth] at htj hpj
       (conv=>whnf);repeat(refine Sg ?_;(conv=>whnf))
       refine(Qux w5 _ o Ss hPr.at_ x y hxy).mono ?_;rintro _ w6 ⟨rfl,hw6⟩;subst hw6
       (conv=>whnf);repeat(refine Sg ?_;(conv=>whnf))
       refine(Qar (Qa2 Ss x y:Nat) w6 hD.gl (by omega) (by omega)).mono ?_;rintro _ w7 ⟨rfl,hx7⟩;(conv=>whnf);repeat(refine Sg ?_;(conv=>whnf))
       have hD7:=hD.ext hx7;intro b8 w8 hn8;(conv=>whnf);repeat(refine Sg ?_;(conv=>whnf))
       refine(hD7.line [Qi6,x,y,nB (Qa2 Ss x y)] rfl hn8 (by simp) (by simp only[ByteArray.size_append];omega) 4 rfl).mono ?_;rintro _ w9 ⟨rfl,g9,hD9,hw9⟩;rw[ByteArray.append_assoc (a:=s++u),← htj] at hD9;have hw59:Wrt b g2 w6 g9 w9:=(Wrt.ext hx7).trans hw9
       (conv=>whnf);repeat(refine Sg ?_;(conv=>whnf))
       refine⟨_,wrap_succ (by omega),?_⟩;(conv=>whnf);repeat(refine Sg ?_;(conv=>whnf))
       exact⟨(j+1,g9),by simp only;omega,⟨by simp only;omega,hD9,hw.trans hw59,hsi.wrt hw59,hsn.wrt hw59,hPr.wrt hD hw59⟩,⟨rfl,rfl,rfl,rfl,rfl,rfl,rfl,rfl,rfl,rfl,trivial⟩⟩
     · intro hq
       have hq:¬ bLt x y=true:=by
        intro h;have hq:bLt x y=false:=hq;rw[hq] at h;cases h
       have hth:Qkr Ss x y=⟨#[]⟩:=if_neg hq;rw[hth,X3] at htj
       (conv=>whnf);repeat(refine Sg ?_;(conv=>whnf))
       refine⟨_,wrap_succ (by omega),?_⟩;(conv=>whnf);repeat(refine Sg ?_;(conv=>whnf))
       exact⟨(j+1,g2),by simp only;omega,⟨by simp only;omega,by simp only;rw[htj];exact hD,hw,hsi,hsn,hPr⟩,⟨rfl,rfl,rfl,rfl,rfl,rfl,rfl,rfl,rfl,rfl,trivial⟩⟩
   · intro hge
     have hge:near.length≤j:=by simpa using hge
     rw[List.take_of_length_le hge,ByteArray.append_assoc,← htk] at hD
     (conv=>whnf);repeat(refine Sg ?_;(conv=>whnf))
     refine⟨_,wrap_succ (by omega),?_⟩;(conv=>whnf);repeat(refine Sg ?_;(conv=>whnf))
     exact⟨(k+1,g2),by simp only;omega,⟨by simp only;omega,hD,hw,hsi,hPr⟩,⟨rfl,rfl,rfl,rfl,rfl,rfl,trivial⟩⟩
 · intro hge
   have hge:items.length≤k:=by simpa using hge
   rw[List.take_of_length_le hge] at hD
   (conv=>whnf);repeat(refine Sg ?_;(conv=>whnf))
   refine⟨rfl,g1,T1,hD,hT1,?_⟩;have:=hw.mod
   exact⟨this.os.trans hM1.os,this.tape.trans hM1.tape,this.output.trans hM1.output,Nat.le_trans hM1.size this.size,fun i hi hn=>(this.block i (Nat.lt_of_lt_of_le hi hM1.size) fun e=>hn (.inr e)).trans (hM1.block i hi fun e=>hn (.inl e))⟩
end Go.Proofs.YtdahooejkjcjiaaGreatDoor
