/- Several texts in one: Bg1, Nm1, Dg1, Dg2, Bg2, Bg3, Bg4, Ky1, Bg6. -/
import Derived.Test.YteabekcdcphjpaaGreatDoorGC
import Derived.Test.YteabekcdcphjpaaGreatDoorHShelf
import Derived.Shelf.Strings.Builder1
import Derived.Maps.AppendAt
import Derived.WalkKit
import Derived.Test.YteabekcdcphjpaaGreatDoorGK
import Derived.Test.YteabekcdcphjpaaGreatDoorGM
import Derived.Test.YteabekcdcphjpaaGreatDoorGI
import Derived.Test.YteabekcdcphjpaaGreatDoorGN
import Derived.Test.YteabekcdcphjpaaGreatDoorGH
import Derived.Test.YteabekcdcphjpaaGreatDoorGJ
set_option linter.unusedVariables false
set_option linter.unusedSimpArgs false
namespace Go.Proofs.YteabekcdcphjpaaGreatDoor
open Go.Se Go.RowKit Go.Shelf
theorem Qn1 {P:Program} (w:World) (base:Nat) (t u ty e:TypeId) (i:TypeInfo) (ht:P.underlying t=some (.slice e)) (hu:P.underlying u=some .string) (hi:P.info? e=some i) (hz:i.zero=some (.int .u8 0))
 (hsize:i.size=1) (hby:i.bytes=1)
 (v:Value) (n:Nat) (xs:List Value) (hown:w.ownsRow base e 1 v n xs) (s:ByteArray)
 (h63:n+s.size<=maxLen) (hbytes:n+s.size<=140737488355328) (hbase:base<=w.heap.size) :
 ∃ v' w',(Builtin.append_ #[t,u] ty #[v,.string s]).run P w = .ok v' w'/\w'.ownsRow base e 1 v' (n+s.size) (xs++Lib.strCells s)/\w.grownBy w' v.ownBlock /\
   (v' = .slice none 0 0↔v = .slice none 0 0/\s.size=0)/\(v'.ownBlock=v.ownBlock\/v'.ownBlock=some w.heap.size):=by
 obtain⟨v',w',hr,h1,h2,h3⟩:=Lib.run_append_own_string (P:=P) w base t u ty e i ht hu hi hz hsize hby v n xs hown s h63 hbytes hbase;refine⟨v',w',hr,h1,h2,h3,?_⟩;have hsmall:n+s.size<=9223372036854775807:=by simp only[maxLen] at h63;omega
 have hxl:xs.length=n:=by simpa using hown.1
 have fin:∀ {v2:Value} {w2:World},(Builtin.append_ #[t,u] ty #[v,.string s]).run P w = .ok v2 w2->v2.ownBlock=some w.heap.size->v'.ownBlock=v.ownBlock\/v'.ownBlock=some w.heap.size:=fun h hv=>by
  rw[hr] at h;injection h with e1 e2;rw[e1]
  exact .inr hv
 rcases hown.2 with⟨rfl,rfl⟩ | ⟨g,cap,cur,rfl,hbg,hg,hnc,hcm,hcs,htake⟩
 . by_cases hm:s.size=0
   . rw[h3.2 ⟨rfl,hm⟩];exact .inl rfl
   . exact fin (run_append_nil_string (P:=P) w t u ty e i (.int .u8 0) ht hu hi hz s (by omega) (by omega) (by rw[hby];omega)) rfl
 . by_cases hroom:n+s.size<=cap
   . have hcs':cur.size=cap:=by simpa using hcs
     have h:=Lib.run_append_room_string (P:=P) w t u ty e i ht hu hi hsize g n cap cur hg s hroom (by omega);rw[hr] at h;injection h with e1 e2;rw[e1]
     exact .inl rfl
   . have holds:∀ j u,xs[j]? = some u->w.cell? ((⟨g,0,none⟩:Addr).add j)=some u:=hown.cells (g:=g) rfl
     exact fin (Lib.run_append_grow_string (P:=P) w t u ty e i (.int .u8 0) ht hu hi hz ⟨g,0,none⟩ n cap xs (by rw[hsize];simpa using hxl) holds s (by omega) (by omega) (by rw[hby];exact growslice_fits (by omega) (by omega))) rfl
theorem Qvs {P:Program} (w:World) {ops:Array Oper} {rest:List Oper} {o:Oper} {a:Act} {Q:Exit->Act->World->Prop} (hgd:o.guard=none) (sl x:Operand) (t u:TypeId)
 (ho:o.op = .call { callee := .builtin .append,args := #[sl,x],argTypes := #[t,u] })
 (base:Nat) (e:TypeId) (i:TypeInfo) (ht:P.underlying t=some (.slice e)) (hu:P.underlying u=some .string) (hi:P.info? e=some i) (hz:i.zero=some (.int .u8 0))
 (hsize:i.size=1) (hby:i.bytes=1)
 (v:Value) (n:Nat) (xs:List Value) (hs:a.eval sl=v) (hown:w.ownsRow base e 1 v n xs) (s:ByteArray) (hx:a.eval x = .string s)
 (h63:n+s.size<=maxLen) (hbytes:n+s.size<=140737488355328) (hbase:base<=w.heap.size)
 (h:∀ v' w',w'.ownsRow base e 1 v' (n+s.size) (xs++Lib.strCells s)->w.grownBy w' v.ownBlock->(v' = .slice none 0 0↔v = .slice none 0 0/\s.size=0)->(v'.ownBlock=v.ownBlock\/v'.ownBlock=some w.heap.size)->wpList P ops Q rest (a.put o.dst v') w'):wpList P ops Q (o :: rest) a w:=by
 refine wpList_plain hgd fun K hK => ?_
 obtain⟨v',w',hr,h2,h3,h4,h5⟩:=Qn1 (P:=P) w base t u o.type e i ht hu hi hz hsize hby v n xs hown s h63 hbytes hbase;unfold Oper.wp execOp;simp only[ho,resolve,invoke,builtin,Sem.run_bind,Sem.run_pure,Result.andThen_ok,List.map_toArray,List.map_cons,List.map_nil,hs,hx,hr]
 exact hK _ _ (h v' w' h2 h3 h4 h5)
def RowOf (w:World) (b:Nat) (g:Option Nat):Prop:=∀ p v T fz,w.heap[b]? = some (.cells #[p,v] T fz)->v.ownBlock=g
theorem Q5w {w:World} {b:Nat} {p v v':Value} {T:TypeId} {fz:Nat×Nat} (hb:w.heap[b]? = some (.cells #[p,v] T fz)):RowOf (w.setCell ⟨b,1,none⟩ v') b v'.ownBlock:=by
 intro p2 v2 T2 fz2 h;have h2:(w.setCell ⟨b,1,none⟩ v').heap[b]? = some (.cells #[p,v'] T fz):=by simp[World.setCell,Array.getElem?_modify,hb]
 rw[h2] at h
 simp at h
 rw[<- h.1.2]
theorem Q8o {w:World} {b:Nat} {p v q:Value} {T:TypeId} {fz:Nat×Nat} {g:Option Nat} (hb:w.heap[b]? = some (.cells #[p,v] T fz)) (hg:RowOf w b g):RowOf (w.setCell ⟨b,0,none⟩ q) b g:=by
 intro p2 v2 T2 fz2 h;have h2:(w.setCell ⟨b,0,none⟩ q).heap[b]? = some (.cells #[q,v] T fz):=by simp[World.setCell,Array.getElem?_modify,hb]
 rw[h2] at h
 simp at h
 rw[<- h.1.2]
 exact hg _ _ _ _ hb
theorem Qy4:(Tryz.prog.info? 74).map (·.size)=some 2:=by kernel_rfl
theorem Q7b:liesAt Tryz.prog Tryz.prog.depth 74 (2/Tryz.prog.cellsOf 74) 0 74 1=true:=by kernel_rfl
set_option maxHeartbeats 1000000 in
set_option maxRecDepth 100000 in
theorem Q3j (b:Nat) (w:World) (h0:w.cell? ⟨b,0,none⟩=some (.pointer (some ⟨b,0,none⟩))) :
 Calls Tryz.prog 100 #[.pointer (some ⟨b,0,none⟩)] w fun e w'=>e = .returned (.tuple #[])/\w'=w:=by
 obtain⟨j,hj,_⟩:=Option.map_eq_some_iff.1 Qy4
 go_enter Tryz.func100,Tryz.ntmps100
 go_wp2
 rw[Lib.run_neq_ptr_same w _ Tryz.underlying71 hj]
 go_wp2
 go_end0
 exact⟨rfl,rfl⟩
set_option maxHeartbeats 1000000 in
set_option maxRecDepth 100000 in
theorem Q0l (b:Nat) (w:World) (h0:w.cell? ⟨b,0,none⟩=some (.pointer none)) (hsh:w.shape? b=some (74,2)) (hfz:w.frozen? ⟨b,0,none⟩=false) :
 Calls Tryz.prog 100 #[.pointer (some ⟨b,0,none⟩)] w fun e w'=>e = .returned (.tuple #[])/\w'=w.setCell ⟨b,0,none⟩ (.pointer (some ⟨b,0,none⟩)):=by
 obtain⟨j,hj,hjs⟩:=Option.map_eq_some_iff.1 Qy4
 go_enter Tryz.func100,Tryz.ntmps100
 go_wp2
 rw[Lib.run_to_unsafe w ⟨b,0,none⟩ Tryz.underlying71 Tryz.underlying244 hj (by rw[hjs];decide) hsh (Nat.zero_lt_succ 1)];simp only[Result.andThen];rw[Oper.upon_value]
 go_wp2
 rw[run_callFunc_extern Tryz.func171 (by kernel_rfl) (by kernel_rfl) (by kernel_rfl) (e:=Extern.AbiNoEscape.same) (by kernel_rfl)];rw[Lib.run_noEscape];simp only[Result.andThen];rw[Oper.upon_value]
 go_wp2
 rw[Lib.run_from_unsafe w ⟨b,0,none⟩ Tryz.underlying244 Tryz.underlying71 hj hsh Q7b];simp only[Result.andThen];rw[Oper.upon_value]
 go_wp2
 go_end0
 exact⟨rfl,rfl⟩
theorem Xdl (B b:Nat) (bs:List Value) (w:World) (g:Option Nat) (h:Lib.IsBuilder 74 5 B b bs w) (hg:RowOf w b g) :
 Calls Tryz.prog 100 #[.pointer (some ⟨b,0,none⟩)] w fun e w'=>e = .returned (.tuple #[])/\(Lib.BuilderAt 74 5 B b (.pointer (some ⟨b,0,none⟩)) bs w'/\Below B w w'/\(∀ k,k≠b->w'.heap[k]? = w.heap[k]?)/\RowOf w' b g):=by
 rcases h with h | h
 . refine(Q0l b w h.cell0 h.shape h.frozen0).mono ?_
   rintro e w' ⟨rfl,rfl⟩;obtain⟨_,v,hb,_⟩:=id h
   exact⟨rfl,h.used _,(Below.refl B w).setCell (p:=⟨b,0,none⟩) h.1 _,fun k hk=>Below.heap_setCell _ _ _ _ hk,Q8o hb hg⟩
 . refine(Q3j b w h.cell0).mono ?_
   rintro e w' ⟨rfl,rfl⟩
   exact⟨rfl,h,Below.refl B _,fun _ _=>rfl,hg⟩
theorem Q9a:74≠5:=by decide
theorem Qpf:∀ args w,(callFunc 100 args).run Tryz.prog w = .ok (.enter 100 args) w:=enters_of Tryz.func100 (by kernel_rfl) rfl
set_option maxHeartbeats 2000000 in
set_option maxRecDepth 100000 in
theorem Xds (B b:Nat) (bs:List Value) (s:ByteArray) (w:World) (g0:Option Nat) (h:Lib.IsBuilder 74 5 B b bs w) (hg0:RowOf w b g0) (hlen:bs.length+s.size<=140737488355328) (hBw:B<=w.heap.size) :
 Calls Tryz.prog 38 #[.pointer (some ⟨b,0,none⟩),.string s] w fun e w'=>e = .returned (.tuple #[.int .i64 s.size,.nilIface])/\(Lib.BuilderAt 74 5 B b (.pointer (some ⟨b,0,none⟩)) (bs++Lib.strCells s) w'/\Below B w w'/\∃ g1,RowOf w' b g1/\(g1=g0\/∃ k,g1=some k/\w.heap.size<=k)/\∀ k,k<w.heap.size->k≠b->g0≠some k->w'.heap[k]? = w.heap[k]?):=by
 obtain⟨i0,hi,hz0,hz1,hz2⟩:=info_parts Tryz.Builder_Extra_169.infoByte;have e240:=Qpf
 go_enter Tryz.func38,Tryz.ntmps38
 go_wp2_with (go_at_fn 100;refine(Xdl B b bs _ g0 h hg0).mono ?_)
 rintro e w1 ⟨rfl,h1,hb1,hk1,hr1⟩;obtain⟨hB,v,hbk,hown,hne⟩:=h1;have c0:w1.cell? ⟨b,0,none⟩=some (.pointer (some ⟨b,0,none⟩)):=by rw[Lib.cell_of_heap hbk];rfl
 have c1:w1.cell? ⟨b,1,none⟩=some v:=by rw[Lib.cell_of_heap hbk];rfl
 go_wp2_with (at_builtin;refine Qvs _ rfl _ _ 72 9 rfl B 5 i0 Tryz.underlying72 Tryz.underlying9 hi hz0 hz1 hz2 _ _ _ rfl hown s rfl ?c3 ?c4 ?c5 ?_)
 case c3=>unfold maxLen;omega
 case c4=>omega
 case c5=>have:=hb1.size;omega
 intro v' w2 hown' hgrow _ hat;have hvg:v.ownBlock=g0:=hr1 _ _ _ _ hbk
 have hlt:b<w1.heap.size:=by
  rcases Nat.lt_or_ge b w1.heap.size with h' | h'
  . exact h'
  . simp[Array.getElem?_eq_none h'] at hbk
 have hb2:w2.heap[b]? = some (.cells #[.pointer (some ⟨b,0,none⟩),v] 74 (0,0)):=by
  rw[hgrow.block b hlt (fun e=>hne e.symm)]
  exact hbk
 have d0:w2.cell? ⟨b,0,none⟩=some (.pointer (some ⟨b,0,none⟩)):=by rw[Lib.cell_of_heap hb2];rfl
 have d1:w2.cell? ⟨b,1,none⟩=some v:=by rw[Lib.cell_of_heap hb2];rfl
 have f1:w2.frozen? ⟨b,1,none⟩=false:=Lib.frozen_of_heap hb2 1
 obtain⟨ao,n',cap,rfl⟩:∃ ao n' cap,v' = .slice ao n' cap:=by
  rcases hown'.2 with⟨hv,_⟩ | ⟨g,cap,cur,hv,_⟩
  . exact⟨_,_,_,hv⟩
  . exact⟨_,_,_,hv⟩
 go_wp2
 go_ret2
 refine⟨rfl,?_,?_,Value.ownBlock (.slice ao n' cap),?_,?_,?_⟩
 . exact Lib.BuilderAt.put (T:=74) (e:=5) hB hb2 (bs':=bs++Lib.strCells s) (by simpa [Lib.strCells_length] using hown') Q9a
 . exact(hb1.grown hgrow (by have:=hb1.size;omega) (fun k hk=>(hown.lt k hk).1)).setCell (p:=⟨b,1,none⟩) hB _
 . exact Q5w hb2
 . rcases hat with e | e
   . exact .inl (e.trans hvg)
   . exact .inr ⟨_,e,by have:=hb1.size;omega⟩
 . intro k hk hkb hku
   rw[Below.heap_setCell _ _ _ _ hkb,hgrow.block k (by have:=hb1.size;omega) (fun e=>hku (hvg ▸ e.symm))]
   exact hk1 k hkb
set_option maxHeartbeats 2000000 in
set_option maxRecDepth 100000 in
theorem Xdr (B b:Nat) (bs:List Value) (c:Int) (w:World) (g0:Option Nat) (h:Lib.IsBuilder 74 5 B b bs w) (hg0:RowOf w b g0) (hlen:bs.length+1<=140737488355328) (hBw:B<=w.heap.size) :
 Calls Tryz.prog 37 #[.pointer (some ⟨b,0,none⟩),.int .u8 c] w fun e w'=>e = .returned .nilIface/\(Lib.BuilderAt 74 5 B b (.pointer (some ⟨b,0,none⟩)) (bs ++ [.int .u8 c]) w'/\Below B w w'/\∃ g1,RowOf w' b g1/\(g1=g0\/∃ k,g1=some k/\w.heap.size<=k)/\∀ k,k<w.heap.size->k≠b->g0≠some k->w'.heap[k]? = w.heap[k]?):=by
 obtain⟨i0,hi,hz0,hz1,hz2⟩:=info_parts Tryz.Builder_Extra_169.infoByte;have e240:=Qpf
 go_enter Tryz.func37,Tryz.ntmps37
 go_wp2_with (go_at_fn 100;refine(Xdl B b bs _ g0 h hg0).mono ?_)
 rintro e w1 ⟨rfl,h1,hb1,hk1,hr1⟩;obtain⟨hB,v,hbk,hown,hne⟩:=h1;have c0:w1.cell? ⟨b,0,none⟩=some (.pointer (some ⟨b,0,none⟩)):=by rw[Lib.cell_of_heap hbk];rfl
 have c1:w1.cell? ⟨b,1,none⟩=some v:=by rw[Lib.cell_of_heap hbk];rfl
 go_wp2_with (at_builtin;refine wpList_append_own_at _ rfl _ _ 72 rfl B 5 i0 (.int .u8 0) 1 1 Tryz.underlying72 hi hz0 hz1 hz2 rfl (by decide) _ _ _ rfl (hown.alloc _) ⟨w1.heap.size,0,none⟩ 1 1 [.int .u8 c] rfl rfl ?c1 ?c2 ?c3 ?c4 ?c5 ?_)
 case c1 =>
  intro j u hj
  match j,hj with
  | 0,hj=>simp at hj;subst hj;simp[Addr.add]
 case c2=>intro u hu;simp at hu;subst hu;rfl
 case c3=>unfold maxLen;omega
 case c4=>omega
 case c5=>have:=hb1.size;simp;omega
 intro v' w2 hown' hgrow _ hat;have hvg:v.ownBlock=g0:=hr1 _ _ _ _ hbk
 have hlt:b<w1.heap.size:=by
  rcases Nat.lt_or_ge b w1.heap.size with h' | h'
  . exact h'
  . simp[Array.getElem?_eq_none h'] at hbk
 have hb2:w2.heap[b]? = some (.cells #[.pointer (some ⟨b,0,none⟩),v] 74 (0,0)):=by
  rw[hgrow.block b (by simp;omega) (fun e=>hne e.symm),Lib.alloc_old w1 _ b hlt]
  exact hbk
 have d0:w2.cell? ⟨b,0,none⟩=some (.pointer (some ⟨b,0,none⟩)):=by rw[Lib.cell_of_heap hb2];rfl
 have d1:w2.cell? ⟨b,1,none⟩=some v:=by rw[Lib.cell_of_heap hb2];rfl
 have f1:w2.frozen? ⟨b,1,none⟩=false:=Lib.frozen_of_heap hb2 1
 obtain⟨g,cap,rfl⟩:∃ g cap,v' = .slice (some ⟨g,0,none⟩) (bs.length+1) cap:=by
  rcases hown'.2 with⟨_,h0⟩ | ⟨g,cap,cur,hv,_⟩
  . omega
  . exact⟨g,cap,hv⟩
 go_wp2
 go_ret
 refine⟨rfl,?_,?_,Value.ownBlock (.slice (some ⟨g,0,none⟩) (bs.length+1) cap),?_,?_,?_⟩
 . exact Lib.BuilderAt.put (T:=74) (e:=5) hB hb2 (bs':=bs ++ [.int .u8 c]) (by simpa using hown') Q9a
 . exact((hb1.alloc (by have:=hb1.size;omega) _).grown hgrow (by have:=hb1.size;simp;omega) (fun k hk=>(hown.lt k hk).1)).setCell (p:=⟨b,1,none⟩) hB _
 . exact Q5w hb2
 . rcases hat with e | e
   . exact .inl (e.trans hvg)
   . exact .inr ⟨_,e,by have:=hb1.size;simp;omega⟩
 . intro k hk hkb hku
   have hlk:k<w1.heap.size:=by have:=hb1.size;omega
   rw[Below.heap_setCell _ _ _ _ hkb,hgrow.block k (by simp;omega) (fun e=>hku (hvg ▸ e.symm)),Lib.alloc_old w1 _ k hlk]
   exact hk1 k hkb
structure BlG (w:World) (B b:Nat) (s:ByteArray) (g:Option Nat):Prop where
 is:Lib.IsBuilder 74 5 B b (Lib.strCells s) w
 row:RowOf w b g
 size:B<=w.heap.size
structure Wrt (b:Nat) (g:Option Nat) (w:World) (g':Option Nat) (w':World):Prop where
 row:g'=g\/∃ k,g'=some k/\w.heap.size<=k
 mod:Mod (fun k=>k=b\/g=some k) w w'
def Safe (b:Nat) (g:Option Nat) (k:Nat):Prop:=k≠b/\g≠some k
section
variable {b:Nat} {g g' g'':Option Nat} {w w' w'':World}
theorem Wrt.refl:Wrt b g w g w:=⟨.inl rfl,Mod.refl _ _⟩
theorem Wrt.ext (h:Ext w w'):Wrt b g w g w':=⟨.inl rfl,Mod.of_ext h⟩
theorem Wrt.size (h:Wrt b g w g' w'):w.heap.size<=w'.heap.size:=h.mod.size
theorem Wrt.safe (h:Wrt b g w g' w') {k:Nat} (hs:Safe b g k) (hk:k<w.heap.size):Safe b g' k:=by
 refine⟨hs.1,?_⟩;rcases h.row with e | ⟨k2,e,h2⟩
 . rw[e];exact hs.2
 . rw[e];intro he;injection he with he;omega
theorem Wrt.block (h:Wrt b g w g' w') {k:Nat} (hs:Safe b g k) (hk:k<w.heap.size):w'.heap[k]? = w.heap[k]? := h.mod.block k hk fun e=>e.elim hs.1 hs.2
theorem Wrt.trans (h:Wrt b g w g' w') (h':Wrt b g' w' g'' w''):Wrt b g w g'' w'':=by
 refine⟨?_,h'.mod.os.trans h.mod.os,h'.mod.tape.trans h.mod.tape,h'.mod.output.trans h.mod.output,Nat.le_trans h.size h'.size,fun k hk hn => ?_⟩
 . rcases h'.row with e | ⟨k,e,hk⟩
   . rw[e];exact h.row
   . exact .inr ⟨k,e,Nat.le_trans h.size hk⟩
 . have hs:Safe b g k:=⟨fun e=>hn (.inl e),fun e=>hn (.inr e)⟩
   exact(h'.block (h.safe hs hk) (Nat.lt_of_lt_of_le hk h.size)).trans (h.block hs hk)
theorem Wrt.cell (h:Wrt b g w g' w') {a:Addr} {v:Value} (hs:Safe b g a.block) (hc:w.cell? a=some v):w'.cell? a=some v:=by
 rw[World.cell?_of_block (w:=w) (h.block hs (cell_lt hc))]
 exact hc
theorem Wrt.sl {α:Type} {enc:α->List Value} {sz:Nat} {A:Option Addr} {l:List α} (h:Wrt b g w g' w') (hs:Sl enc sz w A l) (hp:∀ a,A=some a->Safe b g a.block):Sl enc sz w' A l:=fun i x hi=>by
 obtain⟨a,ha,hc⟩:=hs i x hi
 exact⟨a,ha,fun j v hj=>h.cell (by rw[add_block,add_block];exact hp a ha) (hc j v hj)⟩
end
theorem BlG.ext {w w':World} {B b:Nat} {s:ByteArray} {g:Option Nat} (h:BlG w B b s g) (hk:∀ k,B<=k->k<w.heap.size->w'.heap[k]? = w.heap[k]?) (hsz:w.heap.size<=w'.heap.size):BlG w' B b s g:=by
 have bat:∀ p,Lib.BuilderAt 74 5 B b p (Lib.strCells s) w->Lib.BuilderAt 74 5 B b p (Lib.strCells s) w':=by
  rintro p ⟨hB,v,hb,hown,hne⟩;refine⟨hB,v,by rw[hk b hB (lt_of_block hb)];exact hb,?_,hne⟩;refine⟨hown.1,?_⟩;rcases hown.2 with h0 | ⟨g,cap,cur,hv,hbg,hg,r⟩
  . exact .inl h0
  . exact .inr ⟨g,cap,cur,hv,hbg,by rw[hk g hbg (lt_of_block hg)];exact hg,r⟩
 have hb:∃ p,B<=b/\∃ v,w.heap[b]? = some (.cells #[p,v] 74 (0,0)):=by
  rcases h.is with⟨hB,v,hb,_⟩ | ⟨hB,v,hb,_⟩
  . exact⟨_,hB,v,hb⟩
  . exact⟨_,hB,v,hb⟩
 obtain⟨p,hB,v,hb⟩:=hb;refine⟨h.is.imp (bat _) (bat _),fun p2 v2 T2 fz2 h2 => ?_,Nat.le_trans h.size hsz⟩;rw[hk b hB (lt_of_block hb)] at h2
 exact h.row _ _ _ _ h2
theorem BlG.lt {w:World} {B b:Nat} {s:ByteArray} {g:Option Nat} (h:BlG w B b s g):B<=b/\b<w.heap.size/\∀ k,g=some k->B<=k/\k<w.heap.size:=by
 have key:∀ p,Lib.BuilderAt 74 5 B b p (Lib.strCells s) w->B<=b/\b<w.heap.size/\∀ k,g=some k->B<=k/\k<w.heap.size:=by
  rintro p ⟨hB,v,hb,hown,hne⟩;refine⟨hB,lt_of_block hb,fun k hk => ?_⟩;have hv:=h.row _ _ _ _ hb;rw[hk] at hv
  exact hown.lt k hv
 exact h.is.elim (key _) (key _)
theorem Xat:Qqj Tryz.prog 38:=⟨_,Tryz.func38,rfl,rfl⟩
theorem Xas:Qqj Tryz.prog 37:=⟨_,Tryz.func37,rfl,rfl⟩
theorem Q76:Qqj Tryz.prog 49:=⟨_,Tryz.func49,rfl,rfl⟩
theorem Qz5 (s t:ByteArray):Lib.strCells s++Lib.strCells t=Lib.strCells (s++t):=by
 unfold Lib.strCells;rw[<- List.map_append,<- Array.toList_append,ByteArray.data_append]
theorem Xbt {w:World} {B b:Nat} {s:ByteArray} {g:Option Nat} (t:ByteArray) (h:BlG w B b s g) (hl:s.size+t.size<=140737488355328) :
 Cal Tryz.prog 38 [.pointer (some ⟨b,0,none⟩),.string t] w fun r w'=>r = .tuple #[.int .i64 t.size,.nilIface]/\∃ g',BlG w' B b (s++t) g'/\Wrt b g w g' w':=by
 refine Qce Xat (Xds B b _ t w g h.is h.row (by rw[Lib.strCells_length];exact hl) h.size) ?_;rintro w' ⟨h1,h2,g',h3,h4,h5⟩;rw[Qz5] at h1
 exact⟨rfl,g',⟨.inr h1,h3,Nat.le_trans h.size h2.size⟩,h4,h2.os,h2.tape,h2.output,h2.size,fun k hk hn=>h5 k hk (fun e=>hn (.inl e)) fun e=>hn (.inr e)⟩
theorem Q6u {w:World} {B b:Nat} {s:ByteArray} {g:Option Nat} (c:Int) (t:ByteArray) (ht:[Value.int .u8 c]=Lib.strCells t) (h:BlG w B b s g) (hl:s.size+1<=140737488355328) :
 Cal Tryz.prog 37 [.pointer (some ⟨b,0,none⟩),.int .u8 c] w fun r w'=>r = .nilIface/\∃ g',BlG w' B b (s++t) g'/\Wrt b g w g' w':=by
 refine Qce Xas (Xdr B b _ c w g h.is h.row (by rw[Lib.strCells_length];exact hl) h.size) ?_;rintro w' ⟨h1,h2,g',h3,h4,h5⟩;rw[ht,Qz5] at h1
 exact⟨rfl,g',⟨.inr h1,h3,Nat.le_trans h.size h2.size⟩,h4,h2.os,h2.tape,h2.output,h2.size,fun k hk hn=>h5 k hk (fun e=>hn (.inl e)) fun e=>hn (.inr e)⟩
end Go.Proofs.YteabekcdcphjpaaGreatDoor
namespace Go.Proofs.YteabekcdcphjpaaGreatDoor
open Go.Se Go.RowKit
theorem Qph (name:ByteArray) (t:Int):∀ cs:List Ev,t∈(Xh cs name).map (·.at_)↔∃ x∈cs,x.item=name/\x.at_=t:=by
 refine Xf (by simp[Xh]) fun cs e ih => ?_
 have hx:(∃ x∈cs ++ [e],x.item=name/\x.at_=t)↔(∃ x∈cs,x.item=name/\x.at_=t)\/(e.item=name/\e.at_=t):=by
  constructor
  . rintro ⟨x,hx,h⟩
    rcases List.mem_append.1 hx with hx | hx
    . exact .inl ⟨x,hx,h⟩
    . rw[List.mem_singleton] at hx;subst hx;exact .inr h
  . rintro (⟨x,hx,h⟩ | h)
    . exact⟨x,by simp[hx],h⟩
    . exact⟨e,by simp,h⟩
 rw[Qcx,hx,<- ih];unfold Qgy Qix
 by_cases hn:name=e.item
 . subst hn
   rw[if_pos rfl,List.map_append,List.mem_append,List.map_cons,List.map_nil,List.mem_singleton];have:(Qgo (Xh cs e.item) e).at_=e.at_:=Qhk _ _;rw[this];constructor
   . rintro (h | h)
     . exact .inl h
     . exact .inr ⟨rfl,h.symm⟩
   . rintro (h | ⟨_,h⟩)
     . exact .inl h
     . exact .inr h.symm
 . rw[if_neg hn]
   constructor
   . exact .inl
   . rintro (h | ⟨h,_⟩)
     . exact h
     . exact absurd h.symm hn
def Qff (cs:List Ev) (t:Int) (name:ByteArray):Bool:=(X5 cs name t).2&&(X5 cs name t).1.listed
theorem Q69 (it:It) (w:World):Cal Tryz.prog 173 [.agg (itC it).toArray] w fun r w'=>r = .bool true/\Ext w w':=by
 refine Fi Tryz.func173 rfl _ rfl rfl (Hh ?_);intro b w1 hn;refine Gg ?_
 exact⟨rfl,hn.ext⟩
theorem Q50 {w:World} {S:Nat->Prop} {bm:Nat} {cs:List Ev} {L:List (ByteArray×(Option Addr×Nat))} (h:Qcf stC 9 254 w S bm (Xh cs) L):L.length<=cs.length:=by
 have hn:(L.map (·.1)).Nodup:=Qau h.keys
 have hs:∀ x∈L.map (·.1),x∈cs.map (·.item):=fun x hx=>by
  obtain⟨y,hy,rfl⟩:=List.mem_map.1 hx;have hne:=h.ne y hy;obtain⟨s,hs⟩:=List.exists_mem_of_ne_nil _ hne;obtain⟨e,he,hi,_⟩:=(Qph y.1 s.at_ cs).1 (List.mem_map.2 ⟨s,hs,rfl⟩)
  exact List.mem_map.2 ⟨e,he,hi⟩
 have:=Qjx hn hs
 simpa using this
theorem Qz8 {α:Type} (rows:ByteArray->List α) (L:List (ByteArray×(Option Addr×Nat))):(toV rows L).map (·.1)=L.map (·.1):=by unfold toV;rw[List.map_map];rfl
set_option maxHeartbeats 1000000 in
theorem Qyo (w:World) (S:Nat->Prop) (p:Nat) (cs:List Ev) (h:Qiy w S p cs) (t:Int) (hl:∀ name,(Xh cs name).length<1000000000000) (hcl:cs.length<100000) :
 Cal Tryz.prog 172 [.pointer (some ⟨p,0,none⟩),.int .i64 t,.func (.func 173) #[] #[]] w fun r w'=>∃ A c K,r = .slice A (Qah K).length c/\SlT w' A (Qah K)/\K.Nodup/\(∀ x,x∈K↔Qff cs t x=true)/\K.length<1000000/\(∀ a,A=some a->w.heap.size<=a.block)/\Ext w w':=by
 obtain⟨bm,L,hC⟩:=id h;have hLl:=Q50 hC.rows;have hkn:(L.map (·.1)).Nodup:=Qau hC.rows.keys
 have hin:∀ x,Qff cs t x=true->x∈L.map (·.1):=fun x hx=>by
  rw[Qjh]
  cases hq:Qe L x with
  | some v=>rfl
  | none =>
    have h0:=hC.rows.all x hq;unfold Qff X5 at hx;rw[h0] at hx
    simp at hx
 have hmap:=hC.rows.map;refine Fi Tryz.func172 rfl _ rfl rfl (Hh ?_);refine⟨.map (some bm),hC.head.one rfl,Gg ?_⟩;refine map_range Q0c hmap fun w3 hi3 hx3 => ?_
 have hs3:w.heap.size<w3.heap.size:=hi3.lt;generalize hr:w.heap.size=r at hi3 hs3 ⊢;refine Gg ?_
 refine Qd Qa (fun(q:List (ByteArray×Value)×Option Addr×Nat×List ByteArray) w'=>Ext w w'/\Iter w' r bm Value.string (toV (Xh cs) L) q.1/\q.2.2.2=(q.1.map (·.1)).filter (Qff cs t)/\q.1.length<=L.length/\Own Qbg 1 9 w3.heap.size w' q.2.1 q.2.2.1 q.2.2.2/\w3.heap.size<=w'.heap.size)
  (fun | (vs,A,c,K) => [(0,.pointer (some ⟨p,0,none⟩)),(1,.int .i64 t),(2,.func (.func 173) #[] #[]),(7,.slice A K.length c),(15,.pointer (some ⟨r,0,none⟩))]) (fun q=>L.length-q.1.length) ([],none,0,[]) ⟨hx3,hi3,rfl,Nat.zero_le _,Own.nil,Nat.le_refl _⟩ Rr ?_
 clear hi3 hx3;rintro ⟨vs,A,c,K⟩ w4 ⟨hx4,hi4,hK,hvl,hown,h34⟩;simp only at hi4 hK hvl hown
 have hKl:K.length<=vs.length:=by
  rw[hK];have:=List.length_filter_le (Qff cs t) (vs.map (·.1));rw[List.length_map] at this
  exact this
 conv=>whnf
 refine Qea hi4 (fun hp => ?_) (fun x w5 hxin hnew hlt hi5 ho5 hen => ?_)
 . refine Gg ?_
   constructor
   . intro hh;cases hh
   intro _
   have hpk:(vs.map (·.1)).Perm (L.map (·.1)):=by
    have:=hp.map (·.1);rw[Qz8] at this
    exact this
   have hKn:K.Nodup:=by rw[hK];exact(hpk.nodup_iff.2 hkn).sublist List.filter_sublist
   have hKm:∀ x,x∈K↔Qff cs t x=true:=fun x=>by
    rw[hK,List.mem_filter]
    exact⟨fun h=>h.2,fun h=>⟨hpk.mem_iff.2 (hin x h),h⟩⟩
   refine Gg ?_;refine(Qln K A c w3.heap.size w4 hown (by omega)).mono ?_;rintro _ w5 ⟨rfl,hsl,hx5⟩;refine Gg ?_;refine⟨A,c,K,?_,hsl,hKn,hKm,by omega,fun a ha=>by have:=(hown.block ha).1;omega,hx5 w hx4 (by omega)⟩;rw[Qdc]
 . have hx5:=ho5.ext hx4 (by omega)
   have hown5:Own Qbg 1 9 w3.heap.size w5 A c K:=hown.keep fun a ha=>ho5.block _ (by have:=(hown.block ha).1;omega)
   have hlt:vs.length<L.length:=by simpa [toV] using hlt
   have hsn:((vs ++ [x]).map (·.1)).filter (Qff cs t)=K++if Qff cs t x.1=true then [x.1] else []:=by
    rw[List.map_append,List.filter_append,hK]
    congr 1
    by_cases hq:Qff cs t x.1=true
    . simp[hq]
    . simp[hq]
   have s5:=ho5.size;refine Gg ?_;constructor
   . intro _
     refine Gg ?_;refine Qa8 (hen w5 rfl rfl) ?_;refine Gg ?_;refine(Qhs w5 S p cs (h.ext hx5) x.1 t (hl x.1)).mono ?_;rintro _ w6 ⟨rfl,hx6⟩;refine Gg ?_;intro b9 w7 hn7;refine Gg ?_;refine Qg Qa (e:=ty165) rfl hn7.At rfl rfl rfl (by simp[Qr,itC,Value.oneCell']) fun w8 h9 ho8 => ?_
     have h9:At w8 b9 165 (itC (X5 cs x.1 t).1):=h9;have hx58:Ext w5 w8:=ho8.ext (hx6.trans hn7.ext) (by rw[hn7.block];exact hx6.size);clear ho8 hn7 hx6;refine Gg ?_;refine⟨.bool (X5 cs x.1 t).1.listed,fun _=>h9.one rfl,Gg ?_⟩;refine⟨itC (X5 cs x.1 t).1,fun _=>⟨rfl,h9.all⟩,Gg ?_⟩;refine⟨Unit,fun _=>(.bool true),fun _ w'=>Ext w8 w',(),fun hg=>((Q69 (X5 cs x.1 t).1 w8)).mono fun r w' h=>⟨(),h.1,h.2⟩,?_⟩;intro _ w9 h2
     have hx89:Ext w8 w9:=by
      rcases h2 with⟨_,h⟩ | ⟨_,h⟩
      . exact h
      . rw[h];exact Ext.refl _
     clear h2
     conv=>whnf
     have hx59:=hx58.trans hx89;have hi9:=hi5.ext hx59;have hown9:=hown5.ext hx59;have hx9:=hx5.trans hx59;have s9:=hx59.size;clear hx58 hx89 h9 hi5 hown5;refine Gg ?_;constructor
     . intro hq
       have hq:Qff cs t x.1=true:=by
        have:(((X5 cs x.1 t).2&&(X5 cs x.1 t).1.listed)&&true)=true:=hq;rw[Bool.and_true] at this
        exact this
       rw[if_pos hq] at hsn;refine Gg ?_;intro bb wb hnb;refine Gg ?_;refine Qi Xa (l:=K) (news := [x.1]) rfl (hown9.ext hnb.ext) rfl (Xa.new1 (x:=x.1) hnb) (by simp;omega) (by have:=hnb.size;omega) fun A6 c6 w6 hown6 hg6 hA6 => ?_
       have hr6:∀ k,A.map (·.block)=some k->w3.heap.size<=k:=Qs (hown9.ext hnb.ext);have hx6:Ext w w6:=Qh (hx9.trans hnb.ext) hg6 (fun k hk=>by have:=hr6 k hk;omega)
       have hi6:Iter w6 r bm Value.string (toV (Xh cs) L) (vs ++ [x]):=by
        have hib:=hi9.ext hnb.ext;have hbl:=hmap.lt
        exact hib.keep (hg6.block bm hib.map.lt fun e=>by have:=hr6 bm e.symm;omega) (hg6.block r hib.lt fun e=>by have:=hr6 r e.symm;omega)
       have sb:=hnb.size;have s6:=hg6.size;generalize K ++ [x.1]=K2 at hown6 hsn ⊢;refine Gg ?_
       exact⟨(vs ++ [x],A6,c6,K2),by simp;omega,⟨hx6,hi6,hsn.symm,by simp;omega,hown6,by omega⟩,Rr⟩
     . intro hq
       have hq:¬ Qff cs t x.1=true:=fun h=>by
        have:(((X5 cs x.1 t).2&&(X5 cs x.1 t).1.listed)&&true)=false:=hq;rw[Bool.and_true] at this;unfold Qff at h;rw[this] at h
        cases h
       rw[if_neg hq,List.append_nil] at hsn;refine Gg ?_
       exact⟨(vs ++ [x],A,c,K),by simp;omega,⟨hx9,hi9,hsn.symm,by simp;omega,hown9,by omega⟩,Rr⟩
   . intro hh;cases hh
theorem Qw0 (w:World) (S:Nat->Prop) (p:Nat) (cs:List Ev) (h:Qiy w S p cs) (t:Int) (hl:∀ name,(Xh cs name).length<1000000000000) (hcl:cs.length<100000) :
 Cal Tryz.prog 102 [.pointer (some ⟨p,0,none⟩),.int .i64 t] w fun r w'=>∃ A c K,r = .slice A (Qah K).length c/\SlT w' A (Qah K)/\K.Nodup/\(∀ x,x∈K↔Qff cs t x=true)/\K.length<1000000/\(∀ a,A=some a->w.heap.size<=a.block)/\Ext w w':=by
 refine Fi Tryz.func102 rfl _ rfl rfl (Hh ?_);refine(Qyo w S p cs h t hl hcl).mono ?_;rintro _ w2 ⟨A,c,K,rfl,h2,h3,h4,h5,h6,h7⟩;refine Gg ?_
 exact⟨A,c,K,rfl,h2,h3,h4,h5,h6,h7⟩
def nlB:ByteArray:=⟨#[10]⟩
def Xk:List ByteArray->ByteArray
 | []=>⟨#[]⟩
 | x :: l=>x++Xk l
theorem Qcr:Xk []=⟨#[]⟩:=rfl
theorem Qs1 (x:ByteArray):(⟨#[]⟩:ByteArray)++x=x:=by apply ByteArray.ext;simp
theorem X8 (x:ByteArray):x++(⟨#[]⟩:ByteArray)=x:=by apply ByteArray.ext;simp
theorem Qf5 (l m:List ByteArray):Xk (l++m)=Xk l++Xk m:=by
 induction l with
 | nil=>rw[List.nil_append,Qcr,Qs1]
 | cons x l ih =>
   show x++Xk (l++m)=(x++Xk l)++Xk m
   rw[ih,ByteArray.append_assoc]
theorem Xi {α:Type} (f:α->ByteArray) (l:List α) (k:Nat) (h:k<l.length):Xk ((l.take (k+1)).map f)=Xk ((l.take k).map f)++f l[k]:=by
 rw[List.take_succ_eq_append_getElem h,List.map_append,Qf5]
 congr 1
 show Xk [f l[k]]=f l[k]
 unfold Xk;rw[Qcr,X8]
def Qb5:List ByteArray->ByteArray
 | []=>⟨#[]⟩
 | w :: ws=>Xv w++Xk (ws.map fun x=>spB++Xv x)
theorem Qyr (ws:List ByteArray) (k:Nat) (h:k<ws.length):Qb5 (ws.take (k+1))=(if 0<k then Qb5 (ws.take k)++spB else Qb5 (ws.take k))++Xv ws[k]:=by
 cases ws with
 | nil=>simp at h
 | cons w ws =>
   cases k with
   | zero =>
     show Xv w++Xk []=_
     rw[if_neg (by omega)];show Xv w++Xk []=Qb5 []++Xv w
     unfold Qb5;rw[Qcr,Qs1,X8]
   | succ k =>
     have h2:k<ws.length:=by simpa using h
     rw[if_pos (by omega)];show Xv w++Xk ((ws.take (k+1)).map fun x=>spB++Xv x)=(Xv w++Xk ((ws.take k).map fun x=>spB++Xv x))++spB++Xv ws[k]
     rw[Xi _ ws k h2];simp only[ByteArray.append_assoc]
def Qci (ws:List ByteArray):ByteArray:=Qb5 ws++nlB
def jnB (l:List ByteArray):ByteArray:=⟨(Lib.join (l.map (·.data.toList)) [44]).toArray⟩
def nB (n:Int):ByteArray:=Qqz n.toNat
def Qh7:ByteArray:=⟨#[99,111,110,102,105,103]⟩
def Qhl:ByteArray:=⟨#[101,118,101,110,116]⟩
def Qhm:ByteArray:=⟨#[116,104,105,110,103]⟩
def Qde:ByteArray:=⟨#[112,111,112,117,108,97,114]⟩
def Qlr:ByteArray:=⟨#[112,97,110,101]⟩
def Qd3:ByteArray:=⟨#[115,101,115,115,105,111,110]⟩
def Qj3:ByteArray:=⟨#[112,97,105,114]⟩
def Qe2:ByteArray:=⟨#[116,97,115,116,101]⟩
def Qdm (l:List Ct):List Ct:=l.mergeSort fun a b => !Qfg b a
theorem Q72 (a b c:Ct) (h1:Qfg b a=false) (h2:Qfg c b=false):Qfg c a=false:=by
 unfold Qfg at *;simp only[Bool.or_eq_false_iff,decide_eq_false_iff_not,Bool.and_eq_false_iff] at *;refine⟨by omega,?_⟩
 by_cases e:c.2=a.2
 . right
   have e1:b.2=a.2:=by omega
   have e2:c.2=b.2:=by omega
   have q1:bLt b.1 a.1=false:=h1.2.elim (fun h=>absurd e1 h) id;have q2:bLt c.1 b.1=false:=h2.2.elim (fun h=>absurd e2 h) id
   cases hc:bLt c.1 a.1 with
   | false=>rfl
   | true =>
     cases hb:bLt a.1 b.1 with
     | true=>rw[Qaw hc hb] at q2;cases q2
     | false=>rw[Qby hb q1,q2] at hc;cases hc
 . exact .inl e
theorem Q1g (a b:Ct):((!Qfg b a)||(!Qfg a b))=true:=by
 cases h:Qfg b a with
 | false=>rfl
 | true =>
   cases h2:Qfg a b with
   | false=>rfl
   | true =>
     unfold Qfg at h h2;simp only[Bool.or_eq_true,decide_eq_true_eq,Bool.and_eq_true] at h h2
     exfalso
     have e:a.2=b.2:=by omega
     have q1:bLt b.1 a.1=true:=by rcases h with h | h;omega;exact h.2
     have q2:bLt a.1 b.1=true:=by rcases h2 with h | h;omega;exact h.2
     have:=Qaw q1 q2;rw[X6] at this;cases this
theorem Qk2 (l:List Ct):(Qdm l).Perm l:=List.mergeSort_perm _ _
theorem Q6d (l:List Ct):Srt Qfg (Qdm l):=by
 have:=List.pairwise_mergeSort (le:=fun a b => !Qfg b a) (fun a b c h1 h2=>by
  simp only[Bool.not_eq_true'] at *
  exact Q72 a b c h1 h2) Q1g l
 exact this.imp fun h=>by simpa using h
theorem Qsd {F L:List Ct} (hp:F.Perm L) (hs:Srt Qfg F):F=Qdm L:=by
 refine Qp7 (hp.trans (Qk2 L).symm) hs (Q6d L) fun x _ y _ h1 h2 => ?_
 unfold Qfg at h1 h2;simp only[Bool.or_eq_false_iff,decide_eq_false_iff_not,Bool.and_eq_false_iff] at h1 h2;have e2:x.2=y.2:=by omega
 have e1:x.1=y.1:=by
  have q1:bLt x.1 y.1=false:=h1.2.elim (fun h=>absurd e2 h) id;have q2:bLt y.1 x.1=false:=h2.2.elim (fun h=>absurd e2.symm h) id
  exact Qby q1 q2
 exact Prod.ext e1 e2
def Q27 (c:Cfg):ByteArray:=Qci [Qh7,nB c.half,nB c.width,nB c.gap,nB c.span,nB c.floor,nB c.crowd]
def evD (e:Ev):ByteArray:=Qci [Qhl,Qfs e]
def Qcz (z:List Ev) (now:Int):List ByteArray:=Qbp (((Qu z).map (·.item)).filter (Qff (Qu z) now))
def thD (z:List Ev) (now:Int) (name:ByteArray):ByteArray:=Qci [Qhm,name,(X5 (Qu z) name now).1.maker,(X5 (Qu z) name now).1.tags,nB (X5 (Qu z) name now).1.price,nB (X5 (Qu z) name now).1.stock,nB (X5 (Qu z) name now).1.born]
def Qcu (s:Qih) (half now:Int):List Ct:=((s.map (·.1)).map fun k=>(k,Qaf s half k now)).filter fun x=>decide (0<x.2)
def Qou (x:Ct):ByteArray:=Qci [Qde,x.1,nB x.2]
def snD (s:Sn):ByteArray:=Qci [Qd3,s.person,nB s.from_,nB s.to_,jnB s.items]
def Qac (S:List Sn):List ByteArray:=Qbp (S.flatMap (·.items))
def Qdf (S:List Sn) (a:ByteArray):List ByteArray:=Qbp ((S.flatMap (·.items)).filter fun b => !decide (a=b)&&decide (0<Qa9 S a b))
def Qlz (S:List Sn) (a b:ByteArray):ByteArray:=if bLt a b=true then Qci [Qj3,a,b,nB (Qa9 S a b)] else⟨#[]⟩
def Qb2 (S:List Sn) (a:ByteArray):ByteArray:=Xk ((Qdf S a).map (Qlz S a))
def Qf1 (person:ByteArray) (x:Ct):ByteArray:=Qci [Qe2,person,x.1,nB x.2]
def Qdg (z:List Ev) (c:Cfg) (key:ByteArray):ByteArray:=Qci [Qlr,key,nB (paS (Ql c.width z).ps key (0/Qv c.width) ((1099511627776+c.width)/Qv c.width))]
def Qt7 (z:List Ev):List ByteArray:=Qbp ((Qfi z).map (·.person))
def Qd8 (z:List Ev) (c:Cfg) (now:Int) (person:ByteArray):ByteArray:=Xk ((Qdm (Q60 (Qv c.half) now (rowsOf (Ql c.width z).rs person))).map (Qf1 person))
def Q6x (c:Cfg) (z:List Ev) (now:Int):ByteArray :=
 Q27 c++Xk (z.map evD)++Xk ((Qcz z now).map (thD z now))++Xk ((Qdm (Qcu (Ql c.width z).ds (Qv c.half) now)).map Qou)
  ++ Xk ((Qch (Ql c.width z).ps (0/Qv c.width) ((1099511627776+c.width)/Qv c.width)).map (Qdg z c))
  ++ Xk ((Qdb c z).map snD)++Xk ((Qac (Qdb c z)).map (Qb2 (Qdb c z)))++Xk ((Qt7 z).map (Qd8 z c now))
theorem Q2j {S:List Sn} {a:ByteArray}:0<Qhe S a↔a∈S.flatMap (·.items):=by
 unfold Qhe hasB;rw[List.length_pos_iff_exists_mem,List.mem_flatMap];simp only[List.mem_filter,decide_eq_true_eq]
theorem Q46 {S:List Sn} {a b:ByteArray} (h:0<Qa9 S a b):b∈S.flatMap (·.items):=by
 unfold Qa9 hasB at h;rw[List.length_pos_iff_exists_mem] at h;obtain⟨s,hs⟩:=h;simp only[List.mem_filter,Bool.and_eq_true,decide_eq_true_eq] at hs
 exact List.mem_flatMap.2 ⟨s,hs.1,hs.2.2⟩
theorem Qzi {m:List (ByteArray×Int)} (h:∀ x∈m,0<x.2) {a:ByteArray}:a∈m.map (·.1)↔0<(Qe m a).getD 0:=by
 rw[Qjh]
 cases hq:Qe m a with
 | none=>simp
 | some v=>simpa using h (a,v) (Qa4 hq)
theorem TabIs.items {sg:List (ByteArray×Int)} {ct:Qvj} {S:List Sn} (h:TabIs sg ct S) (hn:sg.Pairwise (fun x y=>x.1≠y.1)):Qah (sg.map (·.1))=Qac S:=by
 refine Qhd (Qau hn) fun x => ?_
 rw[Qzi h.pos.1,h.sg,<- Q2j];omega
theorem Qmh {S:List Sn} {a b:ByteArray}:b∈(S.flatMap (·.items)).filter (fun b => !decide (a=b)&&decide (0<Qa9 S a b))↔a≠b/\0<Qa9 S a b:=by
 rw[List.mem_filter,Bool.and_eq_true,Bool.not_eq_true',decide_eq_false_iff_not,decide_eq_true_eq]
 exact⟨fun h=>h.2,fun h=>⟨Q46 h.2,h⟩⟩
theorem TabIs.near {sg:List (ByteArray×Int)} {ct:Qvj} {S:List Sn} (h:TabIs sg ct S) {a:ByteArray} {m:List (ByteArray×Int)} (hm:Qe ct a=some m) (hn:m.Pairwise (fun x y=>x.1≠y.1)):Qah (m.map (·.1))=Qdf S a:=by
 refine Qhd (Qau hn) fun x => ?_
 rw[Qzi (h.pos.2 (a,m) (Qa4 hm)),Qmh];have:=h.ct a x;rw[hm] at this;simp only[Option.getD_some] at this;rw[this]
 by_cases hx:a=x
 . simp[hx]
 . rw[if_neg hx]
   exact⟨fun h=>⟨hx,by omega⟩,fun h=>by have:=h.2;omega⟩
theorem TabIs.near0 {sg:List (ByteArray×Int)} {ct:Qvj} {S:List Sn} (h:TabIs sg ct S) {a:ByteArray} (hm:Qe ct a=none):Qdf S a = []:=by
 have:∀ x,x∉Qdf S a:=fun x hx=>by
  unfold Qdf at hx;rw[X7,Qmh] at hx;have h2:=h.ct a x;rw[hm] at h2;rw[if_neg hx.1] at h2;have h3:(Qe ((none:Option (List (ByteArray×Int))).getD []) x).getD 0=0:=rfl;rw[h3] at h2;omega
 cases hq:Qdf S a with
 | nil=>rfl
 | cons y l=>exact absurd (by rw[hq];simp) (this y)
theorem Q3n (x:ByteArray) (l:List ByteArray):Xk (x :: l)=x++Xk l:=rfl
theorem Qs6 {K:Nat}:∀ l:List ByteArray,(∀ x∈l,x.size<=K)->(Xk l).size<=l.length*K
 | [],_=>Nat.zero_le _
 | x :: l,h=>by
   have ih:=Qs6 (K:=K) l fun y hy=>h y (by simp[hy])
   have hx:=h x (by simp);rw[Q3n,ByteArray.size_append,List.length_cons,Nat.succ_mul];omega
theorem Qbc {α:Type} (f:α->ByteArray) {K:Nat} (l:List α) (h:∀ x∈l,(f x).size<=K):(Xk (l.map f)).size<=l.length*K:=by
 have:=Qs6 (K:=K) (l.map f) fun y hy=>by
  obtain⟨x,hx,rfl⟩:=List.mem_map.1 hy
  exact h x hx
 rwa [List.length_map] at this
theorem Qai {α:Type} (f:α->ByteArray) (l:List α) (k:Nat):(Xk ((l.take k).map f)).size<=(Xk (l.map f)).size:=by
 have h:l.map f=(l.take k).map f++(l.drop k).map f:=by rw[<- List.map_append,List.take_append_drop]
 rw[h,Qf5,ByteArray.size_append];omega
theorem Qh4 (s:ByteArray):(Xv s).size<=s.size+1:=Qh3 s
theorem Qyq {K:Nat} (ws:List ByteArray) (h:∀ x∈ws,x.size<=K):(Qb5 ws).size<=ws.length*(K+2):=by
 cases ws with
 | nil=>exact Nat.zero_le _
 | cons w ws =>
   have h1:=Qbc (K:=K+2) (fun x=>spB++Xv x) ws fun x hx=>by
    have h1:=h x (by simp[hx]);have h2:=Qh4 x;have h3:spB.size=1:=rfl;rw[ByteArray.size_append];omega
   have h2:=h w (by simp);have h3:=Qh4 w;show (Xv w++Xk (ws.map fun x=>spB++Xv x)).size<=_
   rw[ByteArray.size_append,List.length_cons,Nat.succ_mul];omega
theorem Qw3:nlB.size=1:=rfl
theorem Qcy {K:Nat} (ws:List ByteArray) (h:∀ x∈ws,x.size<=K):(Qci ws).size<=ws.length*(K+2)+1:=by
 have:=Qyq ws h;unfold Qci;rw[ByteArray.size_append,Qw3];omega
theorem Qaq {n:Int} (h:n<=9223372036854775807):(nB n).size<=21:=Qev _ (by omega)
theorem Qk4 {z:List Ev} (hm:∀ e∈z,Xp e=true) {e:Ev} (he:e∈Qu z):Qn e.item=true:=by
 obtain⟨h1,h2⟩:=List.mem_filter.1 he;have hk:=Qbd (Qb1.1 (hm e h1)).kind;have h3:e.kind=11\/e.kind=12\/e.kind=13:=by simpa [thB] using h2
 rcases hk with⟨h,_⟩ | ⟨h,_⟩ | ⟨h,_⟩ | ⟨_,_,h,_⟩ | ⟨_,_,h,_⟩ | ⟨_,_,h,_⟩ | ⟨h,_⟩
 . omega
 . omega
 . omega
 . exact h
 . exact h
 . exact h
 . omega
theorem Qw9 {z:List Ev} (hm:∀ e∈z,Xp e=true) {e:Ev} (he:e∈Qfi z):Qn e.person=true:=by
 obtain⟨h1,h2⟩:=List.mem_filter.1 he;have hk:=Qbd (Qb1.1 (hm e h1)).kind;have h3:¬ (e.kind=11\/e.kind=12\/e.kind=13)/\¬ e.kind=14:=by simpa [peB,thB] using h2
 rcases hk with⟨_,h,_⟩ | ⟨_,h,_⟩ | ⟨_,h,_⟩ | ⟨h,_⟩ | ⟨h,_⟩ | ⟨h,_⟩ | ⟨h,_⟩
 . exact h
 . exact h
 . exact h
 . omega
 . omega
 . omega
 . omega
theorem Qgl {z:List Ev} (hm:∀ e∈z,Xp e=true) {e:Ev} (he:e∈z.filter wpB):Qn e.person=true/\Qn e.item=true:=by
 obtain⟨h1,h2⟩:=List.mem_filter.1 he
 exact Qcv (hm e h1) (by simpa [wpB] using h2)
def ItB (i:It):Prop:=i.maker.size<1000/\i.tags.size<1000/\(0<=i.price/\i.price<=1099511627776)/\(0<=i.stock/\i.stock<=1099511627776)/\0<=i.born/\i.born<=1099511627776
theorem Qwr (name:ByteArray):ItB { Qcp with name:=name }:=by
 have h:(⟨#[]⟩:ByteArray).size=0:=rfl;unfold ItB Qcp;simp only[h];omega
theorem Xdv {s:St} {e:Ev} (h:ItB s.item) (he:Xp e=true) (hk:e.kind=11\/e.kind=12\/e.kind=13):ItB (Qa0 s e).item:=by
 have hc:=Qbd (Qb1.1 he).kind;have ha:=(Qb1.1 he).at_;obtain⟨h1,h2,h3,h4,h5⟩:=h;have hr:=Qjq e.text;have ht:=Qb9 he;unfold Qa0
 split
 . next k =>
   have hl:Qbu e.text=true/\0<=e.val/\e.val<=1048576:=by
    rcases hc with⟨h,_⟩ | ⟨h,_⟩ | ⟨h,_⟩ | ⟨_,_,_,h⟩ | ⟨h,_⟩ | ⟨h,_⟩ | ⟨h,_⟩
    . omega
    . omega
    . omega
    . exact h
    . omega
    . omega
    . omega
   have hn:Qn (Qaz e.text)=true:=by
    have:=hl.1;unfold Qbu at this;simp only[Bool.and_eq_true] at this
    exact this.1.2
   have hs:=Qbl hn;refine⟨by show (Qaz e.text).size<1000;omega,by show (Qap e.text).size<1000;omega,by show 0<=e.val/\e.val<=_;omega,h4,?_⟩;show 0<=(if s.born=true then s.item.born else e.at_)/\(if s.born=true then s.item.born else e.at_)<=_
   split
   . exact h5
   . exact ha
 . split
   . next k =>
     have hl:0<=e.val/\e.val<=1048576:=by
      rcases hc with⟨h,_⟩ | ⟨h,_⟩ | ⟨h,_⟩ | ⟨h,_⟩ | ⟨_,_,_,_,h⟩ | ⟨h,_⟩ | ⟨h,_⟩
      . omega
      . omega
      . omega
      . omega
      . exact h
      . omega
      . omega
     exact⟨h1,h2,h3,by show 0<=e.val/\e.val<=_;omega,h5⟩
   . exact⟨h1,h2,h3,h4,h5⟩
theorem Q0o:∀ cs:List Ev,(∀ e∈cs,Xp e=true/\(e.kind=11\/e.kind=12\/e.kind=13))->∀ name,∀ s∈Xh cs name,ItB s.item:=by
 refine Xf (fun _ name s hs=>by simp[Xh] at hs) fun l e ih h name s hs => ?_
 have ih:=ih (fun x hx=>h x (by simp[hx]));obtain⟨he,hk⟩:=h e (by simp);rw[Qcx] at hs;unfold Qgy Qix at hs
 split at hs
 . rcases List.mem_append.1 hs with hs | hs
   . exact ih _ s hs
   . rw[List.mem_singleton] at hs
     subst hs;unfold Qgo;refine Xdv ?_ he hk
     cases hq:(Xh l e.item).getLast? with
     | none=>exact Qwr _
     | some s=>exact ih _ s (List.mem_of_getLast? hq)
 . exact ih name s hs
theorem Qvy {z:List Ev} (hm:∀ e∈z,Xp e=true) (name:ByteArray) (t:Int):ItB (X5 (Qu z) name t).1:=by
 have hb:=Q0o (Qu z) (fun e he=>⟨hm e (List.mem_filter.1 he).1,by simpa [thB] using (List.mem_filter.1 he).2⟩) name;unfold X5
 split
 . next s hs =>
   split
   . exact Qwr ⟨#[]⟩
   . exact hb s (List.mem_of_getElem? hs)
 . exact Qwr ⟨#[]⟩
theorem names_in {z:List Ev} {now:Int} {x:ByteArray} (h:x∈Qcz z now):∃ e∈Qu z,e.item=x:=by
 unfold Qcz at h;rw[X7] at h;obtain⟨e,he,hx⟩:=List.mem_map.1 (List.mem_filter.1 h).1
 exact⟨e,he,hx⟩
theorem Qnq (z:List Ev) (now:Int):(Qcz z now).length<=z.length:=by
 unfold Qcz;have h1:=Qgi (((Qu z).map (·.item)).filter (Qff (Qu z) now));have h2:=List.length_filter_le (Qff (Qu z) now) ((Qu z).map (·.item));have h3:(Qu z).length<=z.length:=List.length_filter_le thB z;rw[List.length_map] at h2;omega
theorem Qwc:∀ l:List Ev,(Qf2 l).length<=l.length/\∀ x∈Qf2 l,∃ e∈l,e.item=x.1:=by
 refine Xf ⟨by simp[Qf2],fun x hx=>by simp[Qf2] at hx⟩ fun l e ih => ?_
 rw[Qm5,List.length_append,List.length_singleton];unfold Qp1
 split
 . exact⟨by omega,fun x hx=>by obtain⟨u,hu,h⟩:=ih.2 x hx;exact⟨u,by simp[hu],h⟩⟩
 . have:=Qf4 e.item (Xr ((Qe (Qf2 l) e.item).getD []) e.at_ ((Qe ((Qe (Qf2 l) e.item).getD []) e.at_).getD 0+Qw e)) (Qf2 l)
   refine⟨by omega,fun x hx => ?_⟩;rcases Qcq hx with h | hx
   . exact⟨e,by simp,by rw[h]⟩
   . obtain⟨u,hu,h⟩:=ih.2 x hx;exact⟨u,by simp[hu],h⟩
theorem Qru (width:Int):∀ l:List Ev,(Qgs width l).length<=l.length/\∀ x∈Qgs width l,∃ e∈l,e.item=x.1.1:=by
 refine Xf ⟨by simp[Qgs],fun x hx=>by simp[Qgs] at hx⟩ fun l e ih => ?_
 rw[Qrv,List.length_append,List.length_singleton];unfold Qp0
 split
 . exact⟨by omega,fun x hx=>by obtain⟨u,hu,h⟩:=ih.2 x hx;exact⟨u,by simp[hu],h⟩⟩
 . have:=Qf4 (e.item,e.at_/Qv width) ((Qe (Qgs width l) (e.item,e.at_/Qv width)).getD 0+Qw e) (Qgs width l)
   refine⟨by omega,fun x hx => ?_⟩;rcases Qcq hx with h | hx
   . exact⟨e,by simp,by rw[h]⟩
   . obtain⟨u,hu,h⟩:=ih.2 x hx;exact⟨u,by simp[hu],h⟩
theorem Qm3 {z:List Ev} (hm:∀ e∈z,Xp e=true) (hz:z.length<1000) (half:Int) (key:ByteArray) (now:Int):Qaf (Qf2 (z.filter wpB)) half key now=Qoz (z.filter wpB) half key now/\0<=Qoz (z.filter wpB) half key now/\Qoz (z.filter wpB) half key now<=1099511627776:=by
 have hb:=Q5h (Qve hm) half key now;have hl:=List.length_filter_le wpB z;refine⟨?_,hb.1,by omega⟩;unfold Qaf;rw[Xb9 _ _ _ _ (fun e he=>(List.mem_filter.1 he).2)]
 exact(wrap_eq rfl ⟨by omega,by omega⟩).symm
theorem Qsl {z:List Ev} (hm:∀ e∈z,Xp e=true) (hz:z.length<1000) {half now:Int} {x:Ct} (h:x∈Qcu (Qf2 (z.filter wpB)) half now):Qn x.1=true/\0<x.2/\x.2<=1099511627776:=by
 unfold Qcu at h;obtain⟨h1,h2⟩:=List.mem_filter.1 h;obtain⟨k,hk,rfl⟩:=List.mem_map.1 h1;obtain⟨y,hy,rfl⟩:=List.mem_map.1 hk;obtain⟨e,he,hi⟩:=(Qwc _).2 y hy;have hn:=(Qgl hm he).2;have hc:=Qm3 hm hz half y.1 now;rw[hi] at hn;have h3:0<Qaf (Qf2 (z.filter wpB)) half y.1 now:=by simpa using h2
 rw[hc.1] at h3;refine⟨hn,?_,?_⟩
 . show 0<Qaf _ _ _ _;rw[hc.1];exact h3
 . show Qaf _ _ _ _<=_;rw[hc.1];exact hc.2.2
theorem Qsm (z:List Ev) (half now:Int):(Qcu (Qf2 (z.filter wpB)) half now).length<=z.length:=by
 unfold Qcu;have h1:=List.length_filter_le (fun x:Ct=>decide (0<x.2)) (((Qf2 (z.filter wpB)).map (·.1)).map fun k=>(k,Qaf (Qf2 (z.filter wpB)) half k now));rw[List.length_map,List.length_map] at h1;have h2:=(Qwc (z.filter wpB)).1;have h3:=List.length_filter_le wpB z;omega
theorem Qra {z:List Ev} (hm:∀ e∈z,Xp e=true) {width lo hi:Int} {x:ByteArray} (h:x∈Qch (Qgs width (z.filter wpB)) lo hi):Qn x=true:=by
 unfold Qch at h;rw[X7] at h;obtain⟨y,hy,rfl⟩:=List.mem_map.1 h;obtain⟨e,he,hi⟩:=(Qru width _).2 y (List.mem_filter.1 hy).1;rw[<- hi]
 exact(Qgl hm he).2
theorem Qnl (z:List Ev) (width lo hi:Int):(Qch (Qgs width (z.filter wpB)) lo hi).length<=z.length:=by
 unfold Qch;have h1:=Qgi (((Qgs width (z.filter wpB)).filter fun x=>Ql0 lo hi x.1.2).map (·.1.1));have h2:=List.length_filter_le (fun x:PK×Int=>Ql0 lo hi x.1.2) (Qgs width (z.filter wpB));have h3:=(Qru width (z.filter wpB)).1;have h4:=List.length_filter_le wpB z;rw[List.length_map] at h1;omega
theorem Qrs {z:List Ev} (hm:∀ e∈z,Xp e=true) (hz:z.length<1000) (width:Int) (key:ByteArray) (lo hi:Int):0<=paS (Qgs width (z.filter wpB)) key lo hi/\paS (Qgs width (z.filter wpB)) key lo hi<=1099511627776:=by
 have hb:=Q8b (Qve hm) width key lo hi;have hl:=List.length_filter_le wpB z;rw[Q9j _ _ _ _ _ (fun e he=>(List.mem_filter.1 he).2)];omega
def Xb3 (l:List Ev) (q:Sn):Prop:=(∃ e∈l,e.person=q.person)/\(∃ e∈l,e.at_=q.from_)/\(∃ e∈l,e.at_=q.to_)/\∀ i∈q.items,∃ e∈l,e.item=i
theorem Xbd {gap:Int} {l:List Ev} {acc:List Sn} {e:Ev} (he:e∈l) (h:∀ q∈acc,Xb3 l q):∀ q∈Qam gap acc (adE e),Xb3 l q:=by
 intro q hq;have hone:Xb3 l ⟨(adE e).1,(adE e).2.1,(adE e).2.1,[(adE e).2.2]⟩:=⟨⟨e,he,rfl⟩,⟨e,he,rfl⟩,⟨e,he,rfl⟩,fun i hi=>⟨e,he,by rw[List.mem_singleton] at hi;rw[hi];rfl⟩⟩;unfold Qam at hq
 split at hq
 . next g hg =>
   have hgm:=h g (List.mem_of_getLast? hg)
   split at hq
   . rcases List.mem_append.1 hq with hq | hq
     . exact h q (List.dropLast_subset _ hq)
     . rw[List.mem_singleton] at hq
       subst hq;refine⟨⟨e,he,rfl⟩,hgm.2.1,⟨e,he,rfl⟩,fun i hi => ?_⟩;rcases Qhw.1 hi with hi | hi
       . exact hgm.2.2.2 i hi
       . exact⟨e,he,by rw[hi];rfl⟩
   . rcases List.mem_append.1 hq with hq | hq
     . exact h q hq
     . rw[List.mem_singleton] at hq
       subst hq
       exact hone
 . rcases List.mem_append.1 hq with hq | hq
   . exact h q hq
   . rw[List.mem_singleton] at hq
     subst hq
     exact hone
theorem all_in (gap:Int) (l:List Ev):∀ L:List Ad3,(∀ a∈L,a∈l.map adE)->∀ q∈allL gap L,Xb3 l q:=by
 refine Xf (fun _ q hq=>by simp[allL] at hq) fun L a ih h => ?_
 rw[Qer];obtain⟨e,he,rfl⟩:=List.mem_map.1 (h a (by simp))
 exact Xbd he (ih fun x hx=>h x (by simp[hx]))
theorem Q9q (c:Cfg) (z:List Ev):∀ q∈Qdb c z,Xb3 (z.filter wpB) q:=by
 intro q hq;unfold Qdb at hq;rw[<- Qk1 _ (Qkf _).1] at hq
 exact all_in _ _ _ (fun a ha=>(Qkh _).1 ha) q hq
theorem Q6a (c:Cfg) {z:List Ev} (hz:z.length<1000):∀ q∈Qdb c z,q.items.length<1000:=by
 intro q hq;unfold Qdb at hq;rw[<- Qk1 _ (Qkf _).1] at hq;have h1:=Qj6 _ _ q hq;have h2:=Qfu (lt:=ahB) ((z.filter wpB).map adE);have h3:=List.length_filter_le wpB z;rw[List.length_map] at h2;omega
theorem Qsa {c:Cfg} {z:List Ev} (hm:∀ e∈z,Xp e=true) {q:Sn} (hq:q∈Qdb c z):Qn q.person=true/\(0<=q.from_/\q.from_<=1099511627776)/\(0<=q.to_/\q.to_<=1099511627776)/\∀ i∈q.items,Qn i=true:=by
 obtain⟨⟨e1,h1,k1⟩,⟨e2,h2,k2⟩,⟨e3,h3,k3⟩,h4⟩:=Q9q c z q hq;refine⟨by rw[<- k1];exact(Qgl hm h1).1,by rw[<- k2];exact Qif (Qve hm _ h2),by rw[<- k3];exact Qif (Qve hm _ h3),fun i hi => ?_⟩;obtain⟨e,he,rfl⟩:=h4 i hi
 exact(Qgl hm he).2
theorem Qq4 (c:Cfg) (z:List Ev) {x:ByteArray} (h:x∈(Qdb c z).flatMap (·.items)):x∈(z.filter wpB).map (·.item):=by
 obtain⟨q,hq,hx⟩:=List.mem_flatMap.1 h;obtain⟨e,he,rfl⟩:=(Q9q c z q hq).2.2.2 x hx
 exact List.mem_map.2 ⟨e,he,rfl⟩
theorem Q6k {z:List Ev} {K:List ByteArray} (hn:K.Nodup) (h:∀ x∈K,x∈(z.filter wpB).map (·.item)):K.length<=z.length:=by
 have h1:=Qjx hn h;have h2:=List.length_filter_le wpB z;rw[List.length_map] at h1;omega
theorem Qni (c:Cfg) (z:List Ev):(Qac (Qdb c z)).length<=z.length:=Q6k (Qfy _) fun x hx=>by
 unfold Qac at hx
 exact Qq4 c z (X7.1 hx)
theorem Qzs (c:Cfg) (z:List Ev) (a:ByteArray):(Qdf (Qdb c z) a).length<=z.length:=Q6k (Qfy _) fun x hx=>by
 unfold Qdf at hx
 exact Qq4 c z (List.mem_filter.1 (X7.1 hx)).1
theorem Qki {c:Cfg} {z:List Ev} (hm:∀ e∈z,Xp e=true) {x:ByteArray} (h:x∈Qac (Qdb c z)):Qn x=true:=by
 unfold Qac at h;obtain⟨e,he,rfl⟩:=List.mem_map.1 (Qq4 c z (X7.1 h))
 exact(Qgl hm he).2
theorem Qtz {c:Cfg} {z:List Ev} (hm:∀ e∈z,Xp e=true) {a x:ByteArray} (h:x∈Qdf (Qdb c z) a):Qn x=true:=by
 unfold Qdf at h;obtain⟨e,he,rfl⟩:=List.mem_map.1 (Qq4 c z (List.mem_filter.1 (X7.1 h)).1)
 exact(Qgl hm he).2
theorem Xar {S:List Sn} {a x:ByteArray} (h:x∈Qdf S a):a≠x:=by
 unfold Qdf at h;rw[X7,Qmh] at h
 exact h.1
theorem Q8r (width:Int):∀ z:List Ev,∀ r∈(Ql width z).rs,∀ t∈r.2,Qn t=true:=by
 refine Xf (fun r hr=>by simp[Ql,Q0e] at hr) fun z e ih r hr t ht => ?_
 rw[Qqw] at hr;rcases List.mem_append.1 hr with hr | hr
 . exact ih r hr t ht
 . split at hr
   . rw[List.mem_singleton] at hr
     subst hr
     exact((Qu5 _).1 ht).2
   . cases hr
theorem Qrt {z:List Ev} (hm:∀ e∈z,Xp e=true) {x:ByteArray} (h:x∈Qt7 z):Qn x=true:=by
 unfold Qt7 at h;obtain⟨e,he,rfl⟩:=List.mem_map.1 (X7.1 h)
 exact Qw9 hm he
theorem Qxd (z:List Ev):(Qt7 z).length<=z.length:=by
 unfold Qt7;have h1:=Qgi ((Qfi z).map (·.person));have h2:(Qfi z).length<=z.length:=List.length_filter_le peB z;rw[List.length_map] at h1;omega
theorem Qsj {z:List Ev} (hr:Rise z) (hm:∀ e∈z,Xp e=true) (hz:z.length<1000) {width half now:Int} {person:ByteArray} {x:Ct} (h:x∈Q60 half now (rowsOf (Ql width z).rs person)):Qn x.1=true/\0<x.2/\x.2<=1099511627776:=by
 have hrs:=Qf6 width z hr hm;have hrl:=Qz2 width z;have hl2:(rowsOf (Ql width z).rs person).length<=(Ql width z).rs.length:=List.length_filter_le _ _;unfold Q60 at h;obtain⟨h1,h2⟩:=List.mem_filter.1 h;have h2:0<x.2:=by simpa using h2
 have hg:=Q6q half now x.1 (rowsOf (Ql width z).rs person) (fun r hr=>⟨(hrs r (List.mem_filter.1 hr).1).1,(hrs r (List.mem_filter.1 hr).1).2.1⟩) (by omega);have hk:=Qco (Qu9 half now (rowsOf (Ql width z).rs person)) (show (x.1,x.2)∈_ from h1);obtain⟨g1,g2,g3,g4⟩:=hg;rw[hk] at g1 g4;obtain⟨r,hr1,_,hr2⟩:=g4.1 rfl;refine⟨Q8r width z r (List.mem_filter.1 hr1).1 _ hr2,h2,?_⟩;simp only[Option.getD_some] at g1;omega
theorem Qok {z:List Ev} (hr:Rise z) (hm:∀ e∈z,Xp e=true) (hz:z.length<1000) (width half now:Int) (person:ByteArray):(Q60 half now (rowsOf (Ql width z).rs person)).length<=8000:=by
 have hrs:=Qf6 width z hr hm;have hrl:=Qz2 width z;have hl2:(rowsOf (Ql width z).rs person).length<=(Ql width z).rs.length:=List.length_filter_le _ _;have h2:=Qz9 half now (rowsOf (Ql width z).rs person);have h3:=Qx7 (fun r:Row=>r.2.length) 8 (rowsOf (Ql width z).rs person) fun r hr=>(hrs r (List.mem_filter.1 hr).1).2.2
 unfold Q60;refine Nat.le_trans (List.length_filter_le _ _) ?_;omega
theorem Q4c (l:List ByteArray) (h:∀ x∈l,Qn x=true):(jnB l).size<=l.length*25:=by
 have key:∀ l:List ByteArray,(∀ x∈l,Qn x=true)->Lib.lens (l.map (·.data.toList))<=l.length*24:=by
  intro l
  induction l with
  | nil=>intro _;exact Nat.le_refl _
  | cons x l ih =>
    intro h;have h1:=ih fun y hy=>h y (by simp[hy])
    have h2:=Qbl (h x (by simp));have h3:x.data.toList.length=x.size:=rfl;unfold Lib.lens at h1 ⊢;simp only[List.map_cons,List.sum_cons,List.length_cons,Nat.succ_mul] at h1 ⊢;omega
 have h1:=key l h;unfold jnB;rw[show ∀ a:List UInt8,(⟨a.toArray⟩:ByteArray).size=a.length from fun a=>by simp[ByteArray.size]]
 cases l with
 | nil=>exact Nat.zero_le _
 | cons x l =>
   rw[List.map_cons,Lib.join_length];rw[List.map_cons] at h1;simp only[List.length_cons,List.length_map,List.length_nil] at h1 ⊢;omega
theorem Q3p {c:Cfg} (h:Qij c=true):(Q27 c).size<=1000:=by
 obtain⟨h1,h2,h3,_,h5,h6,h7⟩:=Qpi h
 have:=Qcy (K:=21) [Qh7,nB c.half,nB c.width,nB c.gap,nB c.span,nB c.floor,nB c.crowd] (by
  intro x hx;simp only[List.mem_cons,List.not_mem_nil,or_false] at hx;rcases hx with rfl | rfl | rfl | rfl | rfl | rfl | rfl
  . decide
  all_goals exact Qaq (by omega))
 unfold Q27;simp only[List.length_cons,List.length_nil] at this;omega
theorem Q7n {e:Ev} (h:Xp e=true):(evD e).size<=30000000:=by
 have hs:=Qtn (Qko h (by have:=Qb9 h;omega))
 have:=Qcy (K:=10000000) [Qhl,Qfs e] (by
  intro x hx;simp only[List.mem_cons,List.not_mem_nil,or_false] at hx;rcases hx with rfl | rfl
  . decide
  . exact hs)
 unfold evD;simp only[List.length_cons,List.length_nil] at this;omega
theorem Q8x {z:List Ev} (hm:∀ e∈z,Xp e=true) {now:Int} {name:ByteArray} (h:name∈Qcz z now):(thD z now name).size<=10000:=by
 obtain⟨e,he,rfl⟩:=names_in h;have hn:=Qbl (Qk4 hm he);obtain⟨b1,b2,b3,b4,b5⟩:=Qvy hm e.item now
 have:=Qcy (K:=1000) [Qhm,e.item,(X5 (Qu z) e.item now).1.maker,(X5 (Qu z) e.item now).1.tags,nB (X5 (Qu z) e.item now).1.price,nB (X5 (Qu z) e.item now).1.stock,nB (X5 (Qu z) e.item now).1.born] (by
  intro x hx;simp only[List.mem_cons,List.not_mem_nil,or_false] at hx;rcases hx with rfl | rfl | rfl | rfl | rfl | rfl | rfl
  . decide
  . omega
  . omega
  . omega
  all_goals exact Nat.le_trans (Qaq (by omega)) (by omega))
 unfold thD;simp only[List.length_cons,List.length_nil] at this;omega
theorem Q5g {x:Ct} (h:Qn x.1=true/\0<x.2/\x.2<=1099511627776):(Qou x).size<=1000:=by
 have hn:=Qbl h.1
 have:=Qcy (K:=24) [Qde,x.1,nB x.2] (by
  intro y hy;simp only[List.mem_cons,List.not_mem_nil,or_false] at hy;rcases hy with rfl | rfl | rfl
  . decide
  . omega
  . exact Nat.le_trans (Qaq (by omega)) (by omega))
 unfold Qou;simp only[List.length_cons,List.length_nil] at this;omega
theorem Q1u {z:List Ev} (hm:∀ e∈z,Xp e=true) (hz:z.length<1000) (c:Cfg) {key:ByteArray} (h:Qn key=true):(Qdg z c key).size<=1000:=by
 have hn:=Qbl h;unfold Qdg;rw[(Qb6 c.width z).2.1];have hp:=Qrs hm hz c.width key (0/Qv c.width) ((1099511627776+c.width)/Qv c.width);generalize paS (Qgs c.width (z.filter wpB)) key (0/Qv c.width) ((1099511627776+c.width)/Qv c.width)=n at hp ⊢
 have:=Qcy (K:=24) [Qlr,key,nB n] (by
  intro y hy;simp only[List.mem_cons,List.not_mem_nil,or_false] at hy;rcases hy with rfl | rfl | rfl
  . decide
  . omega
  . exact Nat.le_trans (Qaq (by omega)) (by omega))
 simp only[List.length_cons,List.length_nil] at this;omega
theorem Q8u {c:Cfg} {z:List Ev} (hm:∀ e∈z,Xp e=true) (hz:z.length<1000) {q:Sn} (hq:q∈Qdb c z):(snD q).size<=200000:=by
 obtain⟨h1,h2,h3,h4⟩:=Qsa hm hq;have hn:=Qbl h1;have hl:=Q6a c hz q hq;have hj:=Q4c q.items h4
 have:=Qcy (K:=25000) [Qd3,q.person,nB q.from_,nB q.to_,jnB q.items] (by
  intro y hy;simp only[List.mem_cons,List.not_mem_nil,or_false] at hy;rcases hy with rfl | rfl | rfl | rfl | rfl
  . decide
  . omega
  . exact Nat.le_trans (Qaq (by omega)) (by omega)
  . exact Nat.le_trans (Qaq (by omega)) (by omega)
  . omega)
 unfold snD;simp only[List.length_cons,List.length_nil] at this;omega
theorem Q1s {S:List Sn} (hS:S.length<1000) {a b:ByteArray} (ha:Qn a=true) (hb:Qn b=true):(Qlz S a b).size<=1000:=by
 have h1:=Qbl ha;have h2:=Qbl hb;have h3:=Qnu S a b;unfold Qlz
 split
 . have:=Qcy (K:=24) [Qj3,a,b,nB (Qa9 S a b)] (by
    intro y hy;simp only[List.mem_cons,List.not_mem_nil,or_false] at hy;rcases hy with rfl | rfl | rfl | rfl
    . decide
    . omega
    . omega
    . exact Nat.le_trans (Qaq (by omega)) (by omega))
   simp only[List.length_cons,List.length_nil] at this;omega
 . exact Nat.zero_le _
theorem Qyc {person:ByteArray} {x:Ct} (hp:Qn person=true) (h:Qn x.1=true/\0<x.2/\x.2<=1099511627776):(Qf1 person x).size<=1000:=by
 have h1:=Qbl hp;have h2:=Qbl h.1
 have:=Qcy (K:=24) [Qe2,person,x.1,nB x.2] (by
  intro y hy;simp only[List.mem_cons,List.not_mem_nil,or_false] at hy;rcases hy with rfl | rfl | rfl | rfl
  . decide
  . omega
  . omega
  . exact Nat.le_trans (Qaq (by omega)) (by omega))
 unfold Qf1;simp only[List.length_cons,List.length_nil] at this;omega
theorem Qf0 {l:List Ct} {x:Ct}:x∈Qdm l↔x∈l:=(Qk2 l).mem_iff
theorem Qhh (l:List Ct):(Qdm l).length=l.length:=(Qk2 l).length_eq
theorem Qth {c:Cfg} {z:List Ev} (hc:Qij c=true) (hr:Rise z) (hm:∀ e∈z,Xp e=true) (hz:z.length<1000) (now:Int):(Q6x c z now).size<=100000000000:=by
 have s1:=Q3p hc;have s2:=Qbc (K:=30000000) evD z fun e he=>Q7n (hm e he)
 have s3:=Qbc (K:=10000) (thD z now) (Qcz z now) fun x hx=>Q8x hm hx
 have n3:=Qnq z now;have hds:=(Qb6 c.width z).1;have hps:=(Qb6 c.width z).2.1
 have s4:=Qbc (K:=1000) Qou (Qdm (Qcu (Ql c.width z).ds (Qv c.half) now)) fun x hx=>by
  rw[hds] at hx
  exact Q5g (Qsl hm hz (Qf0.1 hx))
 have n4:=Qsm z (Qv c.half) now;rw[Qhh] at s4;rw[<- hds] at n4
 have s5:=Qbc (K:=1000) (Qdg z c) (Qch (Ql c.width z).ps (0/Qv c.width) ((1099511627776+c.width)/Qv c.width)) fun x hx=>by
  rw[hps] at hx
  exact Q1u hm hz c (Qra hm hx)
 have n5:=Qnl z c.width (0/Qv c.width) ((1099511627776+c.width)/Qv c.width);rw[<- hps] at n5;have s6:=Qbc (K:=200000) snD (Qdb c z) fun q hq=>Q8u hm hz hq
 have n6:=(Q88 c z hm hz).len
 have s7:=Qbc (K:=1000000) (Qb2 (Qdb c z)) (Qac (Qdb c z)) fun a ha=>by
  have h1:=Qbc (K:=1000) (Qlz (Qdb c z) a) (Qdf (Qdb c z) a) fun b hb=>Q1s n6 (Qki hm ha) (Qtz hm hb)
  have h2:=Qzs c z a;have h3:(Qdf (Qdb c z) a).length*1000<=1000*1000:=Nat.mul_le_mul_right _ (by omega);unfold Qb2;omega
 have n7:=Qni c z
 have s8:=Qbc (K:=8000000) (Qd8 z c now) (Qt7 z) fun p hp=>by
  have h1:=Qbc (K:=1000) (Qf1 p) (Qdm (Q60 (Qv c.half) now (rowsOf (Ql c.width z).rs p))) fun x hx=>Qyc (Qrt hm hp) (Qsj hr hm hz (Qf0.1 hx))
  have h2:=Qok hr hm hz c.width (Qv c.half) now p;rw[Qhh] at h1;unfold Qd8;omega
 have n8:=Qxd z;have m2:z.length*30000000<=1000*30000000:=Nat.mul_le_mul_right _ (by omega);have m3:(Qcz z now).length*10000<=1000*10000:=Nat.mul_le_mul_right _ (by omega);have m4:(Qcu (Ql c.width z).ds (Qv c.half) now).length*1000<=1000*1000:=Nat.mul_le_mul_right _ (by omega);have m5:(Qch (Ql c.width z).ps (0/Qv c.width) ((1099511627776+c.width)/Qv c.width)).length*1000<=1000*1000:=Nat.mul_le_mul_right _ (by omega);have m6:(Qdb c z).length*200000<=1000*200000:=Nat.mul_le_mul_right _ (by omega);have m7:(Qac (Qdb c z)).length*1000000<=1000*1000000:=Nat.mul_le_mul_right _ (by omega);have m8:(Qt7 z).length*8000000<=1000*8000000:=Nat.mul_le_mul_right _ (by omega);unfold Q6x;simp only[ByteArray.size_append];omega
end Go.Proofs.YteabekcdcphjpaaGreatDoor
namespace Go.Proofs.YteabekcdcphjpaaGreatDoor
open Go.Se Go.RowKit Go.Shelf
theorem BlG.new {w w1:World} {b:Nat} (hn:New w w1 b (.cells #[.pointer none,.slice none 0 0] 74)):BlG w1 w.heap.size b ⟨#[]⟩ none:=by
 have hat:w1.heap[b]? = some (.cells #[.pointer none,.slice none 0 0] 74 (0,0)):=hn.at_;refine⟨.inl ⟨by rw[hn.block];exact Nat.le_refl _,.slice none 0 0,hat,⟨rfl,.inl ⟨rfl,rfl⟩⟩,by simp[Value.ownBlock]⟩,fun p v T fz h => ?_,hn.ext.size⟩;rw[hat] at h
 simp at h
 obtain⟨⟨_,rfl⟩,_⟩:=h
 rfl
theorem BlG.keep {w w':World} {B b:Nat} {s:ByteArray} {g:Option Nat} (h:BlG w B b s g) (hb:w'.heap[b]? = w.heap[b]?) (hg:∀ k,g=some k->w'.heap[k]? = w.heap[k]?) (hsz:w.heap.size<=w'.heap.size):BlG w' B b s g:=by
 have bat:∀ p,Lib.BuilderAt 74 5 B b p (Lib.strCells s) w->Lib.BuilderAt 74 5 B b p (Lib.strCells s) w':=by
  rintro p ⟨hB,v,hbk,hown,hne⟩;have hv:=h.row _ _ _ _ hbk;refine⟨hB,v,by rw[hb];exact hbk,⟨hown.1,?_⟩,hne⟩;rcases hown.2 with h0 | ⟨g1,cap,cur,hv1,hbg,hg1,r⟩
  . exact .inl h0
  . exact .inr ⟨g1,cap,cur,hv1,hbg,by rw[hg g1 (by rw[<- hv,hv1];rfl)];exact hg1,r⟩
 refine⟨h.is.imp (bat _) (bat _),fun p2 v2 T2 fz2 h2 => ?_,Nat.le_trans h.size hsz⟩;rw[hb] at h2
 exact h.row _ _ _ _ h2
section
variable {w w':World} {B b:Nat} {g g':Option Nat} {T:Nat->Prop} {p:Nat} {c:Cfg} {z:List Ev} {s s':ByteArray}
structure Dg (w:World) (B b:Nat) (g:Option Nat) (T:Nat->Prop) (p:Nat) (c:Cfg) (z:List Ev) (s:ByteArray):Prop where
 bl:BlG w B b s g
 wt:WT w T p c z
 safe:∀ k,T k->Safe b g k
 gl:Gl w
 ten:10<=B
theorem Dg.ext (h:Dg w B b g T p c z s) (hx:Ext w w'):Dg w' B b g T p c z s:=⟨h.bl.ext (fun k _ hk=>hx.block k hk) hx.size,h.wt.ext hx,h.safe,h.gl.ext hx,h.ten⟩
theorem Dg.wrt (h:Dg w B b g T p c z s) (hw:Wrt b g w g' w') (hb:BlG w' B b s' g'):Dg w' B b g' T p c z s':=by
 have hl:=h.bl.lt;have ht:=h.ten
 exact⟨hb,h.wt.keep fun k hk=>hw.block (h.safe k hk) (h.wt.lt k hk),fun k hk=>hw.safe (h.safe k hk) (h.wt.lt k hk),h.gl.mod hw.mod (fun k hk=>hk.elim (fun e=>by omega) fun e=>by have:=(hl.2.2 k e).1;omega),ht⟩
theorem BlG.safe_new (h:BlG w B b s g) {k:Nat} (hk:w.heap.size<=k):Safe b g k:=⟨fun e=>by have:=h.lt.2.1;omega,fun e=>by have:=(h.lt.2.2 k e).2;omega⟩
theorem BlG.safe_old (h:BlG w B b s g) {k:Nat} (hk:k<B):Safe b g k:=⟨fun e=>by have:=h.lt.1;omega,fun e=>by have:=(h.lt.2.2 k e).1;omega⟩
end
structure SlS {α:Type} (enc:α->List Value) (sz:Nat) (w:World) (b:Nat) (g:Option Nat) (A:Option Addr) (l:List α):Prop where
 sl:Sl enc sz w A l
 safe:l ≠ []->∀ a,A=some a->Safe b g a.block/\a.block<w.heap.size
section
variable {α:Type} {enc:α->List Value} {sz:Nat} {w w' w0:World} {B b:Nat} {g g':Option Nat} {A:Option Addr} {l:List α} {s:ByteArray}
theorem SlS.wrt (h:SlS enc sz w b g A l) (hw:Wrt b g w g' w'):SlS enc sz w' b g' A l:=by
 by_cases hl:l = []
 . subst hl
   exact⟨fun i x hi=>by simp at hi,fun h=>absurd rfl h⟩
 . exact⟨hw.sl h.sl fun a ha=>(h.safe hl a ha).1,fun _ a ha=>⟨hw.safe (h.safe hl a ha).1 (h.safe hl a ha).2,Nat.lt_of_lt_of_le (h.safe hl a ha).2 hw.size⟩⟩
theorem SlS.ext (h:SlS enc sz w b g A l) (hx:Ext w w'):SlS enc sz w' b g A l:=h.wrt (Wrt.ext hx)
theorem Qul (hs:Sl enc sz w A l) (hpos:∀ x,0<(enc x).length) (hl:l ≠ []) {a:Addr} (ha:A=some a):a.block<w.heap.size:=by
 cases l with
 | nil=>exact absurd rfl hl
 | cons x l =>
   obtain⟨a',ha',hc⟩:=hs 0 x rfl;obtain rfl:a=a':=by rw[ha] at ha';simpa using ha'
   have hp:=hpos x;have:=cell_lt (hc 0 ((enc x)[0]) (List.getElem?_eq_getElem hp))
   rwa [add_block,add_block] at this
end
theorem one_pos (x:ByteArray):0<(Qbg x).length:=Nat.zero_lt_one
theorem Q6r (x:Ct):0<(Qc2 x).length:=Nat.zero_lt_succ 1
theorem Qyp (ws:List ByteArray) (k:Nat):(Qb5 (ws.take k)).size<=(Qb5 ws).size:=by
 cases ws with
 | nil=>simp
 | cons w ws =>
   cases k with
   | zero=>exact Nat.zero_le _
   | succ k =>
     have:=Qai (fun x=>spB++Xv x) ws k;show (Xv w++Xk ((ws.take k).map fun x=>spB++Xv x)).size<=(Xv w++Xk (ws.map fun x=>spB++Xv x)).size
     rw[ByteArray.size_append,ByteArray.size_append];omega
set_option maxHeartbeats 2000000 in
theorem Q4m {w:World} {B b:Nat} {g:Option Nat} {s:ByteArray} (h:BlG w B b s g) (ws:List ByteArray) (A:Option Addr) (c:Nat) (hs:SlS Qbg 1 w b g A ws) (hn:ws.length<1000) (hl:(s++Qci ws).size<=140737488355328) :
 Cal Tryz.prog 36 [.slice A ws.length c,.pointer (some ⟨b,0,none⟩)] w fun r w'=>r = .tuple #[]/\∃ g',BlG w' B b (s++Qci ws) g'/\Wrt b g w g' w':=by
 have hnl:=Qw3;have hsp:spB.size=1:=rfl
 have hsz:s.size+((Qb5 ws).size+1)<=140737488355328:=by
  unfold Qci at hl;rw[ByteArray.size_append,ByteArray.size_append,hnl] at hl
  exact hl
 have h0:BlG w B b (s++Qb5 (ws.take 0)) g:=by
  show BlG w B b (s++Qb5 []) g
  unfold Qb5;rw[X8]
  exact h
 refine Fi Tryz.func36 rfl _ rfl rfl (Hh ?_)
 refine Qd Qa (fun(q:Nat×Option Nat) w'=>q.1<=ws.length/\BlG w' B b (s++Qb5 (ws.take q.1)) q.2/\Wrt b g w q.2 w'/\SlS Qbg 1 w' b q.2 A ws)
  (fun | (k,_) => [(1,.pointer (some ⟨b,0,none⟩)),(5,.slice A ws.length c),(6,.int .i64 ws.length),(7,.int .i64 (k:Nat))]) (fun q=>ws.length-q.1) (0,g) ⟨Nat.zero_le _,h0,Wrt.refl,hs⟩ Rr ?_
 clear h0;rintro ⟨k,g1⟩ w1 ⟨hk,hb,hw,hsl⟩;simp only at hk hb hw hsl
 conv=>whnf
 constructor
 . intro hlt
   have hlt:k<ws.length:=by simpa using hlt
   obtain⟨a,rfl,hc⟩:=hsl.sl.get hlt;have htk:=Qyr ws k hlt;have hpk:=Qyp ws (k+1);generalize ws[k]=x at hc htk;generalize Qb5 (ws.take k)=u at htk hb;have hsx:=congrArg ByteArray.size htk;rw[ByteArray.size_append] at hsx
   conv=>whnf
   refine Qb Qa (Hh ?_);refine⟨a,Ix,Hh ?_⟩;refine⟨.string x,Qp hc,Hh ?_⟩
   refine Xj Qa (ι:=Option Nat) (fun _ => [(1,.pointer (some ⟨b,0,none⟩)),(4,.string x),(5,.slice (some a) ws.length c),(6,.int .i64 ws.length),(7,.int .i64 (k:Nat))])
    (fun g2 w'=>BlG w' B b (s++(if 0<k then u++spB else u)) g2/\Wrt b g w g2 w'/\SlS Qbg 1 w' b g2 (some a) ws) ?_ ?_
   . (conv=>whnf)
     constructor
     . intro hk0
       have hk0:0<k:=by simpa using hk0
       rw[if_pos hk0,ByteArray.size_append] at hsx;rw[if_pos hk0]
       conv=>whnf
       refine(Q6u 32 spB rfl hb (by rw[ByteArray.size_append];omega)).mono ?_;rintro _ w2 ⟨rfl,g2,hb2,hw2⟩;conv=>whnf
       rw[ByteArray.append_assoc] at hb2
       exact⟨g2,⟨hb2,hw.trans hw2,hsl.wrt hw2⟩,Rr⟩
     . intro hk0
       have hk0:¬ 0<k:=by simpa using hk0
       rw[if_neg hk0]
       conv=>whnf
       exact⟨g1,⟨hb,hw,hsl⟩,Rr⟩
   clear hb hw hsl hc;rintro g2 w2 ⟨hb,hw,hsl⟩;generalize (if 0<k then u++spB else u)=y at htk hsx hb
   conv=>whnf
   refine Xj Qa (ι:=Unit) (fun _ => [(1,.pointer (some ⟨b,0,none⟩)),(4,.string (Xv x)),(5,.slice (some a) ws.length c),(6,.int .i64 ws.length),(7,.int .i64 (k:Nat))]) (fun _ w'=>w'=w2) ?_ ?_
   . (conv=>whnf)
     constructor
     . intro he
       have he:x=⟨#[]⟩:=by simpa using he
       rw[show Xv x=⟨#[46]⟩ by rw[he];rfl]
       conv=>whnf
       exact⟨(),rfl,Rr⟩
     . intro he
       have he:¬ x=⟨#[]⟩:=by simpa using he
       rw[show Xv x=x by unfold Xv;rw[decide_eq_false he];rfl]
       conv=>whnf
       exact⟨(),rfl,Rr⟩
   rintro _ w3 rfl
   conv=>whnf
   refine(Xbt (Xv x) hb (by rw[ByteArray.size_append];omega)).mono ?_;rintro _ w4 ⟨rfl,g4,hb4,hw4⟩;rw[ByteArray.append_assoc,<- htk] at hb4;refine Gg ?_;refine⟨_,wrap_succ (by omega),Hh ?_⟩
   exact⟨(k+1,g4),by simp only;omega,⟨by simp only;omega,hb4,hw.trans hw4,hsl.wrt hw4⟩,Rr⟩
 . intro hge
   have hge:ws.length<=k:=by simpa using hge
   rw[List.take_of_length_le hge] at hb
   conv=>whnf
   refine(Q6u 10 nlB rfl hb (by rw[ByteArray.size_append];omega)).mono ?_;rintro _ w2 ⟨rfl,g2,hb2,hw2⟩;conv=>whnf
   rw[ByteArray.append_assoc] at hb2
   exact⟨rfl,g2,hb2,hw.trans hw2⟩
section
variable {w w1 w':World} {B b:Nat} {g g':Option Nat} {T:Nat->Prop} {p:Nat} {c:Cfg} {z:List Ev} {s:ByteArray}
theorem Dg.line (h:Dg w B b g T p c z s) (ws:List ByteArray) {k:Nat} {L:List Value} (hL:L=ws.map Value.string) (hn:New w w1 k (.cells L.toArray 9)) (hl1:ws.length<1000) (hl:(s++Qci ws).size<=140737488355328) (n:Nat) (hws:n=ws.length) :
 Cal Tryz.prog 36 [.slice (some ⟨k,0,none⟩) n n,.pointer (some ⟨b,0,none⟩)] w1 fun r w'=>r = .tuple #[]/\∃ g',Dg w' B b g' T p c z (s++Qci ws)/\Wrt b g w g' w':=by
 subst hL hws;have hx:=hn.ext;have hs:SlT w1 (some ⟨k,0,none⟩) ws:=Qbf (enc:=Qbg) Qad (l:=ws) (by rw[show Qbg=fun x => [Value.string x] from rfl,Qhz];exact hn);have h1:=h.ext hx
 have hss:SlS Qbg 1 w1 b g (some ⟨k,0,none⟩) ws:=⟨hs,fun _ a ha=>by
  have ha:(⟨k,0,none⟩:Addr)=a:=by simpa using ha
  subst ha;have e:=hn.block;have z1:=hn.size
  exact⟨h.bl.safe_new (by simp only;omega),by simp only;omega⟩⟩
 refine(Q4m h1.bl ws _ _ hss hl1 hl).mono ?_;rintro r w' ⟨hr,g',hb',hw'⟩
 exact⟨hr,g',h1.wrt hw' hb',(Wrt.ext hx).trans hw'⟩
end
theorem Q4n {cs:List Ev} {t:Int} {x:ByteArray} (h:Qff cs t x=true):x∈cs.map (·.item):=by
 cases hr:Xh cs x with
 | nil =>
   unfold Qff X5 at h;rw[hr] at h
   simp at h
 | cons s l =>
   obtain⟨e,he,hi,_⟩:=(Qph x s.at_ cs).1 (by rw[hr];simp)
   exact List.mem_map.2 ⟨e,he,hi⟩
theorem Q74 {z:List Ev} {now:Int} {K:List ByteArray} (hn:K.Nodup) (hm:∀ x,x∈K↔Qff (Qu z) now x=true):Qah K=Qcz z now :=
 Qhd hn fun x=>by
  rw[hm,List.mem_filter]
  exact⟨fun h=>⟨Q4n h,h⟩,fun h=>h.2⟩
theorem Dg.wql {w:World} {B b:Nat} {g:Option Nat} {T:Nat->Prop} {p:Nat} {c:Cfg} {z:List Ev} {s:ByteArray} (h:Dg w B b g T p c z s):∃ v T0 col q A n cap any last,WQL w T0 p c z v col q A n cap any last/\(∀ x∈z,Xp x=true)/\Rise z:=by
 obtain⟨v,T0,hQ,_,_,_⟩:=h.wt;obtain⟨col,q,A,n,cap,any,last,hL⟩:=hQ.at_
 exact⟨v,T0,col,q,A,n,cap,any,last,hL,hQ.may,hQ.rise⟩
set_option maxHeartbeats 4000000 in
theorem Qvi {w:World} {B b:Nat} {g:Option Nat} {T:Nat->Prop} {p:Nat} {c:Cfg} {z:List Ev} {s:ByteArray} (h:Dg w B b g T p c z s) (hz:z.length<1000) (now:Int) (hl:s.size+(Xk ((Qcz z now).map (thD z now))).size<=140737488355328) :
 Cal Tryz.prog 41 [.pointer (some ⟨p,0,none⟩),.int .i64 now,.func (.func 36) #[] #[.pointer (some ⟨b,0,none⟩)]] w fun r w'=>r = .tuple #[]/\∃ g',Dg w' B b g' T p c z (s++Xk ((Qcz z now).map (thD z now)))/\Wrt b g w g' w':=by
 obtain⟨v,T0,col,q,A,n,cap,any,last,hL,hm,_⟩:=h.wql;have hc:=hL.cts.cat;rw[(Qeu c.width z).1] at hc;have htl:(Qu z).length<=z.length:=List.length_filter_le thB z
 have hrows:∀ name,(Xh (Qu z) name).length<1000000000000:=fun name=>by
  have:=(Qdp (Qu z) (Qd2 hm) name).1;omega
 refine Fi Tryz.func41 rfl _ rfl rfl (Hh ?_);refine⟨_,hL.head.one rfl,Gg ?_⟩;refine(Qw0 w _ q.pc _ hc now hrows (by omega)).mono ?_;rintro _ w1 ⟨A1,c1,K,rfl,hs1,hK,hKm,hKl,hA1,hx1⟩;have hD1:=h.ext hx1;have hsl1:SlS Qbg 1 w1 b g A1 (Qah K):=⟨hs1,fun hne a ha=>⟨h.bl.safe_new (hA1 a ha),Qul hs1 one_pos hne ha⟩⟩;rw[Q74 hK hKm] at hsl1 ⊢;have hnl:=Qnq z now
 have hnn:∀ x∈Qcz z now,Qn x=true:=fun x hx=>by
  obtain⟨e,he,rfl⟩:=names_in hx
  exact Qk4 hm he
 have hw1:Wrt b g w g w1:=Wrt.ext hx1;clear hs1 hK hKm hKl hA1 hc hL;generalize hNs:Qcz z now=names at hsl1 hl hnl ⊢
 have h0:Dg w1 B b g T p c z (s++Xk ((names.take 0).map (thD z now))):=by
  show Dg w1 B b g T p c z (s++Xk [])
  rw[Qcr,X8]
  exact hD1
 refine Gg ?_
 refine Qd Qa (fun(x:Nat×Option Nat) w'=>x.1<=names.length/\Dg w' B b x.2 T p c z (s++Xk ((names.take x.1).map (thD z now)))/\Wrt b g w x.2 w'/\SlS Qbg 1 w' b x.2 A1 names)
  (fun | (k,_) => [(0,.pointer (some ⟨p,0,none⟩)),(1,.int .i64 now),(2,.func (.func 36) #[] #[.pointer (some ⟨b,0,none⟩)]),(15,.slice A1 names.length c1),(16,.int .i64 names.length),(17,.int .i64 (k:Nat))]) (fun x=>names.length-x.1) (0,g) ⟨Nat.zero_le _,h0,hw1,hsl1⟩ Rr ?_
 clear h0 hw1 hsl1 hD1 hx1;rintro ⟨k,g1⟩ w2 ⟨hk,hD,hw,hsl⟩;simp only at hk hD hw hsl
 conv=>whnf
 constructor
 . intro hlt
   have hlt:k<names.length:=by simpa using hlt
   obtain⟨a,rfl,hca⟩:=hsl.sl.get hlt;have htk:=Xi (thD z now) names k hlt;have hpk:=Qai (thD z now) names (k+1);rw[htk,ByteArray.size_append] at hpk;have hib:=Qvy hm names[k] now;have hth:thD z now names[k]=Qci [Qhm,names[k],(X5 (Qu z) names[k] now).1.maker,(X5 (Qu z) names[k] now).1.tags,nB (X5 (Qu z) names[k] now).1.price,nB (X5 (Qu z) names[k] now).1.stock,nB (X5 (Qu z) names[k] now).1.born]:=rfl;rw[hth] at htk hpk;generalize names[k]=x at hca htk hpk hib;generalize Xk ((names.take k).map (thD z now))=u at htk hpk hD;refine Gg ?_;refine⟨a,Ix,Gg ?_⟩;refine⟨.string x,Qp hca,Gg ?_⟩;obtain⟨v2,T2,col2,q2,A2,n2,cap2,any2,last2,hL2,_,_⟩:=hD.wql;have hc2:=hL2.cts.cat;rw[(Qeu c.width z).1] at hc2;refine⟨_,hL2.head.one rfl,Gg ?_⟩;refine(Qhs w2 _ q2.pc _ hc2 x now (hrows x)).mono ?_;rintro _ w3 ⟨rfl,hx3⟩;clear hL2 hc2;generalize (X5 (Qu z) x now).2=ok;generalize (X5 (Qu z) x now).1=it at htk hpk hib;obtain⟨b1,b2,b3,b4,b5⟩:=hib;refine Gg ?_;intro b8 w4 hn4;refine Gg ?_;refine Qg Qa (e:=ty165) rfl hn4.At rfl rfl rfl (by simp[Qr,itC,Value.oneCell']) fun w5 h5 ho5 => ?_
   have h5:At w5 b8 165 (itC it):=h5;have hx25:Ext w2 w5:=ho5.ext (hx3.trans hn4.ext) (by rw[hn4.block];exact hx3.size);clear ho5 hn4 hx3;refine Gg ?_;refine Dr .ext [0,1,2,3,4,5,6,7,9,10,12,13,8,11,14,15] [16] (Hh ?_);have hxd:Ext w5 w5.drew:=(Ext.refl w5).drew;replace hx25:=hx25.trans hxd;replace h5:=h5.ext hxd;clear hxd;generalize w5.drew=w6 at hx25 h5 ⊢;refine⟨.string it.maker,h5.one rfl,Hh ?_⟩;refine⟨.string it.tags,h5.one rfl,Hh ?_⟩;refine⟨.int .i64 it.price,h5.one rfl,Hh ?_⟩;refine⟨.int .i64 it.stock,h5.one rfl,Hh ?_⟩;refine⟨.int .i64 it.born,h5.one rfl,Hh ?_⟩;have hD6:=hD.ext hx25;refine(Qay it.price w6 hD6.gl b3.1 (by omega)).mono ?_;rintro _ w7 ⟨rfl,hx7⟩;refine⟨hx7,Hh ?_⟩;refine(Qay it.stock w7 (hD6.gl.ext hx7) b4.1 (by omega)).mono ?_;rintro _ w8 ⟨rfl,hx8⟩;refine⟨hx8,Hh ?_⟩;refine(Qay it.born w8 ((hD6.gl.ext hx7).ext hx8) b5.1 (by omega)).mono ?_;rintro _ w9 ⟨rfl,hx9⟩;refine⟨hx9,Hh ?_⟩;have hx29:=((hx25.trans hx7).trans hx8).trans hx9;have hD9:=hD.ext hx29;intro b10 w10 hn10;refine⟨hn10.ext,Hh ?_⟩;refine(hD9.line [Qhm,x,it.maker,it.tags,nB it.price,nB it.stock,nB it.born] rfl hn10 (by simp) (by rw[ByteArray.size_append,ByteArray.size_append];omega) 7 rfl).mono ?_;rintro _ w11 ⟨rfl,g11,hD11,hw11⟩;rw[ByteArray.append_assoc,<- htk] at hD11;refine Gg ?_;refine⟨_,wrap_succ (by omega),Gg ?_⟩;have hw2:Wrt b g1 w2 g11 w11:=(Wrt.ext hx29).trans hw11
   exact⟨(k+1,g11),by simp only;omega,⟨by simp only;omega,hD11,hw.trans hw2,hsl.wrt hw2⟩,Rr⟩
 . intro hge
   have hge:names.length<=k:=by simpa using hge
   rw[List.take_of_length_le hge] at hD;refine Gg ?_
   exact⟨rfl,g1,hD,hw⟩
end Go.Proofs.YteabekcdcphjpaaGreatDoor
namespace Go.Proofs.YteabekcdcphjpaaGreatDoor
open Go.Se Go.RowKit
open Go.Maps Go.Sort Go.Shelf
theorem Qkm (mb:Option Nat) (w:World):Cal Tryz.prog 95 [.map mb] w fun r w'=>r = .func (.func 168) #[] #[.pointer (some ⟨w.heap.size,0,none⟩)]/\w'.cell? ⟨w.heap.size,0,none⟩=some (.map mb)/\Ext w w' :=
 Qg1 Tryz.keys95 ⟨_,Tryz.func95,rfl,rfl⟩ mb w
theorem Qlq {w:World} {Bm b:Nat} {L:List (ByteArray×Value)} (hc:w.cell? ⟨Bm,0,none⟩=some (.map (some b))) (hm:MapAt w b Value.string L) (hk:∀ x∈L,x.1.size<=1000000) (hl:L.length<=1000000000) :
 Cal Tryz.prog 94 [.func (.func 168) #[] #[.pointer (some ⟨Bm,0,none⟩)]] w fun r w'=>∃ A c,r = .slice A (Qah (L.map (·.1))).length c/\Own Qbg 1 9 w.heap.size w' A c (Qah (L.map (·.1)))/\Ext w w':=by
 obtain⟨N,Q,h1,h2,h3⟩:=Qjd { Tryz.keys95 with } hc hm hk hl
 exact Qd1 Tryz.sorted94 Quw (enters_of Tryz.func92 (by kernel_rfl) rfl) (enters_of Tryz.func168 (by kernel_rfl) rfl) ⟨_,Tryz.func94,rfl,rfl⟩ h2 h1 h3
theorem Qxz {w:World} {Bm:Nat} (hc:w.cell? ⟨Bm,0,none⟩=some (.map none)) :
 Cal Tryz.prog 94 [.func (.func 168) #[] #[.pointer (some ⟨Bm,0,none⟩)]] w fun r w'=>∃ A c,r = .slice A 0 c/\Own Qbg 1 9 w.heap.size w' A c []/\Ext w w':=by
 have:=Qd1 Tryz.sorted94 Quw (enters_of Tryz.func92 (by kernel_rfl) rfl) (enters_of Tryz.func168 (by kernel_rfl) rfl) ⟨_,Tryz.func94,rfl,rfl⟩ (l := []) (fun ss (h:ss = [])=>by rw[h];exact List.Perm.refl _) (Nat.zero_le _) (AnyZ.keys_gives_nil { Tryz.keys95 with } Fence.wide 2 trivial rfl Bm w (cell_lt hc) hc);simp only[Qjt,Qn7,List.length_nil] at this
 exact this
theorem Q06 (mb:Option Nat) (w:World):Cal Tryz.prog 107 [.map mb] w fun r w'=>r = .func (.func 179) #[] #[.pointer (some ⟨w.heap.size,0,none⟩)]/\w'.cell? ⟨w.heap.size,0,none⟩=some (.map mb)/\Ext w w' :=
 Qg1 Tryz.keys107 ⟨_,Tryz.func107,rfl,rfl⟩ mb w
theorem Qus {w:World} {Bm b:Nat} {L:List (ByteArray×Value)} (hc:w.cell? ⟨Bm,0,none⟩=some (.map (some b))) (hm:MapAt w b Value.string L) (hk:∀ x∈L,x.1.size<=1000000) (hl:L.length<=1000000000) :
 Cal Tryz.prog 94 [.func (.func 179) #[] #[.pointer (some ⟨Bm,0,none⟩)]] w fun r w'=>∃ A c,r = .slice A (Qah (L.map (·.1))).length c/\Own Qbg 1 9 w.heap.size w' A c (Qah (L.map (·.1)))/\Ext w w':=by
 obtain⟨N,Q,h1,h2,h3⟩:=Qjd { Tryz.keys107 with } hc hm hk hl
 exact Qd1 Tryz.sorted94 Quw (enters_of Tryz.func92 (by kernel_rfl) rfl) (enters_of Tryz.func179 (by kernel_rfl) rfl) ⟨_,Tryz.func94,rfl,rfl⟩ h2 h1 h3
theorem Qw8 (w:World) (S:Nat->Prop) (p:Nat) (Ss:List Sn) (h:Qep w S p Ss) (hn:∀ x∈Qac Ss,x.size<=1000000) (hl:(Qac Ss).length<=1000000) :
 Cal Tryz.prog 30 [.pointer (some ⟨p,0,none⟩)] w fun r w'=>∃ A c,r = .slice A (Qac Ss).length c/\SlT w' A (Qac Ss)/\(∀ a,A=some a->w.heap.size<=a.block)/\Ext w w':=by
 obtain⟨t,sh,hp,⟨sg,ct,b1,b2,hL,hI⟩,_⟩:=h;have hm:=hL.sg
 have hkn:sg.Pairwise (fun x y=>x.1≠y.1):=by
  have:=hm.keys;unfold Qas at this;rw[List.pairwise_map] at this
  exact this
 have hit:=hI.items hkn;have hk1:(Qas vi sg).map (·.1)=sg.map (·.1):=by unfold Qas;rw[List.map_map];rfl
 have hsl:sg.length<=1000000:=by
  have:=congrArg List.length hit;rw[Qdc,List.length_map] at this;omega
 have hk:∀ x∈Qas vi sg,x.1.size<=1000000:=fun x hx=>by
  have h1:x.1∈(Qas vi sg).map (·.1):=List.mem_map.2 ⟨x,hx,rfl⟩;rw[hk1,<- Qhi,hit] at h1
  exact hn _ h1
 refine Fi Tryz.func30 rfl _ rfl rfl (Hh ?_);refine⟨_,hp.one rfl,Gg ?_⟩;refine⟨_,hL.head.one rfl,Gg ?_⟩;refine(Qkm (some b1) w).mono ?_;rintro _ w1 ⟨rfl,hc1,hx1⟩;refine Gg ?_;refine(Qlq hc1 (hm.ext hx1) hk (by unfold Qas;rw[List.length_map];omega)).mono ?_;rintro _ w2 ⟨A2,c2,rfl,ho2,hx2⟩;rw[hk1,hit] at ho2 ⊢;refine Gg ?_
 exact⟨A2,c2,rfl,ho2.sl Qad,fun a ha=>Nat.le_trans hx1.size (ho2.block ha).1,hx1.trans hx2⟩
theorem Q1o (w:World) (S:Nat->Prop) (p:Nat) (Ss:List Sn) (h:Qep w S p Ss) (a:ByteArray) (hn:∀ x∈Qdf Ss a,x.size<=1000000) (hl:(Qdf Ss a).length<=1000000) :
 Cal Tryz.prog 31 [.pointer (some ⟨p,0,none⟩),.string a] w fun r w'=>∃ A c,r = .slice A (Qdf Ss a).length c/\SlT w' A (Qdf Ss a)/\(∀ a,A=some a->w.heap.size<=a.block)/\Ext w w':=by
 obtain⟨t,sh,hp,⟨sg,ct,b1,b2,hL,hI⟩,_⟩:=h;refine Fi Tryz.func31 rfl _ rfl rfl (Hh ?_);refine⟨_,hp.one rfl,Gg ?_⟩;refine⟨_,hL.head.one rfl,Gg ?_⟩;rcases hL.ct.look Qba Qva (Q9 Qae) (e:=ty147) ty147_ok rfl a with⟨hno,hrd⟩ | ⟨bt,m,Sk,hsome,hrd,hIv,_,_⟩
 . have h0:=hI.near0 hno
   rw[h0];refine⟨_,hrd .same Xb,Gg ?_⟩;refine(Qkm none w).mono ?_;rintro _ w1 ⟨rfl,hc1,hx1⟩;refine Gg ?_;refine(Qxz hc1).mono ?_;rintro _ w2 ⟨A2,c2,rfl,ho2,hx2⟩;refine Gg ?_
   exact⟨A2,c2,rfl,ho2.sl Qad,fun a ha=>Nat.le_trans hx1.size (ho2.block ha).1,hx1.trans hx2⟩
 . have hm:=hIv.2
   have hkn:m.Pairwise (fun x y=>x.1≠y.1):=by
    have:=hm.keys;unfold Qas at this;rw[List.pairwise_map] at this
    exact this
   have hit:=hI.near hsome hkn;have hk1:(Qas vi m).map (·.1)=m.map (·.1):=by unfold Qas;rw[List.map_map];rfl
   have hsl:m.length<=1000000:=by
    have:=congrArg List.length hit;rw[Qdc,List.length_map] at this;omega
   have hk:∀ x∈Qas vi m,x.1.size<=1000000:=fun x hx=>by
    have h1:x.1∈(Qas vi m).map (·.1):=List.mem_map.2 ⟨x,hx,rfl⟩;rw[hk1,<- Qhi,hit] at h1
    exact hn _ h1
   refine⟨_,hrd .same Xb,Gg ?_⟩;refine(Qkm (some bt) w).mono ?_;rintro _ w1 ⟨rfl,hc1,hx1⟩;refine Gg ?_;refine(Qlq hc1 (hm.ext hx1) hk (by unfold Qas;rw[List.length_map];omega)).mono ?_;rintro _ w2 ⟨A2,c2,rfl,ho2,hx2⟩;rw[hk1,hit] at ho2 ⊢;refine Gg ?_
   exact⟨A2,c2,rfl,ho2.sl Qad,fun a ha=>Nat.le_trans hx1.size (ho2.block ha).1,hx1.trans hx2⟩
theorem Q0w {w:World} {S:Nat->Prop} {p:Nat} {half:Int} {rs:List Row} {bp:Nat} {b:CwB} {D:List (Ev×SV)} {L:List (ByteArray×(Option Addr×Nat))} {R Tg:Nat->Prop} (h:Qsw w S p half rs bp b D L R Tg):Qah (L.map (·.1))=Qbp ((evs rs).map (·.person)):=by
 refine Qhd (Qau h.rows.keys) fun x => ?_
 have hE:=h.tags.evs;rw[<- hE];constructor
 . intro hx
   obtain⟨y,hy,rfl⟩:=List.mem_map.1 hx;obtain⟨d,hd⟩:=List.exists_mem_of_ne_nil _ (h.rows.ne y hy);obtain⟨h1,h2⟩:=List.mem_filter.1 hd
   exact List.mem_map.2 ⟨d.1,List.mem_map.2 ⟨d,h1,rfl⟩,of_decide_eq_true h2⟩
 . intro hx
   obtain⟨e,he,rfl⟩:=List.mem_map.1 hx;obtain⟨d,hd,rfl⟩:=List.mem_map.1 he;rw[Qjh]
   cases hq:Qe L d.1.person with
   | some v=>rfl
   | none =>
     have h0:=h.rows.all _ hq;have h1:d∈X9 D d.1.person:=List.mem_filter.2 ⟨hd,by simp⟩;rw[h0] at h1
     cases h1
theorem Qvf (w:World) (S:Nat->Prop) (p:Nat) (half:Int) (rs:List Row) (h:Qfd w S p half rs) (hn:∀ x∈Qbp ((evs rs).map (·.person)),x.size<=1000000) (hl:(Qbp ((evs rs).map (·.person))).length<=1000000) :
 Cal Tryz.prog 46 [.pointer (some ⟨p,0,none⟩)] w fun r w'=>∃ A c,r = .slice A (Qbp ((evs rs).map (·.person))).length c/\SlT w' A (Qbp ((evs rs).map (·.person)))/\(∀ a,A=some a->w.heap.size<=a.block)/\Ext w w':=by
 obtain⟨bp,b,D,L,R,Tg,h⟩:=h;have hit:=Q0w h;have hm:=h.rows.map;have hk1:=Qz8 (X9 D) L
 have hsl:L.length<=1000000:=by
  have:=congrArg List.length hit;rw[Qdc,List.length_map] at this;omega
 have hk:∀ x∈toV (X9 D) L,x.1.size<=1000000:=fun x hx=>by
  have h1:x.1∈(toV (X9 D) L).map (·.1):=List.mem_map.2 ⟨x,hx,rfl⟩;rw[hk1,<- Qhi,hit] at h1
  exact hn _ h1
 refine Fi Tryz.func46 rfl _ rfl rfl (Hh ?_);refine⟨_,h.head.one rfl,Gg ?_⟩;refine(Q06 (some bp) w).mono ?_;rintro _ w1 ⟨rfl,hc1,hx1⟩;refine Gg ?_;refine(Qus hc1 (hm.ext hx1) hk (by unfold toV;rw[List.length_map];omega)).mono ?_;rintro _ w2 ⟨A2,c2,rfl,ho2,hx2⟩;rw[hk1,hit] at ho2 ⊢;refine Gg ?_
 exact⟨A2,c2,rfl,ho2.sl Qad,fun a ha=>Nat.le_trans hx1.size (ho2.block ha).1,hx1.trans hx2⟩
end Go.Proofs.YteabekcdcphjpaaGreatDoor
namespace Go.Proofs.YteabekcdcphjpaaGreatDoor
open Go.Se Go.RowKit Go.Shelf
structure PrS (w:World) (b:Nat) (g:Option Nat) (T:Nat->Prop) (o:Nat) (Ss:List Sn):Prop where
 at_:Qep w (fun k=>k=o\/T k) o Ss
 safe:Safe b g o
 lt:o<w.heap.size
section
variable {w w':World} {B b:Nat} {g g':Option Nat} {T:Nat->Prop} {p o:Nat} {c:Cfg} {z:List Ev} {s:ByteArray} {Ss:List Sn}
theorem PrS.wrt (h:PrS w b g T o Ss) (hD:Dg w B b g T p c z s) (hw:Wrt b g w g' w'):PrS w' b g' T o Ss :=
 ⟨h.at_.keep fun k hk hs=>⟨hw.block (hs.elim (fun e=>e ▸ h.safe) (hD.safe k)) hk,hs⟩,hw.safe h.safe h.lt,Nat.lt_of_lt_of_le h.lt hw.size⟩
theorem PrS.ext (h:PrS w b g T o Ss) (hx:Ext w w'):PrS w' b g T o Ss:=⟨h.at_.ext hx,h.safe,Nat.lt_of_lt_of_le h.lt hx.size⟩
end
set_option maxHeartbeats 4000000 in
theorem Qtc {w:World} {B b:Nat} {g:Option Nat} {T:Nat->Prop} {p:Nat} {c:Cfg} {z:List Ev} {s:ByteArray} (h:Dg w B b g T p c z s) (hz:z.length<1000) (hT10:∀ k,T k->10<=k) (hl:s.size+(Xk ((Qac (Qdb c z)).map (Qb2 (Qdb c z)))).size<=140737488355328) :
 Cal Tryz.prog 45 [.pointer (some ⟨p,0,none⟩),.func (.func 36) #[] #[.pointer (some ⟨b,0,none⟩)]] w fun r w'=>r = .tuple #[]/\∃ g' T',Dg w' B b g' T' p c z (s++Xk ((Qac (Qdb c z)).map (Qb2 (Qdb c z))))/\(∀ k,T' k->T k\/w.heap.size<=k)/\Mod (fun k=>T k\/k=b\/g=some k) w w':=by
 obtain⟨v,T0,col,q,A,n,cap,any,last,hL,hm,_⟩:=h.wql;clear hL;have hok:=Q88 c z hm hz;have hil:=Qni c z;have hin:∀ x∈Qac (Qdb c z),Qn x=true:=fun x hx=>Qki hm hx
 have hnl:=Qzs c z;have hnn:∀ a,∀ x∈Qdf (Qdb c z) a,Qn x=true:=fun a x hx=>Qtz hm hx
 have hsl:=hok.len;refine Fi Tryz.func45 rfl _ rfl rfl (Hh ?_);refine(Qys h.wt hok).mono ?_;rintro _ w1 ⟨o,T1,rfl,hW1,hT1,hM1,hog,hoT,hP1⟩;generalize Qdb c z=Ss at hok hil hin hnl hnn hsl hl hP1 ⊢;have hlt:=h.bl.lt;have hb1:w1.heap[b]? = w.heap[b]? := hM1.block b hlt.2.1 fun ht=>(h.safe b ht).1 rfl
 have hg1:∀ k,g=some k->w1.heap[k]? = w.heap[k]? := fun k hk=>hM1.block k (hlt.2.2 k hk).2 fun ht=>(h.safe k ht).2 hk
 have hnew:∀ k,w.heap.size<=k->Safe b g k:=fun k hk=>h.bl.safe_new hk
 have hD1:Dg w1 B b g T1 p c z s:=⟨h.bl.keep hb1 hg1 hM1.size,hW1,fun k hk=>(hT1 k hk).elim (h.safe k) (hnew k),h.gl.mod hM1 hT10,h.ten⟩
 have hol:o<w1.heap.size:=by
  obtain⟨t,sh,ha,_⟩:=hP1
  exact ha.lt
 have hPr1:PrS w1 b g T1 o Ss:=⟨hP1,hnew o hog,hol⟩;clear hb1 hg1 hW1 hP1;refine Gg ?_;refine(Qw8 w1 _ o Ss hPr1.at_ (fun x hx=>by have:=Qbl (hin x hx);omega) (by omega)).mono ?_;rintro _ w2 ⟨A2,c2,rfl,hs2,hA2,hx2⟩;have hsl2:SlS Qbg 1 w2 b g A2 (Qac Ss):=⟨hs2,fun hne a ha=>⟨hD1.bl.safe_new (hA2 a ha),Qul hs2 one_pos hne ha⟩⟩;have hD2:=hD1.ext hx2;have hPr2:=hPr1.ext hx2;have hw2:Wrt b g w1 g w2:=Wrt.ext hx2;clear hs2 hA2 hD1 hPr1;generalize hIs:Qac Ss=items at hsl2 hil hin hl ⊢
 have h0:Dg w2 B b g T1 p c z (s++Xk ((items.take 0).map (Qb2 Ss))):=by
  show Dg w2 B b g T1 p c z (s++Xk [])
  rw[Qcr,X8]
  exact hD2
 refine Gg ?_
 refine Qd Qa (fun(x:Nat×Option Nat) w'=>x.1<=items.length/\Dg w' B b x.2 T1 p c z (s++Xk ((items.take x.1).map (Qb2 Ss)))/\Wrt b g w1 x.2 w'/\SlS Qbg 1 w' b x.2 A2 items/\PrS w' b x.2 T1 o Ss)
  (fun | (k,_) => [(0,.pointer (some ⟨p,0,none⟩)),(1,.func (.func 36) #[] #[.pointer (some ⟨b,0,none⟩)]),(4,.pointer (some ⟨o,0,none⟩)),(12,.slice A2 items.length c2),(13,.int .i64 items.length),(14,.int .i64 (k:Nat))]) (fun x=>items.length-x.1) (0,g) ⟨Nat.zero_le _,h0,hw2,hsl2,hPr2⟩ Rr ?_
 clear h0 hw2 hsl2 hPr2 hD2 hx2;rintro ⟨k,g1⟩ w3 ⟨hk,hD,hw,hsi,hPr⟩;simp only at hk hD hw hsi hPr
 conv=>whnf
 constructor
 . intro hlt
   have hlt:k<items.length:=by simpa using hlt
   obtain⟨a,rfl,hca⟩:=hsi.sl.get hlt;have htk:=Xi (Qb2 Ss) items k hlt;have hpk:=Qai (Qb2 Ss) items (k+1);rw[htk,ByteArray.size_append] at hpk;have hxn:=hin items[k] (List.getElem_mem hlt);generalize items[k]=x at hca htk hpk hxn;generalize Xk ((items.take k).map (Qb2 Ss))=u at htk hpk hD;have hth:Qb2 Ss x=Xk ((Qdf Ss x).map (Qlz Ss x)):=rfl;rw[hth] at htk hpk;refine Gg ?_;refine⟨a,Ix,Gg ?_⟩;refine⟨.string x,Qp hca,Gg ?_⟩;refine(Q1o w3 _ o Ss hPr.at_ x (fun y hy=>by have:=Qbl (hnn x y hy);omega) (by have:=hnl x;omega)).mono ?_;rintro _ w4 ⟨A4,c4,rfl,hs4,hA4,hx4⟩;have hsn4:SlS Qbg 1 w4 b g1 A4 (Qdf Ss x):=⟨hs4,fun hne a ha=>⟨hD.bl.safe_new (hA4 a ha),Qul hs4 one_pos hne ha⟩⟩;have hsi4:=hsi.ext hx4;have hD4:=hD.ext hx4;have hPr4:=hPr.ext hx4;have hw4:=hw.trans (Wrt.ext hx4);clear hs4 hA4 hca hsi hD hPr hw;have hyn:=hnn x;have hyl:=hnl x;have hne:∀ y∈Qdf Ss x,x≠y:=fun y hy=>Xar hy
   generalize Qdf Ss x=near at hsn4 htk hpk hyn hyl hne ⊢
   have h0:Dg w4 B b g1 T1 p c z (s++u++Xk ((near.take 0).map (Qlz Ss x))):=by
    show Dg w4 B b g1 T1 p c z (s++u++Xk [])
    rw[Qcr,X8]
    exact hD4
   refine Gg ?_
   refine Qd Qa (fun(y:Nat×Option Nat) w'=>y.1<=near.length/\Dg w' B b y.2 T1 p c z (s++u++Xk ((near.take y.1).map (Qlz Ss x)))/\Wrt b g w1 y.2 w'/\SlS Qbg 1 w' b y.2 (some a) items/\SlS Qbg 1 w' b y.2 A4 near/\PrS w' b y.2 T1 o Ss)
    (fun | (j,_) => [(0,.pointer (some ⟨p,0,none⟩)),(1,.func (.func 36) #[] #[.pointer (some ⟨b,0,none⟩)]),(4,.pointer (some ⟨o,0,none⟩)),(6,.string x),(12,.slice (some a) items.length c2),(13,.int .i64 items.length),(14,.int .i64 (k:Nat)),(20,.slice A4 near.length c4),(21,.int .i64 near.length),(22,.int .i64 (j:Nat))]) (fun y=>near.length-y.1) (0,g1) ⟨Nat.zero_le _,h0,hw4,hsi4,hsn4,hPr4⟩ Rr ?_
   clear h0 hw4 hsi4 hsn4 hPr4 hD4 hx4;rintro ⟨j,g2⟩ w5 ⟨hj,hD,hw,hsi,hsn,hPr⟩;simp only at hj hD hw hsi hsn hPr
   conv=>whnf
   constructor
   . intro hlt2
     have hlt2:j<near.length:=by simpa using hlt2
     obtain⟨a4,rfl,hcb⟩:=hsn.sl.get hlt2;have htj:=Xi (Qlz Ss x) near j hlt2;have hpj:=Qai (Qlz Ss x) near (j+1);rw[htj,ByteArray.size_append] at hpj;have hxy:=hne near[j] (List.getElem_mem hlt2);generalize near[j]=y at hcb htj hpj hxy;generalize Xk ((near.take j).map (Qlz Ss x))=u2 at htj hpj hD;have hpl:=Qnu Ss x y;refine Gg ?_;refine⟨a4,Ix,Gg ?_⟩;refine⟨.string y,Qp hcb,Gg ?_⟩;constructor
     . intro hq
       have hq:bLt x y=true:=hq;have hth:Qlz Ss x y=Qci [Qj3,x,y,nB (Qa9 Ss x y)]:=if_pos hq;rw[hth] at htj hpj;refine Gg ?_;refine(Qw7 w5 _ o Ss hPr.at_ x y hxy).mono ?_;rintro _ w6 ⟨rfl,hw6⟩;subst hw6;refine Gg ?_;refine(Qay (Qa9 Ss x y:Nat) w6 hD.gl (by omega) (by omega)).mono ?_;rintro _ w7 ⟨rfl,hx7⟩;refine Gg ?_;have hD7:=hD.ext hx7;intro b8 w8 hn8;refine Gg ?_;refine(hD7.line [Qj3,x,y,nB (Qa9 Ss x y)] rfl hn8 (by simp) (by simp only[ByteArray.size_append];omega) 4 rfl).mono ?_;rintro _ w9 ⟨rfl,g9,hD9,hw9⟩;rw[ByteArray.append_assoc (a:=s++u),<- htj] at hD9;have hw59:Wrt b g2 w6 g9 w9:=(Wrt.ext hx7).trans hw9;refine Gg ?_;refine⟨_,wrap_succ (by omega),Gg ?_⟩
       exact⟨(j+1,g9),by simp only;omega,⟨by simp only;omega,hD9,hw.trans hw59,hsi.wrt hw59,hsn.wrt hw59,hPr.wrt hD hw59⟩,Rr⟩
     . intro hq
       have hq:¬ bLt x y=true:=by
        intro h;have hq:bLt x y=false:=hq;rw[hq] at h;cases h
       have hth:Qlz Ss x y=⟨#[]⟩:=if_neg hq;rw[hth,X8] at htj;refine Gg ?_;refine⟨_,wrap_succ (by omega),Gg ?_⟩
       exact⟨(j+1,g2),by simp only;omega,⟨by simp only;omega,by simp only;rw[htj];exact hD,hw,hsi,hsn,hPr⟩,Rr⟩
   . intro hge
     have hge:near.length<=j:=by simpa using hge
     rw[List.take_of_length_le hge,ByteArray.append_assoc,<- htk] at hD;refine Gg ?_;refine⟨_,wrap_succ (by omega),Gg ?_⟩
     exact⟨(k+1,g2),by simp only;omega,⟨by simp only;omega,hD,hw,hsi,hPr⟩,Rr⟩
 . intro hge
   have hge:items.length<=k:=by simpa using hge
   rw[List.take_of_length_le hge] at hD;refine Gg ?_;refine⟨rfl,g1,T1,hD,hT1,?_⟩;have:=hw.mod
   exact⟨this.os.trans hM1.os,this.tape.trans hM1.tape,this.output.trans hM1.output,Nat.le_trans hM1.size this.size,fun i hi hn=>(this.block i (Nat.lt_of_lt_of_le hi hM1.size) fun e=>hn (.inr e)).trans (hM1.block i hi fun e=>hn (.inl e))⟩
end Go.Proofs.YteabekcdcphjpaaGreatDoor
