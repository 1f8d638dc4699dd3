/- Several texts in one: Wo8, Wo9, Wo10, Wo11, Wo12, Wo13, Wo14, Wo15, Wo16, Wo17, Wo18. -/
import Derived.Test.YtohkipkjleldpaaGreatDoorGD
import Derived.Test.YtohkipkjleldpaaGreatDoorGC
import Derived.Test.YtohkipkjleldpaaGreatDoorGB
set_option linter.unusedVariables false
set_option linter.unusedSimpArgs false
namespace Go.Proofs.YtohkipkjleldpaaGreatDoor
open Go.Se Go.RowKit
def Q11 (w:World) (S:Nat→Prop) (b:Nat) (m:List (Int×Int)):Prop:=S b∧MapAt w b vi (Xm vi m)
theorem Qaa:Local Q11 where
 keep h hk:=⟨(hk _ h.2.lt h.1).2,h.2.keep (hk _ h.2.lt h.1).1⟩
 lt h:=⟨h.2.lt,h.1⟩
abbrev Qjv:=List (ByteArray×List (Int×Int))
def Qqg (s:Qjv) (key:ByteArray) (t n:Int):Qjv:=if n=0 then s else Q7 s key (Q7 ((Qe s key).getD []) t ((Qe ((Qe s key).getD []) t).getD 0+n))
def Qdp (s:Qjv) (N:Int):Prop:=∀ k t,0≤(Qe ((Qe s k).getD []) t).getD 0∧(Qe ((Qe s k).getD []) t).getD 0≤N
theorem Q0r {s:Qjv} {N:Int} (h:Qdp s N) (key:ByteArray) (t n:Int) (h0:0≤n):Qdp (Qqg s key t n) (N+n):=by
 intro k t';unfold Qqg;have hk:=h k t';have hkey:=h key t
 by_cases hn:n=0
 · rw[if_pos hn];omega
 · rw[if_neg hn,Xg]
   by_cases e:k=key
   · subst e
     rw[if_pos rfl];simp only[Option.getD_some,Xg]
     by_cases e2:t'=t
     · rw[if_pos e2];simp only[Option.getD_some];omega
     · rw[if_neg e2];omega
   · rw[if_neg e];omega
structure CtL (w:World) (S:Nat→Prop) (p:Nat) (half n:Int) (s:Qjv) (bm:Nat):Prop where
 mine:S p
 head:At w p 210 [vi half,vi n,.map (some bm)]
 sums:MapOf Value.string Q11 w (fun k=>S k∧k≠p) bm s
def Qmy (w:World) (S:Nat→Prop) (p:Nat) (half n:Int) (s:Qjv):Prop:=∃ bm,CtL w S p half n s bm
theorem Qmy.keep {w w1:World} {S S':Nat→Prop} {p:Nat} {half n:Int} {s:Qjv} (h:Qmy w S p half n s) (hk:∀ k,k<w.heap.size→S k→w1.heap[k]? = w.heap[k]? ∧ S' k):Qmy w1 S' p half n s:=by
 obtain⟨bm,h⟩:=h;refine⟨bm,(hk p h.head.lt h.mine).2,(hk p h.head.lt h.mine).1.trans h.head,h.sums.keep Qaa fun k hk1 hk2 => ?_⟩;obtain⟨q1,q2⟩:=hk k hk1 hk2.1
 exact⟨q1,q2,hk2.2⟩
theorem Qut (half:Int) (w:World):Cal Tryz.prog 59 [.int .i64 half] w fun r w'=>∃ p,r = .pointer (some ⟨p,0,none⟩)∧Qmy w' (fun k=>w.heap.size≤k) p (Xr half) 0 []∧Ext w w':=by
 refine Fi Tryz.func59 rfl _ rfl rfl (Hh ?_);intro b1 w1 hn1;conv=>whnf
 intro b2 w2 hn2;conv=>whnf
 have e1:=hn1.block;have e2:=hn2.block;have s1:=hn1.size;refine⟨b2,rfl,⟨b1,by omega,hn2.At,?_⟩,hn1.ext.trans hn2.ext⟩
 exact(MapOf.new (S:=fun k=>w.heap.size≤k∧k≠b2) hn1 ⟨by omega,by omega⟩).keep Qaa fun k hk hs=>⟨hn2.ext.block k hk,hs⟩
theorem Q8y:Tryz.prog.underlying 208=some (.map 9 338):=by kernel_rfl
theorem Q1r:Tryz.prog.underlying 338=some (.map 3 2):=by kernel_rfl
theorem Xcb:Tryz.prog.underlying 3=some (.int .i64):=by kernel_rfl
theorem Quu (w:World) (S:Nat→Prop) (p:Nat) (half n:Int) (s:Qjv) (h:Qmy w S p half n s) (key:ByteArray) (t x N:Int) (hN:Qdp s N) (hNb:N<1000000000000000) (hx0:0≤x∧x<1000000000000000) :
 Cal Tryz.prog 158 [.pointer (some ⟨p,0,none⟩),.string key,.int .i64 t,.int .i64 x] w fun r w'=>r = .tuple #[]∧Qmy w' (Grow S w) p half n (Qqg s key t x)∧Mod S w w':=by
 obtain⟨bm,h⟩:=h;have hplt:=h.head.lt;refine Fi Tryz.func158 rfl _ rfl rfl (Hh ?_);constructor
 · intro hz
   have hz:x=0:=by simpa using hz
   conv=>whnf
   refine⟨rfl,?_,Mod.refl _ _⟩;unfold Qqg;rw[if_pos hz]
   exact Qmy.keep ⟨bm,h⟩ fun k _ hs=>⟨rfl,.inl hs⟩
 intro hz;have hz:¬ x=0:=by simpa using hz
 conv=>whnf
 refine Xh Qa (ι:=Qjv) (fun _ => [(0,.pointer (some ⟨p,0,none⟩)),(1,.string key),(2,.int .i64 t),(3,.int .i64 x)])
  (fun s1 w'=>(∃ m1,Qe s1 key=some m1∧m1=(Qe s key).getD [])∧(∀ v,Q7 s1 key v=Q7 s key v)∧MapOf Value.string Q11 w' (fun k=>Grow S w k∧k≠p) bm s1∧At w' p 210 [vi half,vi n,.map (some bm)]∧Mod S w w') ?_ ?_
 · (conv=>whnf)
   refine⟨.map (some bm),h.head.one rfl,Hh ?_⟩;rcases h.sums.look Qaa Q8y (Qo Xc) (e:=ty338) ty338_ok rfl key with⟨hno,hrd⟩ | ⟨b,v,Sk,hsome,hrd,hIv,hSk,_⟩
   · refine⟨_,hrd .same Qm,Hh ?_⟩
     refine⟨_,Qai Q1r none _ _,Hh ?_⟩;constructor
     · intro _
       conv=>whnf
       refine⟨.map (some bm),h.head.one rfl,Hh ?_⟩;intro b1 w1 hn1;conv=>whnf
       have e1:=hn1.block;refine h.sums.insert Qaa Q8y (Qo Xc) key hno hn1.ext (v := []) ⟨by omega,MapAt.new hn1⟩ fun w2 hm2 ho2 => ?_
       conv=>whnf
       have hbp:bm≠p:=h.sums.lt.2.2;refine⟨Q7 s key [],⟨⟨[],Q8 _ _ _,by rw[hno];rfl⟩,fun v=>Qct key [] v s,?_,?_,?_⟩,Rr⟩
       · refine hm2.keep Qaa fun k _ hk2=>⟨rfl,?_⟩
         rcases hk2 with hk2 | hk2
         · exact⟨.inl hk2.1,hk2.2⟩
         · exact⟨.inr hk2,by omega⟩
       · exact ho2.at_ (h.head.ext hn1.ext) (Ne.symm hbp)
       · exact(Mod.of_ext hn1.ext).trans (Qi ho2 h.sums.lt.2.1)
     · intro q;cases q
   · refine⟨_,hrd .same Qm,Hh ?_⟩
     refine⟨_,Qai Q1r (some b) _ _,Hh ?_⟩;constructor
     · intro q;cases q
     · intro _
       conv=>whnf
       refine⟨s,⟨⟨v,hsome,by rw[hsome];rfl⟩,fun v=>rfl,h.sums.keep Qaa fun k _ hk2=>⟨rfl,.inl hk2.1,hk2.2⟩,h.head,Mod.refl _ _⟩,Rr⟩
 rintro s1 w1 ⟨⟨m1,hm1,hm1e⟩,hset,hs1,hp1,hmod1⟩
 conv=>whnf
 refine⟨.map (some bm),hp1.one rfl,Hh ?_⟩;rcases hs1.look Qaa Q8y (Qo Xc) (e:=ty338) ty338_ok rfl key with⟨hno,hrd⟩ | ⟨b,v,Sk,hsome,hrd,hIv,hSk,hback⟩
 · rw[hm1] at hno;cases hno
 obtain rfl:m1=v:=by rw[hm1] at hsome;simpa using hsome
 refine⟨_,hrd .same Qm,Hh ?_⟩
 refine⟨vi ((Qe m1 t).getD 0),(by
  have:=X7 Q1r (Qjb Xcb) (e:=ty2) ty2_ok (cl := .same) Qm hIv.2 t;rw[show (Qe (Xm vi m1) t).getD ty2.zero=vi ((Qe m1 t).getD 0) from Xq vi _ _ 0] at this
  exact this),Hh ?_⟩
 have hsm:=hN key t;rw[← hm1e] at hsm;refine⟨(Qe m1 t).getD 0+x,wrap_eq rfl ⟨by omega,by omega⟩,Hh ?_⟩;refine Qq Q1r (Qjb Xcb) hIv.2 t (vi ((Qe m1 t).getD 0+x)) fun w2 hm2 ho2 => ?_
 rw[Q9] at hm2
 conv=>whnf
 have hbS:=hSk b hIv.1;have hfin:=hback w2 (Q7 m1 t ((Qe m1 t).getD 0+x)) ⟨.inl hIv.1,hm2⟩ (Qi ho2 hIv.1);rw[hset] at hfin;have hp1lt:=hp1.lt;refine⟨rfl,⟨bm,.inl h.mine,ho2.at_ hp1 (fun q=>hbS.1.2 q.symm),?_⟩,Qp hmod1 (Qi ho2 hbS.1.1)⟩;unfold Qqg;rw[if_neg hz,← hm1e];refine hfin.keep Qaa fun k _ hk2=>⟨rfl,?_⟩
 rcases hk2 with hk2 | hk2
 · exact hk2
 · exact⟨.inr (by have:=hmod1.size;omega),by omega⟩
theorem Qus (w:World) (S:Nat→Prop) (p:Nat) (half n:Int) (s:Qjv) (h:Qmy w S p half n s) (key:ByteArray) (t x N:Int) (hN:Qdp s N) (hNb:N<1000000000000000) (hx0:0≤x∧x≤1048576) (hk:1≤key.size∧key.size≤24) (ht:0≤t∧t≤1099511627776) (hn:0≤n∧n<1048576) :
 Cal Tryz.prog 101 [.pointer (some ⟨p,0,none⟩),.string key,.int .i64 t,.int .i64 x] w fun r w'=>r = .bool true∧Qmy w' (Grow S w) p half (n+1) (Qqg s key t x)∧Mod S w w':=by
 obtain⟨bm,h⟩:=h;refine Fi Tryz.func101 rfl _ rfl rfl (Hh ?_)
 have hc1:(((decide ((key.size:Int)<1)||decide ((24:Int)<key.size))||decide (t<0))||decide (1099511627776<t))=false:=by
  rw[decide_eq_false (by omega),decide_eq_false (by omega),decide_eq_false (by omega),decide_eq_false (by omega)];rfl
 constructor
 · intro q
   have q:=hc1.symm.trans q
   cases q
 intro _
 conv=>whnf
 refine⟨_,fun _=>h.head.one rfl,Hh ?_⟩
 have hc2:((decide (x<0)||decide (1048576<x))||decide (1048576≤n))=false:=by
  rw[decide_eq_false (by omega),decide_eq_false (by omega),decide_eq_false (by omega)];rfl
 constructor
 · intro q
   have q:=hc2.symm.trans q
   cases q
 intro _
 conv=>whnf
 refine⟨_,h.head.one rfl,Hh ?_⟩;refine⟨n+1,wrap_eq rfl ⟨by omega,by omega⟩,Hh ?_⟩;refine Qd Qa (e:=ty3) rfl h.head rfl rfl rfl (by simp[Qg,Value.oneCell']) fun w1 h1 ho1 => ?_
 have hc:Qmy w1 S p half (n+1) s:=⟨bm,h.mine,h1,h.sums.keep Qaa fun k _ hk2=>⟨ho1.block k hk2.2,hk2⟩⟩
 conv=>whnf
 refine(Quu w1 S p half (n+1) s hc key t x N hN hNb ⟨hx0.1,by omega⟩).mono ?_;rintro _ w2 ⟨rfl,hc2,hm2⟩
 conv=>whnf
 refine⟨rfl,hc2.keep fun k _ hk2=>⟨rfl,?_⟩,(Qi ho1 h.mine).trans hm2⟩;rcases hk2 with hk2 | hk2
 · exact .inl hk2
 · exact .inr (by rw[ho1.size] at hk2;exact hk2)
abbrev PK:=ByteArray×Int
def Q95 (k:PK):List Value := [.string k.1,.int .i64 k.2]
def cel (k:PK):Value := .agg (Q95 k).toArray
theorem Qul:Qnc Tryz.prog 287 cel :=
 Qew (encl:=Q95) Qa st287 (fun k=>rfl)
  (fun a b=>by
   show some (decide (a.1=b.1)&&(decide (a.2=b.2)&&true))=some (decide (a=b))
   rw[Bool.and_true]
   congr 1
   by_cases h1:a.1=b.1 <;> by_cases h2:a.2=b.2 <;> simp[Prod.ext_iff,h1,h2])
  (fun k=>by simp[Instr.sameBits,Q95,Go.MapKept.bytes_beq])
abbrev Qae:=List (PK×Int)
def Qoa (s:Qae) (c:PK) (n:Int):Qae:=if n=0 then s else Q7 s c ((Qe s c).getD 0+n)
def Qan (s:Qae) (key:ByteArray):List Int:=(s.filter fun x=>decide (x.1.1=key)).map (·.1.2)
theorem Q5e {c:PK} {v:Int}:∀ {s:Qae},Qe s c=none→Qan (Q7 s c v)=Qkl (Qan s) c.1 (Qan s c.1 ++ [c.2])
 | s,h=>by
   have:∀ s:Qae,Qe s c=none→Q7 s c v=s ++ [(c,v)]:=by
    intro s
    induction s with
    | nil=>intro _;rfl
    | cons x s ih =>
      intro h;simp only[Qe] at h
      by_cases e:c=x.1
      · rw[if_pos e] at h;cases h
      · rw[if_neg e] at h
        simp only[Q7,if_neg e,ih h,List.cons_append]
   rw[this s h]
   funext k
   unfold Qkl Qan;rw[List.filter_append,List.map_append]
   by_cases e:k=c.1
   · subst e;simp
   · have e':¬ c.1=k:=fun q=>e q.symm
     simp[e,e']
theorem Q5f {c:PK} {v v0:Int}:∀ {s:Qae},Qe s c=some v0→Qan (Q7 s c v)=Qan s:=by
 intro s h
 have:∀ s:Qae,Qe s c=some v0→(Q7 s c v).map (·.1)=s.map (·.1):=by
  intro s h;rw[Qcu,if_pos]
  exact List.mem_map.2 ⟨_,Xt h,rfl⟩
 have h1:=this s h
 funext k
 unfold Qan
 have key:∀ l:Qae,(l.filter fun x=>decide (x.1.1=k)).map (·.1.2)=((l.map (·.1)).filter fun x=>decide (x.1=k)).map (·.2):=by
  intro l;rw[List.filter_map,List.map_map];rfl
 rw[key,key,h1]
def Qg2 (s:Qae) (N:Int):Prop:=∀ x∈s,0<x.2∧x.2≤N
theorem Qe9 {s:Qae} {N:Int} (h:Qg2 s N) (hN:0≤N) (c:PK):0≤(Qe s c).getD 0∧(Qe s c).getD 0≤N∧(Qe s c=none↔(Qe s c).getD 0=0):=by
 cases hc:Qe s c with
 | none=>simp;exact hN
 | some v =>
   have:=h _ (Xt hc)
   simp at this ⊢
   omega
theorem Q0q {s:Qae} {N:Int} (h:Qg2 s N) (hN:0≤N) (c:PK) {n:Int} (hn:0≤n):Qg2 (Qoa s c n) (N+n):=by
 unfold Qoa;have hs:=Qe9 h hN c;intro x hx
 by_cases hz:n=0
 · rw[if_pos hz] at hx;have:=h x hx;omega
 · rw[if_neg hz] at hx
   rcases X4 hx with rfl | hx
   · simp only;omega
   · have:=h x hx;omega
structure PaL (w:World) (S:Nat→Prop) (p:Nat) (width n:Int) (s:Qae) (bs br:Nat) (L:List (ByteArray×(Option Addr×Nat))) (R:Nat→Prop):Prop where
 mine:S p∧S bs∧bs≠p
 head:At w p 214 [vi width,vi n,.map (some bs),.map (some br)]
 sums:MapAt w bs cel (Xm vi s)
 rows:Qa0 Qgr 1 3 w R br (Qan s) L
 rset:∀ k,R k→S k∧k≠p∧k≠bs
def Qmw (w:World) (S:Nat→Prop) (p:Nat) (width n:Int) (s:Qae):Prop:=∃ bs br L R,PaL w S p width n s bs br L R
theorem Qmw.keep {w w1:World} {S S':Nat→Prop} {p:Nat} {width n:Int} {s:Qae} (h:Qmw w S p width n s) (hk:∀ k,k<w.heap.size→S k→w1.heap[k]? = w.heap[k]? ∧ S' k):Qmw w1 S' p width n s:=by
 obtain⟨bs,br,L,R,h⟩:=h;refine⟨bs,br,L,fun k=>R k∧k<w.heap.size,⟨(hk p h.head.lt h.mine.1).2,(hk bs h.sums.lt h.mine.2.1).2,h.mine.2.2⟩,(hk p h.head.lt h.mine.1).1.trans h.head,h.sums.keep (hk bs h.sums.lt h.mine.2.1).1,h.rows.keep fun k hk1 hk2=>⟨(hk k hk1 (h.rset k hk2).1).1,hk2,hk1⟩,fun k hk2=>⟨(hk k hk2.2 (h.rset k hk2.1).1).2,(h.rset k hk2.1).2⟩⟩
theorem Q0n (width:Int) (w:World):Cal Tryz.prog 60 [.int .i64 width] w fun r w'=>∃ p,r = .pointer (some ⟨p,0,none⟩)∧Qmw w' (fun k=>w.heap.size≤k) p (Xr width) 0 []∧Ext w w':=by
 refine Fi Tryz.func60 rfl _ rfl rfl (Hh ?_);intro b1 w1 hn1;conv=>whnf
 intro b2 w2 hn2;conv=>whnf
 intro b3 w3 hn3;conv=>whnf
 have e1:=hn1.block;have e2:=hn2.block;have e3:=hn3.block;have s1:=hn1.size;have s2:=hn2.size;refine⟨b3,rfl,⟨b1,b2,[],fun k=>k=b2,⟨by omega,by omega,by omega⟩,hn3.At,(MapAt.new hn1).ext (hn2.ext.trans hn3.ext),?_,?_⟩,(hn1.ext.trans hn2.ext).trans hn3.ext⟩
 · exact(Qa0.new (S:=fun k=>k=b2) hn2 rfl).keep fun k hk hs=>⟨hn3.ext.block k hk,hs⟩
 · rintro k rfl;omega
theorem Xbr:Tryz.prog.underlying 211=some (.map 287 2):=by kernel_rfl
theorem Q8w:Tryz.prog.underlying 212=some (.map 9 133):=by kernel_rfl
theorem Xbn:Tryz.prog.underlying 133=some (.slice 3):=by kernel_rfl
theorem Q4v (w:World) (p:Nat) (width n:Int) (bs br:Nat) (hp:At w p 214 [vi width,vi n,.map (some bs),.map (some br)]) (hw:1≤width∧width≤1099511627776) (t:Int) (ht:0≤t∧t≤1099511627776) :
 Cal Tryz.prog 160 [.pointer (some ⟨p,0,none⟩),.int .i64 t] w fun r w'=>r = .int .i64 (t/width)∧w'=w:=by
 have h1:t.tdiv width=t/width:=Int.tdiv_eq_ediv_of_nonneg ht.1;have h2:0≤t.tmod width:=Int.tmod_nonneg _ ht.1;have h3:0≤t/width:=Int.ediv_nonneg ht.1 (by omega);have h4:t/width≤t:=Int.ediv_le_self _ ht.1;refine Fi Tryz.func160 rfl _ rfl rfl (Hh ?_);refine⟨_,hp.one0,Hh ?_⟩;refine⟨t/width,⟨by omega,wrap_eq h1.symm ⟨by omega,by omega⟩⟩,Hh ?_⟩;refine Qb Qa (Hh ?_);refine⟨_,hp.one0,Hh ?_⟩;refine⟨t.tmod width,⟨by omega,rfl⟩,Hh ?_⟩;constructor
 · intro q
   have q:t.tmod width<0:=by simpa using q
   omega
 · intro _
   conv=>whnf
   exact⟨rfl,rfl⟩
theorem Q0o (w:World) (S:Nat→Prop) (p:Nat) (width n:Int) (s:Qae) (h:Qmw w S p width n s) (c:PK) (x N:Int) (hN:Qg2 s N) (hN0:0≤N) (hNb:N<1000000000000000) (hx0:0≤x∧x<1000000000000000) (hlen:s.length<100000000) :
 Cal Tryz.prog 159 [.pointer (some ⟨p,0,none⟩),cel c,.int .i64 x] w fun r w'=>r = .tuple #[]∧Qmw w' (Grow S w) p width n (Qoa s c x)∧Mod S w w':=by
 obtain⟨bs,br,L,R0,h0⟩:=h
 obtain⟨R,h,hRlt⟩:∃ R,PaL w S p width n s bs br L R∧∀ k,R k→k<w.heap.size :=
  ⟨fun k=>R0 k∧k<w.heap.size,⟨h0.mine,h0.head,h0.sums,h0.rows.keep fun k hk1 hk2=>⟨rfl,hk2,hk1⟩,fun k hk=>h0.rset k hk.1⟩,fun k hk=>hk.2⟩
 clear h0;have hplt:=h.head.lt;have hbslt:=h.sums.lt;have hsm:=Qe9 hN hN0 c;refine Fi Tryz.func159 rfl _ rfl rfl (Hh ?_);intro b1 w1 hn1;have e1:=hn1.block;have hb1:At w1 b1 287 (Q95 c):=hn1.At
 conv=>whnf
 constructor
 · intro hz
   have hz:x=0:=by simpa using hz
   conv=>whnf
   refine⟨rfl,?_,Mod.of_ext hn1.ext⟩;unfold Qoa;rw[if_pos hz]
   exact Qmw.keep ⟨bs,br,L,R,h⟩ fun k hk hs=>⟨hn1.ext.block k hk,.inl hs⟩
 intro hz;have hz:¬ x=0:=by simpa using hz
 conv=>whnf
 refine Dr .same [0,1,2,3,4,5,6] [] (Hh ?_);have hx2:Ext w w1.drew:=hn1.ext.drew;have hb2:At w1.drew b1 _ _:=hb1;generalize w1.drew=w2 at hx2 hb2 ⊢;have hp2:=h.head.ext hx2;have hs2:=h.sums.ext hx2;have hr2:Qa0 Qgr 1 3 w2 R br (Qan s) L:=h.rows.keep fun k hk1 hk2=>⟨hx2.block k hk1,hk2⟩
 refine⟨.map (some bs),hp2.one rfl,Hh ?_⟩;refine⟨Q95 c,⟨rfl,hb2.all⟩,Hh ?_⟩
 refine⟨vi ((Qe s c).getD 0),(by
  have:=X7 Xbr Qul (e:=ty2) ty2_ok (cl := .same) Qm hs2 c;rw[show (Qe (Xm vi s) c).getD ty2.zero=vi ((Qe s c).getD 0) from Xq vi _ _ 0] at this
  exact this),Hh ?_⟩
 refine Xh Qa (ι:=List (ByteArray×(Option Addr×Nat))×(Nat→Prop)) (fun _ => [(0,.pointer (some ⟨p,0,none⟩)),(4,.pointer (some ⟨b1,0,none⟩)),(2,.int .i64 x),(6,.int .i64 ((Qe s c).getD 0))])
  (fun q w'=>At w' p 214 [vi width,vi n,.map (some bs),.map (some br)]∧At w' b1 287 (Q95 c)∧MapAt w' bs cel (Xm vi s)∧Qa0 Qgr 1 3 w' q.2 br (Qan (Q7 s c ((Qe s c).getD 0+x))) q.1∧(∀ k,q.2 k→Grow S w k∧k≠p∧k≠bs∧k≠b1)∧Mod S w w') ?_ ?_
 · (conv=>whnf)
   constructor
   · intro h0
     have h0:Qe s c=none:=hsm.2.2.2 (by simpa using h0);have hrl:=hr2.own c.1;generalize hA0:(rowAt L c.1).1=A0 at hrl;generalize hc0:(rowAt L c.1).2=c0 at hrl
     have hA0w:∀ a,A0=some a→R a.block∧a.block≠br∧a.block<w.heap.size:=fun a ha=>by
      have h1:=h.rows.own c.1;rw[hA0] at h1
      exact⟨(hrl.2 a ha).1,(hrl.2 a ha).2,(h1.1.block ha).2⟩
     have hnb:∀ k,k=p∨k=br∨k=b1∨k=bs→¬ ∃ a,A0=some a∧k=a.block:=by
      rintro k hk' ⟨a,ha,rfl⟩;obtain⟨q1,q2,q3⟩:=hA0w a ha;have:=h.rset _ q1;rcases hk' with q | q | q | q
      · exact this.2.1 q
      · exact q2 q
      · omega
      · exact this.2.2 q
     have hrlen:(Qan s c.1).length≤s.length:=by
      unfold Qan;rw[List.length_map];exact List.length_filter_le _ _
     conv=>whnf
     refine Dr (.mods (fun k=>∃ a,A0=some a∧k=a.block)) [0,1,2,3,4,5,6,7,8,9,10,11,12,13,14,15,16] [17] (Hh ?_);replace hp2:At w2.drew p _ _:=hp2;replace hb2:At w2.drew b1 _ _:=hb2;replace hs2:MapAt w2.drew bs cel (Xm vi s):=hs2.keep rfl;replace hr2:Qa0 Qgr 1 3 w2.drew R br (Qan s) L:=hr2.keep fun k _ hk2=>⟨rfl,hk2⟩
     replace hx2:Ext w w2.drew:=hx2.drew;generalize w2.drew=w3 at hp2 hb2 hs2 hr2 hx2 ⊢;refine⟨.map (some br),⟨hp2.one rfl,by rw[add_block];exact hnb p (.inl rfl)⟩,Hh ?_⟩;refine⟨_,⟨hb2.one rfl,by rw[add_block];exact hnb b1 (.inr (.inr (.inl rfl)))⟩,Hh ?_⟩;refine⟨.map (some br),⟨hp2.one rfl,by rw[add_block];exact hnb p (.inl rfl)⟩,Hh ?_⟩;refine⟨_,⟨hb2.one rfl,by rw[add_block];exact hnb b1 (.inr (.inr (.inl rfl)))⟩,Hh ?_⟩
     refine⟨.slice A0 (Qan s c.1).length c0,(by
      have:=hr2.look Q8w Xc (e:=ty133) ty133_ok rfl c.1 (Qsb (S:=fun k=>∃ a,A0=some a∧k=a.block) hr2.map.lt (hnb br (.inr (.inl rfl))));rw[hA0,hc0] at this
      exact this),Hh ?_⟩
     refine⟨_,⟨hb2.one rfl,by rw[add_block];exact hnb b1 (.inr (.inr (.inl rfl)))⟩,Hh ?_⟩;intro b4 w4 hn4;refine⟨Mod.of_ext hn4.ext,Hh ?_⟩
     have hown4:Own Qgr 1 3 0 w4 A0 c0 (Qan s c.1):=by
      have:=(hr2.own c.1).1;rw[hA0,hc0] at this
      exact this.ext hn4.ext
     refine Qdk (news := [c.2]) ty3_ok Xbn by3 rfl rfl (by decide) Qax Q7s hown4 (Qbd Qax hn4) (by simp;omega) (by simp;omega) (Nat.zero_le _) ?_;intro A2 c2 w5 hown5 hg5 hA5
     have hrow5:∀ k,A0.map (·.block)=some k→∃ a,A0=some a∧k=a.block:=by
      intro k hk'
      cases A0 with
      | none=>simp at hk'
      | some a=>exact⟨a,rfl,by simpa using hk'.symm⟩
     refine⟨Qac hg5 hrow5,?_⟩
     conv=>whnf
     have hbm5:MapAt w5 br Value.string (toV (Qan s) L) :=
      (hr2.map.ext hn4.ext).keep (hg5.block br (hr2.map.ext hn4.ext).lt (fun e'=>hnb br (.inr (.inl rfl)) (hrow5 br e'.symm)))
     refine Qq Q8w (Qo Xc) hbm5 c.1 _ fun w6 hm6 ho6 => ?_
     have hpush:=hr2.push (k:=c.1) (r:=Qan s c.1 ++ [c.2]) (by simp) hn4.ext (by rw[hA0];exact hg5) (by rw[hA0];exact hA5) hown5 hm6 ho6;have hbr:=h.rset br h.rows.mine;have hbrlt:=h.rows.map.lt
     have hstay:∀ k,k<w3.heap.size→k≠br→¬ (∃ a,A0=some a∧k=a.block)→w6.heap[k]? = w3.heap[k]? := by
      intro k hk1 hk2 hk3;rw[ho6.block k hk2,hg5.block k (by have:=hn4.ext.size;omega) (fun q=>hk3 (hrow5 k q.symm)),hn4.ext.block k hk1]
     have hs3:=hx2.size;have hb1lt:=hb2.lt
     conv=>whnf
     refine⟨(Q7 L c.1 (A2,c2),Grow R w3),⟨?_,?_,?_,?_,?_,?_⟩,Rr⟩
     · exact(hstay p hp2.lt (fun q=>hbr.2.1 q.symm) (hnb p (.inl rfl))).trans hp2
     · exact(hstay b1 hb2.lt (by omega) (hnb b1 (.inr (.inr (.inl rfl))))).trans hb2
     · exact hs2.keep (hstay bs hs2.lt (fun q=>hbr.2.2 q.symm) (hnb bs (.inr (.inr (.inr rfl)))))
     · rw[Q5e h0];exact hpush
     · rintro k (hk1 | hk1)
       · have:=h.rset k hk1
         have hq:=hRlt k hk1
         exact⟨.inl this.1,this.2.1,this.2.2,by omega⟩
       · exact⟨.inr (by omega),by omega,by omega,by omega⟩
     · refine Qp (Mod.of_ext hx2) ((Mod.of_ext hn4.ext).trans ((Qac hg5 fun k hk' => ?_).trans (Qi ho6 (.inl hbr.1))))
       obtain⟨a,ha,q⟩:=hrow5 k hk';rw[q];exact .inl (h.rset _ (hA0w a ha).1).1
   · intro h0
     have h0':¬ (Qe s c).getD 0=0:=by simpa using h0
     obtain⟨v0,hv0⟩:∃ v0,Qe s c=some v0:=by
      cases hq:Qe s c with
      | none=>rw[hq] at h0';simp at h0'
      | some v=>exact⟨v,rfl⟩
     conv=>whnf
     refine⟨(L,fun k=>R k∧k<w.heap.size),⟨hp2,hb2,hs2,?_,?_,Mod.of_ext hx2⟩,Rr⟩
     · rw[Q5f hv0]
       exact h.rows.keep fun k hk1 hk2=>⟨hx2.block k hk1,hk2,hk1⟩
     · rintro k ⟨hk1,hk2⟩
       have:=h.rset k hk1
       exact⟨.inl this.1,this.2.1,this.2.2,by omega⟩
 rintro ⟨L3,R3⟩ w3 ⟨hp3,hb3,hs3,hr3,hrs3,hm3⟩;simp only at hr3 hrs3
 conv=>whnf
 refine Dr .same [0,1,2,3,4,5,6,7] [8] (Hh ?_);refine⟨.map (some bs),show w3.drew.cell? _=_ from hp3.one rfl,Hh ?_⟩;refine⟨Q95 c,⟨rfl,show Xo w3.drew _ _ from hb3.all⟩,Hh ?_⟩;refine⟨(Qe s c).getD 0+x,wrap_eq rfl ⟨by omega,by omega⟩,Hh ?_⟩;refine Qq (w:=w3.drew) Xbr Qul (hs3.keep rfl) c (vi ((Qe s c).getD 0+x)) fun w4 hm4 ho4 => ?_
 rw[Q9] at hm4
 conv=>whnf
 refine⟨rfl,⟨bs,br,L3,R3,⟨.inl h.mine.1,.inl h.mine.2.1,h.mine.2.2⟩,ho4.at_ hp3 (Ne.symm h.mine.2.2),?_,?_,fun k hk=>⟨(hrs3 k hk).1,(hrs3 k hk).2.1,(hrs3 k hk).2.2.1⟩⟩,hm3.trans ((Mod.drew _).trans (Qi ho4 h.mine.2.1))⟩
 · unfold Qoa;rw[if_neg hz];exact hm4
 · unfold Qoa;rw[if_neg hz]
   exact hr3.keep fun k _ hk2=>⟨ho4.block k (hrs3 k hk2).2.2.1,hk2⟩
theorem Q0m (w:World) (S:Nat→Prop) (p:Nat) (width n:Int) (s:Qae) (h:Qmw w S p width n s) (hw:1≤width∧width≤1099511627776) (key:ByteArray) (t x N:Int) (hN:Qg2 s N) (hN0:0≤N) (hNb:N<1000000000000000) (hx0:0≤x∧x≤1048576) (hlen:s.length<100000000) (hk:1≤key.size∧key.size≤24) (ht:0≤t∧t≤1099511627776) (hn:0≤n∧n<1048576) :
 Cal Tryz.prog 102 [.pointer (some ⟨p,0,none⟩),.string key,.int .i64 t,.int .i64 x] w fun r w'=>r = .bool true∧Qmw w' (Grow S w) p width (n+1) (Qoa s (key,t/width) x)∧Mod S w w':=by
 obtain⟨bs,br,L,R,h⟩:=h;refine Fi Tryz.func102 rfl _ rfl rfl (Hh ?_)
 have hc1:(((decide ((key.size:Int)<1)||decide ((24:Int)<key.size))||decide (t<0))||decide (1099511627776<t))=false:=by
  rw[decide_eq_false (by omega),decide_eq_false (by omega),decide_eq_false (by omega),decide_eq_false (by omega)];rfl
 constructor
 · intro q
   have q:=hc1.symm.trans q
   cases q
 intro _
 conv=>whnf
 refine⟨_,fun _=>h.head.one rfl,Hh ?_⟩
 have hc2:((decide (x<0)||decide (1048576<x))||decide (1048576≤n))=false:=by
  rw[decide_eq_false (by omega),decide_eq_false (by omega),decide_eq_false (by omega)];rfl
 constructor
 · intro q
   have q:=hc2.symm.trans q
   cases q
 intro _
 conv=>whnf
 refine⟨_,h.head.one rfl,Hh ?_⟩;refine⟨n+1,wrap_eq rfl ⟨by omega,by omega⟩,Hh ?_⟩;refine Qd Qa (e:=ty3) rfl h.head rfl rfl rfl (by simp[Qg,Value.oneCell']) fun w1 h1 ho1 => ?_
 have hc:Qmw w1 S p width (n+1) s:=⟨bs,br,L,R,h.mine,h1,h.sums.only ho1 h.mine.2.2,h.rows.keep fun k _ hk2=>⟨ho1.block k (h.rset k hk2).2.1,hk2⟩,h.rset⟩
 conv=>whnf
 refine(Q4v w1 p width (n+1) bs br h1 hw t ht).mono ?_;rintro _ w2 ⟨rfl,rfl⟩
 conv=>whnf
 refine(Q0o w2 S p width (n+1) s hc (key,t/width) x N hN hN0 hNb ⟨hx0.1,by omega⟩ hlen).mono ?_;rintro _ w3 ⟨rfl,hc3,hm3⟩
 conv=>whnf
 refine⟨rfl,hc3.keep fun k _ hk2=>⟨rfl,?_⟩,(Qi ho1 h.mine.1).trans hm3⟩;rcases hk2 with hk2 | hk2
 · exact .inl hk2
 · exact .inr (by rw[ho1.size] at hk2;exact hk2)
def Qou (w:World) (S:Nat→Prop) (b:Nat) (m:List (ByteArray×Bool)):Prop:=S b∧MapAt w b Value.string (Xm Value.bool m)
theorem Qah:Local Qou where
 keep h hk:=⟨(hk _ h.2.lt h.1).2,h.2.keep (hk _ h.2.lt h.1).1⟩
 lt h:=⟨h.2.lt,h.1⟩
def Qud (w:World) (S:Nat→Prop) (b:Nat) (m:List (Int×List (ByteArray×Bool))):Prop:=MapOf vi Qou w S b m
theorem X9:Local Qud:=Qvn Qah
abbrev Ses:=List (ByteArray×List (Int×List (ByteArray×Bool)))
def Q6o (s:Ses) (person:ByteArray) (t:Int) (item:ByteArray):Ses :=
 Q7 s person (Q7 ((Qe s person).getD []) t (Q7 ((Qe ((Qe s person).getD []) t).getD []) item true))
structure SeL (w:World) (S:Nat→Prop) (p:Nat) (gap:Int) (s:Ses) (bm:Nat):Prop where
 mine:S p
 head:At w p 217 [vi gap,.map (some bm)]
 sums:MapOf Value.string Qud w (fun k=>S k∧k≠p) bm s
def Qw3 (w:World) (S:Nat→Prop) (p:Nat) (gap:Int) (s:Ses):Prop:=∃ bm,SeL w S p gap s bm
theorem Qw3.keep {w w1:World} {S S':Nat→Prop} {p:Nat} {gap:Int} {s:Ses} (h:Qw3 w S p gap s) (hk:∀ k,k<w.heap.size→S k→w1.heap[k]? = w.heap[k]? ∧ S' k):Qw3 w1 S' p gap s:=by
 obtain⟨bm,h⟩:=h;refine⟨bm,(hk p h.head.lt h.mine).2,(hk p h.head.lt h.mine).1.trans h.head,h.sums.keep X9 fun k hk1 hk2 => ?_⟩;obtain⟨q1,q2⟩:=hk k hk1 hk2.1
 exact⟨q1,q2,hk2.2⟩
def Q3c (h:Int):Int:=min (max h 0) 1099511627776
theorem Q02 (gap:Int) (w:World):Cal Tryz.prog 61 [.int .i64 gap] w fun r w'=>∃ p,r = .pointer (some ⟨p,0,none⟩)∧Qw3 w' (fun k=>w.heap.size≤k) p (Q3c gap) []∧Ext w w':=by
 refine Fi Tryz.func61 rfl _ rfl rfl (Hh ?_);intro b1 w1 hn1;conv=>whnf
 intro b2 w2 hn2;conv=>whnf
 have e1:=hn1.block;have e2:=hn2.block;have s1:=hn1.size;refine⟨b2,rfl,⟨b1,by omega,hn2.At,?_⟩,hn1.ext.trans hn2.ext⟩
 exact(MapOf.new (S:=fun k=>w.heap.size≤k∧k≠b2) hn1 ⟨by omega,by omega⟩).keep X9 fun k hk hs=>⟨hn2.ext.block k hk,hs⟩
theorem Q8x:Tryz.prog.underlying 215=some (.map 9 288):=by kernel_rfl
theorem Q1s:Tryz.prog.underlying 288=some (.map 3 87):=by kernel_rfl
theorem Qna:Tryz.prog.underlying 87=some (.map 9 4):=by kernel_rfl
theorem Qmj (t:ByteArray) (w:World):Cal Tryz.prog 161 [.string t] w fun r w'=>r = .bool (decide ((1:Int)≤t.size)&&decide ((t.size:Int)≤24))∧w'=w:=by
 refine Fi Tryz.func161 rfl _ rfl rfl (Hh ?_)
 exact⟨rfl,rfl⟩
set_option maxHeartbeats 1000000 in
theorem Q0z (w:World) (S:Nat→Prop) (p:Nat) (gap:Int) (s:Ses) (h:Qw3 w S p gap s) (person item:ByteArray) (t:Int) (hp:1≤person.size∧person.size≤24) (hi:1≤item.size∧item.size≤24) (ht:0≤t∧t≤1099511627776) :
 Cal Tryz.prog 103 [.pointer (some ⟨p,0,none⟩),.string person,.int .i64 t,.string item] w fun r w'=>r = .bool true∧Qw3 w' (Grow S w) p gap (Q6o s person t item)∧Mod S w w':=by
 obtain⟨bm,h⟩:=h;have hplt:=h.head.lt;refine Fi Tryz.func103 rfl _ rfl rfl (Hh ?_);refine(Qmj person w).mono ?_;rintro _ w0 ⟨rfl,hw0⟩;replace hw0:=hw0.symm;subst hw0
 conv=>whnf
 refine⟨Unit,fun _ => .bool (decide ((1:Int)≤item.size)&&decide ((item.size:Int)≤24)),fun _ w'=>w'=w,(),fun _=>(Qmj item w).mono (fun r w' h=>⟨(),h.1,h.2⟩),fun _ w0 h0 => ?_⟩
 have hw0:w=w0:=by
  rcases h0 with⟨_,h⟩ | ⟨_,h⟩ <;> exact h.symm
 clear h0;subst hw0
 conv=>whnf
 have hc1:((((!(decide ((1:Int)≤person.size)&&decide ((person.size:Int)≤24)))||(!(decide ((1:Int)≤item.size)&&decide ((item.size:Int)≤24))))||decide (t<0))||decide (1099511627776<t))=false:=by
  rw[decide_eq_true (by omega),decide_eq_true (by omega),decide_eq_true (by omega),decide_eq_true (by omega),decide_eq_false (by omega),decide_eq_false (by omega)];rfl
 constructor
 · intro q
   have q:=hc1.symm.trans q
   cases q
 intro _;clear hc1
 conv=>whnf
 refine Xh Qa (ι:=Ses) (fun _ => [(0,.pointer (some ⟨p,0,none⟩)),(1,.string person),(2,.int .i64 t),(3,.string item)])
  (fun s1 w'=>(∃ m1,Qe s1 person=some m1∧m1=(Qe s person).getD [])∧(∀ v,Q7 s1 person v=Q7 s person v)∧MapOf Value.string Qud w' (fun k=>Grow S w k∧k≠p) bm s1∧At w' p 217 [vi gap,.map (some bm)]∧Mod S w w') ?_ ?_
 · (conv=>whnf)
   refine⟨.map (some bm),h.head.one rfl,Hh ?_⟩;rcases h.sums.look X9 Q8x (Qo Xc) (e:=ty288) ty288_ok rfl person with⟨hno,hrd⟩ | ⟨b,v,Sk,hsome,hrd,hIv,hSk,_⟩
   · refine⟨_,hrd .same Qm,Hh ?_⟩
     refine⟨_,Qai Q1s none _ _,Hh ?_⟩;constructor
     · intro _
       conv=>whnf
       refine⟨.map (some bm),h.head.one rfl,Hh ?_⟩;intro b1 w1 hn1;conv=>whnf
       have e1:=hn1.block;refine h.sums.insert X9 Q8x (Qo Xc) person hno hn1.ext (v := []) (MapOf.new hn1 (by omega)) fun w2 hm2 ho2 => ?_
       conv=>whnf
       have hbp:bm≠p:=h.sums.lt.2.2;refine⟨Q7 s person [],⟨⟨[],Q8 _ _ _,by rw[hno];rfl⟩,fun v=>Qct person [] v s,?_,?_,?_⟩,Rr⟩
       · refine hm2.keep X9 fun k _ hk2=>⟨rfl,?_⟩
         rcases hk2 with hk2 | hk2
         · exact⟨.inl hk2.1,hk2.2⟩
         · exact⟨.inr hk2,by omega⟩
       · exact ho2.at_ (h.head.ext hn1.ext) (Ne.symm hbp)
       · exact(Mod.of_ext hn1.ext).trans (Qi ho2 h.sums.lt.2.1)
     · intro q;cases q
   · refine⟨_,hrd .same Qm,Hh ?_⟩
     refine⟨_,Qai Q1s (some b) _ _,Hh ?_⟩;constructor
     · intro q;cases q
     · intro _
       conv=>whnf
       refine⟨s,⟨⟨v,hsome,by rw[hsome];rfl⟩,fun v=>rfl,h.sums.keep X9 fun k _ hk2=>⟨rfl,.inl hk2.1,hk2.2⟩,h.head,Mod.refl _ _⟩,Rr⟩
 rintro s1 w1 ⟨⟨m1,hm1,hm1e⟩,hset,hs1,hp1,hmod1⟩
 conv=>whnf
 refine⟨.map (some bm),hp1.one rfl,Hh ?_⟩;rcases hs1.look X9 Q8x (Qo Xc) (e:=ty288) ty288_ok rfl person with⟨hno,hrd⟩ | ⟨b,v,Sk,hsome,hrd,hIv,hSk,hback⟩
 · rw[hm1] at hno;cases hno
 obtain rfl:m1=v:=by rw[hm1] at hsome;simpa using hsome
 refine⟨_,hrd .same Qm,Hh ?_⟩;have hIv':MapOf vi Qou w1 Sk b m1:=hIv
 refine Xh Qa (ι:=List (Int×List (ByteArray×Bool))) (fun _ => [(2,.int .i64 t),(3,.string item),(10,.map (some b))])
  (fun m2 w'=>(∃ z,Qe m2 t=some z∧z=(Qe m1 t).getD [])∧(∀ v,Q7 m2 t v=Q7 m1 t v)∧MapOf vi Qou w' (Grow Sk w1) b m2∧Mod Sk w1 w') ?_ ?_
 · (conv=>whnf)
   rcases hIv'.look Qah Q1s (Qjb Xcb) (e:=ty87) ty87_ok rfl t with⟨hno,hrd⟩ | ⟨b2,v,Sk2,hsome2,hrd,hIv2,hSk2,_⟩
   · refine⟨_,hrd .same Qm,Hh ?_⟩
     refine⟨_,Qai Qna none _ _,Hh ?_⟩;constructor
     · intro _
       conv=>whnf
       intro b3 w3 hn3;conv=>whnf
       have e3:=hn3.block;refine hIv'.insert Qah Q1s (Qjb Xcb) t hno hn3.ext (v := []) ⟨by omega,MapAt.new hn3⟩ fun w4 hm4 ho4 => ?_
       conv=>whnf
       exact⟨Q7 m1 t [],⟨⟨[],Q8 _ _ _,by rw[hno];rfl⟩,fun v=>Qct t [] v m1,hm4,(Mod.of_ext hn3.ext).trans (Qi ho4 hIv'.lt.2)⟩,Rr⟩
     · intro q;cases q
   · refine⟨_,hrd .same Qm,Hh ?_⟩
     refine⟨_,Qai Qna (some b2) _ _,Hh ?_⟩;constructor
     · intro q;cases q
     · intro _
       conv=>whnf
       exact⟨m1,⟨⟨v,hsome2,by rw[hsome2];rfl⟩,fun v=>rfl,hIv'.keep Qah fun k _ hk2=>⟨rfl,.inl hk2⟩,Mod.refl _ _⟩,Rr⟩
 rintro m2 w2 ⟨⟨z,hz,hze⟩,hset2,hI2,hmod2⟩
 conv=>whnf
 rcases hI2.look Qah Q1s (Qjb Xcb) (e:=ty87) ty87_ok rfl t with⟨hno,hrd2⟩ | ⟨b2,v,Sk2,hsome2,hrd2,hIv2,hSk2,hback2⟩
 · rw[hz] at hno;cases hno
 obtain rfl:z=v:=by rw[hz] at hsome2;simpa using hsome2
 refine⟨_,hrd2 .same Qm,Hh ?_⟩;refine Qq Qna (Qo Xc) hIv2.2 item (.bool true) fun w3 hm3 ho3 => ?_
 rw[Q9] at hm3
 conv=>whnf
 have hb2S:=hSk2 b2 hIv2.1;have hin:=hback2 w3 (Q7 z item true) ⟨.inl hIv2.1,hm3⟩ (Qi ho3 hIv2.1);rw[hset2,hze] at hin;have hmod3:Mod Sk w1 w3:=Qp hmod2 (Qi ho3 hb2S.1)
 have hfin:=hback w3 _ (MapOf.keep Qah hin (S':=Grow Sk w1) fun k _ hk2=>⟨rfl,by
  rcases hk2 with hk2 | hk2
  · exact hk2
  · exact .inr (by have:=hmod2.size;omega)⟩) hmod3
 rw[hset] at hfin;have hp1lt:=hp1.lt;have hpn:¬ Sk p:=fun q=>(hSk p q).1.2 rfl
 refine⟨rfl,⟨bm,.inl h.mine,hp1.mod hmod3 hpn,?_⟩,Qp hmod1 (hmod3.mono fun k _ hk=>(hSk k hk).1.1)⟩;unfold Q6o;rw[← hm1e];refine hfin.keep X9 fun k _ hk2=>⟨rfl,?_⟩
 rcases hk2 with hk2 | hk2
 · exact hk2
 · exact⟨.inr (by have:=hmod1.size;omega),by omega⟩
structure Cfg where
 half:Int
 width:Int
 gap:Int
 span:Int
 floor:Int
 crowd:Int
def Qt4 (c:Cfg):List Value := [vi c.half,vi c.width,vi c.gap,vi c.span,vi c.floor,vi c.crowd]
def Xb4 (c:Cfg):Value := .agg (Qt4 c).toArray
def Qt3 (c:Cfg):Bool:=inB c.half 1 1099511627776&&inB c.width 1 1099511627776&&inB c.span 1 1099511627776&&decide (c.span.tmod c.width=0)&&inB c.gap 0 1099511627776&&inB c.floor 0 1048576&&inB c.crowd 0 1048576
theorem Qco (n lo hi:Int) (w:World):Cal Tryz.prog 56 [.int .i64 n,.int .i64 lo,.int .i64 hi] w fun r w'=>r = .bool (inB n lo hi)∧w'=w:=by
 refine Fi Tryz.func56 rfl _ rfl rfl (Hh ?_)
 exact⟨rfl,rfl⟩
theorem Qtx (c:Cfg) (w:World):Cal Tryz.prog 29 [Xb4 c] w fun r w'=>r = .bool (Qt3 c)∧Ext w w':=by
 refine Fi Tryz.func29 rfl _ rfl rfl (Hh ?_);intro b w1 hn;have hb:At w1 b 25 (Qt4 c):=hn.At
 conv=>whnf
 refine⟨_,hb.one0,Hh ?_⟩;refine(Qco c.half 1 1099511627776 w1).mono ?_;rintro _ w2 ⟨rfl,hw2⟩;replace hw2:=hw2.symm;subst hw2
 conv=>whnf
 refine⟨_,fun _=>hb.one rfl,Hh ?_⟩;refine⟨Unit,fun _ => .bool (inB c.width 1 1099511627776),fun _ w'=>w'=w1,(),fun _=>(Qco c.width 1 1099511627776 w1).mono fun r w' h=>⟨(),h.1,h.2⟩,?_⟩;intro _ w3 h3
 have hw3:w1=w3:=by
  rcases h3 with⟨_,h⟩ | ⟨_,h⟩ <;> exact h.symm
 clear h3;subst hw3
 conv=>whnf
 refine⟨_,fun _=>hb.one rfl,Hh ?_⟩;refine⟨Unit,fun _ => .bool (inB c.span 1 1099511627776),fun _ w'=>w'=w1,(),fun _=>(Qco c.span 1 1099511627776 w1).mono fun r w' h=>⟨(),h.1,h.2⟩,?_⟩;intro _ w4 h4
 have hw4:w1=w4:=by
  rcases h4 with⟨_,h⟩ | ⟨_,h⟩ <;> exact h.symm
 clear h4;subst hw4
 conv=>whnf
 refine⟨_,fun _=>hb.one rfl,Hh ?_⟩;refine⟨_,fun _=>hb.one rfl,Hh ?_⟩;refine⟨c.span.tmod c.width,fun hg=>⟨?_,rfl⟩,?_⟩
 · have hg:(inB c.half 1 1099511627776&&inB c.width 1 1099511627776&&inB c.span 1 1099511627776)=true:=hg
   simp only[Bool.and_eq_true,Qch] at hg;omega
 conv=>whnf
 refine⟨_,fun _=>hb.one rfl,Hh ?_⟩;refine⟨Unit,fun _ => .bool (inB c.gap 0 1099511627776),fun _ w'=>w'=w1,(),fun _=>(Qco c.gap 0 1099511627776 w1).mono fun r w' h=>⟨(),h.1,h.2⟩,?_⟩;intro _ w5 h5
 have hw5:w1=w5:=by
  rcases h5 with⟨_,h⟩ | ⟨_,h⟩ <;> exact h.symm
 clear h5;subst hw5
 conv=>whnf
 refine⟨_,fun _=>hb.one rfl,Hh ?_⟩;refine⟨Unit,fun _ => .bool (inB c.floor 0 1048576),fun _ w'=>w'=w1,(),fun _=>(Qco c.floor 0 1048576 w1).mono fun r w' h=>⟨(),h.1,h.2⟩,?_⟩;intro _ w6 h6
 have hw6:w1=w6:=by
  rcases h6 with⟨_,h⟩ | ⟨_,h⟩ <;> exact h.symm
 clear h6;subst hw6
 conv=>whnf
 refine⟨_,fun _=>hb.one rfl,Hh ?_⟩;refine⟨Unit,fun _ => .bool (inB c.crowd 0 1048576),fun _ w'=>w'=w1,(),fun _=>(Qco c.crowd 0 1048576 w1).mono fun r w' h=>⟨(),h.1,h.2⟩,?_⟩;intro _ w7 h7
 have hw7:w1=w7:=by
  rcases h7 with⟨_,h⟩ | ⟨_,h⟩ <;> exact h.symm
 clear h7;subst hw7
 conv=>whnf
 exact⟨rfl,hn.ext⟩
abbrev IK:=ByteArray×Int
def idC (k:IK):List Value := [.string k.1,.int .i64 k.2]
def idV (k:IK):Value := .agg (idC k).toArray
def Xb7 (e:Ev):IK:=(e.src,e.num)
theorem Q3l:Qnc Tryz.prog 116 idV :=
 Qew (encl:=idC) Qa st116 (fun k=>rfl)
  (fun a b=>by
   show some (decide (a.1=b.1)&&(decide (a.2=b.2)&&true))=some (decide (a=b))
   rw[Bool.and_true]
   congr 1
   by_cases h1:a.1=b.1 <;> by_cases h2:a.2=b.2 <;> simp[Prod.ext_iff,h1,h2])
  (fun k=>by simp[Instr.sameBits,idC,Go.MapKept.bytes_beq])
structure Cts where
 cs:List Ev
 rs:List Row
 dn:Int
 ds:Qjv
 pn:Int
 ps:Qae
 ss:Ses
def Q10:Cts:=⟨[],[],0,[],0,[],[]⟩
def Qqm (s:ByteArray):ByteArray:=(⟨#[59]⟩:ByteArray)++s
def Qbe (cs:List Ev) (e:Ev):List ByteArray:=if(X6 cs e.item e.at_).2=true then Xf (Qqm (X6 cs e.item e.at_).1.tags) else []
def Qcx (width:Int) (c:Cts) (e:Ev):Cts :=
 if e.kind=11∨e.kind=12∨e.kind=13 then { c with cs:=c.cs ++ [e] }
 else if e.kind=14 then c
 else if 0<Qy e then⟨c.cs,c.rs ++ [(e,Qbr (Qbe c.cs e))],c.dn+1,Qqg c.ds e.item e.at_ (Qy e),c.pn+1,Qoa c.ps (e.item,e.at_/Xr width) (Qy e),Q6o c.ss e.person e.at_ e.item⟩
 else { c with rs:=c.rs ++ [(e,Qbr (Qbe c.cs e))] }
structure WS where
 es:List Ev
 any:Bool
 last:Ev
 ad:List (IK×Bool)
 fg:List (ByteArray×Bool)
 ct:Cts
structure WP where
 ba:Nat
 bf:Nat
 pc:Nat
 pw:Nat
 pd:Nat
 pp:Nat
 ps:Nat
def wC (c:Cfg) (A:Option Addr) (n cap:Nat) (any:Bool) (last:Ev) (q:WP):List Value :=
 [vi c.half,vi c.width,vi c.gap,vi c.span,vi c.floor,vi c.crowd,.slice A n cap,.bool any,
  .string last.src,.int .i64 last.num,.int .i64 last.at_,.int .i64 last.kind,.string last.person,.string last.item,.int .i64 last.val,.string last.text,
  .map (some q.ba),.map (some q.bf),.pointer (some ⟨q.pc,0,none⟩),.pointer (some ⟨q.pw,0,none⟩),.pointer (some ⟨q.pd,0,none⟩),.pointer (some ⟨q.pp,0,none⟩),.pointer (some ⟨q.ps,0,none⟩),.pointer none]
structure Qmz (w:World) (col:Nat→Nat) (c:Cfg) (q:WP) (t:Cts):Prop where
 cat:Qg0 w (fun k=>col k=1) q.pc t.cs
 crowd:Qar w (fun k=>col k=2) q.pw (Xr c.half) t.rs
 dec:Qmy w (fun k=>col k=3) q.pd (Xr c.half) t.dn t.ds
 pane:Qmw w (fun k=>col k=4) q.pp (Xr c.width) t.pn t.ps
 ses:Qw3 w (fun k=>col k=5) q.ps (Q3c c.gap) t.ss
theorem Qmz.keep {w w1:World} {col col':Nat→Nat} {c:Cfg} {q:WP} {t:Cts} (h:Qmz w col c q t) (hk:∀ k,k<w.heap.size→1≤col k∧col k≤5→w1.heap[k]? = w.heap[k]? ∧ col' k=col k):Qmz w1 col' c q t :=
 ⟨h.cat.keep fun k h1 h2=>⟨(hk k h1 (by omega)).1,by rw[(hk k h1 (by omega)).2];exact h2⟩,
  h.crowd.keep fun k h1 h2=>⟨(hk k h1 (by omega)).1,by rw[(hk k h1 (by omega)).2];exact h2⟩,
  h.dec.keep fun k h1 h2=>⟨(hk k h1 (by omega)).1,by rw[(hk k h1 (by omega)).2];exact h2⟩,
  h.pane.keep fun k h1 h2=>⟨(hk k h1 (by omega)).1,by rw[(hk k h1 (by omega)).2];exact h2⟩,
  h.ses.keep fun k h1 h2=>⟨(hk k h1 (by omega)).1,by rw[(hk k h1 (by omega)).2];exact h2⟩⟩
structure Qbl (w:World) (base:Nat) (p:Nat) (c:Cfg) (s:WS) (col:Nat→Nat) (q:WP) (A:Option Addr) (cap:Nat):Prop where
 low:10≤base∧∀ k,col k≠0→base≤k
 head:At w p 95 (wC c A s.es.length cap s.any s.last q)
 cols:col p=6∧col q.ba=7∧col q.bf=8∧∀ a,A=some a→col a.block=9
 added:MapAt w q.ba idV (Xm Value.bool s.ad)
 forg:MapAt w q.bf Value.string (Xm Value.bool s.fg)
 evs:Own evC 8 38 0 w A cap s.es
 cts:Qmz w col c q s.ct
def Qeg (w:World) (base:Nat) (p:Nat) (c:Cfg) (s:WS):Prop:=∃ col q A cap,Qbl w base p c s col q A cap
theorem Qeg.ext {w w1:World} {base p:Nat} {c:Cfg} {s:WS} (h:Qeg w base p c s) (hx:Ext w w1):Qeg w1 base p c s:=by
 obtain⟨col,q,A,cap,h⟩:=h
 exact⟨col,q,A,cap,h.low,h.head.ext hx,h.cols,h.added.ext hx,h.forg.ext hx,h.evs.ext hx,h.cts.keep fun k hk _=>⟨hx.block k hk,rfl⟩⟩
theorem Xd8:Tryz.prog.underlying 86=some (.map 116 4):=by kernel_rfl
def Xab (n0 n1 n2 n3 n4 n5 k:Nat):Nat:=if k<n0 then 0 else if k<n1 then 1 else if k<n2 then 2 else if k<n3 then 3 else if k<n4 then 4 else if k<n5 then 5 else 0
set_option maxHeartbeats 2000000 in
theorem Qy9 (w:World) (p:Nat) (c:Cfg) (v6 v7 v8 v9 v10 v11 v12 v13 v14 v15 v16 v17 x0 x1 x2 x3 x4 x5:Value)
 (hp:At w p 95 [vi c.half,vi c.width,vi c.gap,vi c.span,vi c.floor,vi c.crowd,v6,v7,v8,v9,v10,v11,v12,v13,v14,v15,v16,v17,x0,x1,x2,x3,x4,x5]) :
 Cal Tryz.prog 30 [.pointer (some ⟨p,0,none⟩)] w fun r w'=>r = .tuple #[]∧∃ (pc pw pd pp ps:Nat) (col:Nat→Nat),At w' p 95 [vi c.half,vi c.width,vi c.gap,vi c.span,vi c.floor,vi c.crowd,v6,v7,v8,v9,v10,v11,v12,v13,v14,v15,v16,v17,.pointer (some ⟨pc,0,none⟩),.pointer (some ⟨pw,0,none⟩),.pointer (some ⟨pd,0,none⟩),.pointer (some ⟨pp,0,none⟩),.pointer (some ⟨ps,0,none⟩),.pointer none] ∧
  (∀ ba bf,Qmz w' col c ⟨ba,bf,pc,pw,pd,pp,ps⟩ Q10)∧(∀ k,col k≠0→w.heap.size≤k∧k<w'.heap.size∧col k≤5)∧Mod (fun k=>k=p) w w':=by
 have hplt:=hp.lt;refine Fi Tryz.func30 rfl _ rfl rfl (Hh ?_);refine(Quk w).mono ?_;rintro _ w1 ⟨pc,rfl,hc1,hx1⟩;have s1:=hx1.size
 conv=>whnf
 refine Qd Qa (e:=ty88) rfl (hp.ext hx1) rfl rfl rfl (by simp[Qg,Value.oneCell']) fun w2 h2 ho2 => ?_
 have z2:=ho2.size
 conv=>whnf
 refine⟨_,h2.one rfl,Hh ?_⟩;refine(Qpb c.half w2).mono ?_;rintro _ w3 ⟨pw,rfl,hc3,hx3⟩;have s3:=hx3.size
 conv=>whnf
 refine Qd Qa (e:=ty89) rfl (h2.ext hx3) rfl rfl rfl (by simp[Qg,Value.oneCell']) fun w4 h4 ho4 => ?_
 have z4:=ho4.size
 conv=>whnf
 refine⟨_,h4.one rfl,Hh ?_⟩;refine(Qut c.half w4).mono ?_;rintro _ w5 ⟨pd,rfl,hc5,hx5⟩;have s5:=hx5.size
 conv=>whnf
 refine Qd Qa (e:=ty90) rfl (h4.ext hx5) rfl rfl rfl (by simp[Qg,Value.oneCell']) fun w6 h6 ho6 => ?_
 have z6:=ho6.size
 conv=>whnf
 refine⟨_,h6.one rfl,Hh ?_⟩;refine(Q0n c.width w6).mono ?_;rintro _ w7 ⟨pp,rfl,hc7,hx7⟩;have s7:=hx7.size
 conv=>whnf
 refine Qd Qa (e:=ty91) rfl (h6.ext hx7) rfl rfl rfl (by simp[Qg,Value.oneCell']) fun w8 h8 ho8 => ?_
 have z8:=ho8.size
 conv=>whnf
 refine⟨_,h8.one rfl,Hh ?_⟩;refine(Q02 c.gap w8).mono ?_;rintro _ w9 ⟨ps,rfl,hc9,hx9⟩;have s9:=hx9.size
 conv=>whnf
 refine Qd Qa (e:=ty92) rfl (h8.ext hx9) rfl rfl rfl (by simp[Qg,Value.oneCell']) fun w10 h10 ho10 => ?_
 have z10:=ho10.size
 conv=>whnf
 refine Qd Qa (e:=ty93) rfl h10 rfl rfl rfl (by simp[Qg,Value.oneCell']) fun w11 h11 ho11 => ?_
 have z11:=ho11.size
 conv=>whnf
 have hm1:Mod (fun k=>k=p) w w2:=(Mod.of_ext hx1).trans ho2.mod;have hm3:Mod (fun k=>k=p) w2 w4:=(Mod.of_ext hx3).trans ho4.mod;have hm5:Mod (fun k=>k=p) w4 w6:=(Mod.of_ext hx5).trans ho6.mod;have hm7:Mod (fun k=>k=p) w6 w8:=(Mod.of_ext hx7).trans ho8.mod;have hm9:Mod (fun k=>k=p) w8 w11:=(Mod.of_ext hx9).trans (ho10.mod.trans ho11.mod);have k9:Mod (fun k=>k=p) w9 w11:=ho10.mod.trans ho11.mod;have k7:Mod (fun k=>k=p) w7 w11:=ho8.mod.trans hm9;have k5:Mod (fun k=>k=p) w5 w11:=ho6.mod.trans (hm7.trans hm9);have k3:Mod (fun k=>k=p) w3 w11:=ho4.mod.trans (hm5.trans (hm7.trans hm9));have k1:Mod (fun k=>k=p) w1 w11:=ho2.mod.trans (hm3.trans (hm5.trans (hm7.trans hm9)));refine⟨rfl,pc,pw,pd,pp,ps,Xab w.heap.size w1.heap.size w3.heap.size w5.heap.size w7.heap.size w9.heap.size,h11,fun ba bf=>⟨?_,?_,?_,?_,?_⟩,?_,hm1.trans (hm3.trans (hm5.trans (hm7.trans hm9)))⟩
 · refine hc1.keep fun k h1 h2=>⟨k1.block k h1 (by omega),?_⟩
   unfold Xab;rw[if_neg (by omega),if_pos h1]
 · refine hc3.keep fun k h1 h2=>⟨k3.block k h1 (by omega),?_⟩
   unfold Xab;rw[if_neg (by omega),if_neg (by omega),if_pos h1]
 · refine hc5.keep fun k h1 h2=>⟨k5.block k h1 (by omega),?_⟩
   unfold Xab;rw[if_neg (by omega),if_neg (by omega),if_neg (by omega),if_pos h1]
 · refine hc7.keep fun k h1 h2=>⟨k7.block k h1 (by omega),?_⟩
   unfold Xab;rw[if_neg (by omega),if_neg (by omega),if_neg (by omega),if_neg (by omega),if_pos h1]
 · refine hc9.keep fun k h1 h2=>⟨k9.block k h1 (by omega),?_⟩
   unfold Xab;rw[if_neg (by omega),if_neg (by omega),if_neg (by omega),if_neg (by omega),if_neg (by omega),if_pos h1]
 · intro k hk
   unfold Xab at hk ⊢
   repeat' split at hk
   all_goals first
    | exact absurd rfl hk
    | (refine⟨by omega,by omega,?_⟩;repeat' split;all_goals omega)
def WS0:WS:=⟨[],false,Qt0,[],[],Q10⟩
theorem Qiz (c:Cfg) (w:World) (hg:10≤w.heap.size) (hc:Qt3 c=true):Cal Tryz.prog 11 [Xb4 c] w fun r w'=>∃ p,r = .tuple #[.pointer (some ⟨p,0,none⟩),.int .i64 0]∧Qeg w' w.heap.size p c WS0∧Ext w w':=by
 refine Fi Tryz.func11 rfl _ rfl rfl (Hh ?_);intro b1 w1 hn1;have hb1:At w1 b1 25 (Qt4 c):=hn1.At
 conv=>whnf
 refine⟨Qt4 c,⟨rfl,hb1.all⟩,Hh ?_⟩;refine(Qtx c w1).mono ?_;rintro _ w2 ⟨rfl,hx2⟩;rw[hc];have hb2:=hb1.ext hx2
 conv=>whnf
 constructor
 · intro q;cases q
 intro _
 conv=>whnf
 refine⟨Qt4 c,⟨rfl,hb2.all⟩,Hh ?_⟩;intro b3 w3 hn3;conv=>whnf
 intro b4 w4 hn4;conv=>whnf
 intro b5 w5 hn5;conv=>whnf
 have e3:=hn3.block;have e4:=hn4.block;have e5:=hn5.block;have s1:=hn1.size;have s2:=hx2.size;have s3:=hn3.size;have s4:=hn4.size;have s5:=hn5.size;have e1:=hn1.block;refine(Qy9 w5 b5 c _ _ _ _ _ _ _ _ _ _ _ _ _ _ _ _ _ _ hn5.At).mono ?_;rintro _ w6 ⟨rfl,pc,pw,pd,pp,ps,col,h6,hcts,hcol,hm6⟩
 conv=>whnf
 have hx5:Ext w w5:=(((hn1.ext.trans hx2).trans hn3.ext).trans hn4.ext).trans hn5.ext
 have hz:∀ k,k<w5.heap.size→col k=0:=fun k hk=>by
  cases hq:decide (col k=0) with
  | true=>simpa using hq
  | false=>have:=hcol k (by simpa using hq);omega
 refine⟨b5,rfl,⟨fun k=>if k=b5 then 6 else if k=b3 then 7 else if k=b4 then 8 else col k,⟨b3,b4,pc,pw,pd,pp,ps⟩,none,0,⟨hg,fun k hk => ?_⟩,h6,⟨by simp,?_,?_,by simp⟩,?_,?_,Own.nil,(hcts b3 b4).keep fun k _ hk=>⟨rfl,?_⟩⟩,Qfc hx5 hm6 (by omega)⟩
 · by_cases q:col k=0
   · by_cases q1:k=b5
     · omega
     · by_cases q2:k=b3
       · omega
       · by_cases q3:k=b4
         · omega
         · simp[q1,q2,q3,q] at hk
   · have:=hcol k q;omega
 · have:b3≠b5:=by omega
   simp[this]
 · have h1:b4≠b5:=by omega
   have h2:b4≠b3:=by omega
   simp[h1,h2]
 · exact((MapAt.new hn3).ext (hn4.ext.trans hn5.ext)).mod hm6 (by omega)
 · exact((MapAt.new hn4).ext hn5.ext).mod hm6 (by omega)
 · have hk5:w5.heap.size≤k:=by
    have:=hcol k (by omega);exact this.1
   rw[if_neg (by omega),if_neg (by omega),if_neg (by omega)]
theorem Qbu:∀ cs:List Ev,(∀ e∈cs,Xn e=true)→∀ name,(Qw cs name).length≤cs.length∧∀ s∈Qw cs name,s.item.tags.size<1000:=by
 refine Qu (fun _ name=>by simp[Qw]) fun l e ih h name => ?_
 have ih:=ih (fun x hx=>h x (by simp[hx]));rw[Qba];unfold Qfa Qkl
 split
 · next hn =>
   have hi:=ih e.item;refine⟨by simp;omega,fun s hs => ?_⟩;rcases List.mem_append.1 hs with hs | hs
   · exact hi.2 s hs
   · rw[List.mem_singleton] at hs
     subst hs
     have h0:((Qw l e.item).getLast?.getD (Qio e.item)).item.tags.size<1000:=by
      cases hq:(Qw l e.item).getLast? with
      | none=>simp[Qio,Qc6,ByteArray.size]
      | some s=>exact hi.2 s (List.mem_of_getLast? hq)
     have ht:=Qfl (h e (by simp));have hr:=Qmh e.text;unfold Qe7 Qb9
     split
     · show (Qau e.text).size<1000;omega
     · split
       · exact h0
       · exact h0
 · have:=ih name
   exact⟨by simp;omega,this.2⟩
theorem Qnl (cs:List Ev) (h:∀ e∈cs,Xn e=true) (name:ByteArray) (t:Int):(X6 cs name t).1.tags.size<1000:=by
 unfold X6
 split
 · next s hs =>
   split
   · simp[Qc6,ByteArray.size]
   · exact(Qbu cs h name).2 s (List.mem_of_getElem? hs)
 · simp[Qc6,ByteArray.size]
def Ql (width:Int) (l:List Ev):Cts:=l.foldl (Qcx width) Q10
theorem Qbh (width:Int) (l:List Ev) (e:Ev):Ql width (l ++ [e])=Qcx width (Ql width l) e:=by unfold Ql;rw[List.foldl_append];rfl
structure Xcc (t:Cts) (l:List Ev):Prop where
 cs:t.cs.Sublist l
 rs:(evs t.rs).Sublist l
 dn:0≤t.dn∧t.dn≤l.length
 pn:0≤t.pn∧t.pn≤l.length
 ds:Qdp t.ds (l.length*5)
 ps:Qg2 t.ps (l.length*5)
 pl:t.ps.length≤l.length
theorem Qcp {κ β:Type} [DecidableEq κ] (k:κ) (v:β):∀ l:List (κ×β),(Q7 l k v).length≤l.length+1
 | []=>by simp[Q7]
 | x :: l=>by
   have:=Qcp k v l;unfold Q7
   split <;> simp <;> omega
theorem Qir {s:Qjv} {N M:Int} (h:Qdp s N) (hl:N≤M):Qdp s M:=fun k t=>⟨(h k t).1,by have:=(h k t).2;omega⟩
theorem Qe0 {s:Qae} {N M:Int} (h:Qg2 s N) (hl:N≤M):Qg2 s M:=fun x hx=>⟨(h x hx).1,by have:=(h x hx).2;omega⟩
theorem Qpf (rs:List Row) (r:Row):evs (rs ++ [r])=evs rs ++ [r.1]:=by simp[evs]
theorem Qg4 (width:Int):∀ l:List Ev,(∀ e∈l,Xn e=true)→Xcc (Ql width l) l:=by
 refine Qu (fun _=>⟨by simp[Ql,Q10],by simp[Ql,Q10,evs],by simp[Ql,Q10],by simp[Ql,Q10],?_,?_,by simp[Ql,Q10]⟩) fun l e ih h => ?_
 · intro k t;simp[Ql,Q10,Qe]
 · intro x hx;simp[Ql,Q10] at hx
 have ih:=ih fun x hx=>h x (by simp[hx])
 have hw:=Qk8 (h e (by simp));have hN:((l ++ [e]).length:Int)=l.length+1:=by simp
 rw[Qbh];generalize Ql width l=t at ih;unfold Qcx;have hle:l.Sublist (l ++ [e]):=List.sublist_append_left l [e]
 split
 · exact⟨List.Sublist.append ih.cs (List.Sublist.refl _),ih.rs.trans hle,by have:=ih.dn;rw[hN];simp;omega,by have:=ih.pn;rw[hN];simp;omega,Qir ih.ds (by omega),Qe0 ih.ps (by omega),by have:=ih.pl;simp;omega⟩
 split
 · exact⟨ih.cs.trans hle,ih.rs.trans hle,by have:=ih.dn;omega,by have:=ih.pn;omega,Qir ih.ds (by omega),Qe0 ih.ps (by omega),by have:=ih.pl;simp;omega⟩
 split
 · refine⟨ih.cs.trans hle,?_,by have:=ih.dn;rw[hN];simp;omega,by have:=ih.pn;rw[hN];simp;omega,Qir (Q0r ih.ds _ _ _ hw.1) (by omega),Qe0 (Q0q ih.ps (by omega) _ hw.1) (by omega),?_⟩
   · show (evs (t.rs ++ [_])).Sublist _
     rw[Qpf]
     exact List.Sublist.append ih.rs (List.Sublist.refl _)
   · have:=ih.pl
     show (Qoa _ _ _).length≤_
     unfold Qoa
     split
     · simp;omega
     · have:=Qcp (e.item,e.at_/Xr width) ((Qe t.ps (e.item,e.at_/Xr width)).getD 0+Qy e) t.ps
       simp;omega
 · refine⟨ih.cs.trans hle,?_,by have:=ih.dn;rw[hN];simp;omega,by have:=ih.pn;rw[hN];simp;omega,Qir ih.ds (by omega),Qe0 ih.ps (by omega),by have:=ih.pl;simp;omega⟩
   show (evs (t.rs ++ [_])).Sublist _
   rw[Qpf]
   exact List.Sublist.append ih.rs (List.Sublist.refl _)
theorem Qyk {l cs:List Ev} {e:Ev} (h:cs.Sublist l) (hr:Rise (l ++ [e])):cs = []∨Qx (Qek cs) e=true:=by
 have:Rise (cs ++ [e]):=List.Pairwise.sublist (List.Sublist.append h (List.Sublist.refl [e])) hr
 exact Q46 this
def Qca (col:Nat→Nat) (w w1:World) (i k:Nat):Nat:=if k<w.heap.size then col k else if k<w1.heap.size then i else 0
theorem Qap {col:Nat→Nat} {w w1:World} {i k:Nat} (h:k<w.heap.size):Qca col w w1 i k=col k:=if_pos h
theorem Qe1 {col:Nat→Nat} {w w1:World} {i k:Nat} (h1:k<w1.heap.size) (h:Grow (fun k=>col k=i) w k):Qca col w w1 i k=i:=by
 unfold Qca
 by_cases hk:k<w.heap.size
 · rw[if_pos hk]
   rcases h with h | h
   · exact h
   · omega
 · rw[if_neg hk,if_pos h1]
theorem Qc3 {col:Nat→Nat} {w w1:World} {i k:Nat} (hs:w.heap.size≤w1.heap.size) (h:w1.heap.size≤k):Qca col w w1 i k=0:=by
 unfold Qca;rw[if_neg (by omega),if_neg (by omega)]
theorem Qmz.one {w w1:World} {col:Nat→Nat} {i:Nat} {c:Cfg} {q:WP} {t t':Cts} (h:Qmz w col c q t) (hm:Mod (fun k=>col k=i) w w1) (hi:1≤i∧i≤5)
 (h1:if i=1 then Qg0 w1 (Grow (fun k=>col k=i) w) q.pc t'.cs else t'.cs=t.cs)
 (h2:if i=2 then Qar w1 (Grow (fun k=>col k=i) w) q.pw (Xr c.half) t'.rs else t'.rs=t.rs)
 (h3:if i=3 then Qmy w1 (Grow (fun k=>col k=i) w) q.pd (Xr c.half) t'.dn t'.ds else t'.dn=t.dn∧t'.ds=t.ds)
 (h4:if i=4 then Qmw w1 (Grow (fun k=>col k=i) w) q.pp (Xr c.width) t'.pn t'.ps else t'.pn=t.pn∧t'.ps=t.ps)
 (h5:if i=5 then Qw3 w1 (Grow (fun k=>col k=i) w) q.ps (Q3c c.gap) t'.ss else t'.ss=t.ss):Qmz w1 (Qca col w w1 i) c q t' where
 cat:=by
  split at h1
  · next e=>exact h1.keep fun k hk hg=>⟨rfl,by rw[Qe1 hk hg,e]⟩
  · next e=>rw[h1];exact h.cat.keep fun k hk hg=>⟨hm.block k hk (by omega),by rw[Qap hk,hg]⟩
 crowd:=by
  split at h2
  · next e=>exact h2.keep fun k hk hg=>⟨rfl,by rw[Qe1 hk hg,e]⟩
  · next e=>rw[h2];exact h.crowd.keep fun k hk hg=>⟨hm.block k hk (by omega),by rw[Qap hk,hg]⟩
 dec:=by
  split at h3
  · next e=>exact h3.keep fun k hk hg=>⟨rfl,by rw[Qe1 hk hg,e]⟩
  · next e=>rw[h3.1,h3.2];exact h.dec.keep fun k hk hg=>⟨hm.block k hk (by omega),by rw[Qap hk,hg]⟩
 pane:=by
  split at h4
  · next e=>exact h4.keep fun k hk hg=>⟨rfl,by rw[Qe1 hk hg,e]⟩
  · next e=>rw[h4.1,h4.2];exact h.pane.keep fun k hk hg=>⟨hm.block k hk (by omega),by rw[Qap hk,hg]⟩
 ses:=by
  split at h5
  · next e=>exact h5.keep fun k hk hg=>⟨rfl,by rw[Qe1 hk hg,e]⟩
  · next e=>rw[h5];exact h.ses.keep fun k hk hg=>⟨hm.block k hk (by omega),by rw[Qap hk,hg]⟩
def Qfw (w:World) (base p:Nat) (c:Cfg) (s:WS) (col:Nat→Nat):Prop:=(∃ q A cap,Qbl w base p c s col q A cap)∧∀ k,w.heap.size≤k→col k=0
theorem Qeg.col {w:World} {base p:Nat} {c:Cfg} {s:WS} (h:Qeg w base p c s):∃ col,Qfw w base p c s col:=by
 obtain⟨col,q,A,cap,h⟩:=h;have hr:∀ {k},k<w.heap.size→Qca col w w 0 k=col k:=fun hk=>Qap hk
 refine⟨Qca col w w 0,⟨q,A,cap,⟨h.low.1,fun k hk => ?_⟩,h.head,⟨(hr h.head.lt).trans h.cols.1,(hr h.added.lt).trans h.cols.2.1,(hr h.forg.lt).trans h.cols.2.2.1,fun a ha=>(hr (h.evs.block ha).2).trans (h.cols.2.2.2 a ha)⟩,h.added,h.forg,h.evs,h.cts.keep fun k hk _=>⟨rfl,hr hk⟩⟩,fun k hk=>Qc3 (Nat.le_refl _) hk⟩
 by_cases hlt:k<w.heap.size
 · rw[hr hlt] at hk;exact h.low.2 k hk
 · exact absurd (Qc3 (Nat.le_refl _) (by omega)) hk
theorem Qfw.at_ {w:World} {base p:Nat} {c:Cfg} {s:WS} {col:Nat→Nat} (h:Qfw w base p c s col):Qeg w base p c s:=by
 obtain⟨⟨q,A,cap,h⟩,_⟩:=h;exact⟨col,q,A,cap,h⟩
theorem Qbl.ext {w w1:World} {base p:Nat} {c:Cfg} {s:WS} {col:Nat→Nat} {q:WP} {A:Option Addr} {cap:Nat} (h:Qbl w base p c s col q A cap) (hx:Ext w w1):Qbl w1 base p c s col q A cap :=
 ⟨h.low,h.head.ext hx,h.cols,h.added.ext hx,h.forg.ext hx,h.evs.ext hx,h.cts.keep fun k hk _=>⟨hx.block k hk,rfl⟩⟩
theorem Qfw.ext {w w1:World} {base p:Nat} {c:Cfg} {s:WS} {col:Nat→Nat} (h:Qfw w base p c s col) (hx:Ext w w1):Qfw w1 base p c s col:=by
 obtain⟨⟨q,A,cap,h⟩,hz⟩:=h
 exact⟨⟨q,A,cap,h.ext hx⟩,fun k hk=>hz k (by have:=hx.size;omega)⟩
theorem Qbl.one {w w1:World} {base p:Nat} {c:Cfg} {s:WS} {col:Nat→Nat} {q:WP} {A:Option Addr} {cap i:Nat} {t:Cts} (h:Qbl w base p c s col q A cap) (hi:1≤i∧i≤5) (hm:Mod (fun k=>col k=i) w w1) (hc:Qmz w1 (Qca col w w1 i) c q t) :
 Qbl w1 base p c { s with ct:=t } (Qca col w w1 i) q A cap:=by
 have hr:∀ {k},k<w.heap.size→Qca col w w1 i k=col k:=fun hk=>Qap hk
 have hb:base≤w.heap.size:=by
  have:=h.low.2 p (by rw[h.cols.1];decide);have:=h.head.lt;omega
 refine⟨⟨h.low.1,fun k hk => ?_⟩,h.head.mod hm (by rw[h.cols.1];omega),⟨(hr h.head.lt).trans h.cols.1,(hr h.added.lt).trans h.cols.2.1,(hr h.forg.lt).trans h.cols.2.2.1,fun a ha=>(hr (h.evs.block ha).2).trans (h.cols.2.2.2 a ha)⟩,h.added.mod hm (by rw[h.cols.2.1];omega),h.forg.mod hm (by rw[h.cols.2.2.1];omega),h.evs.keep fun a ha=>hm.block _ (h.evs.block ha).2 (by rw[h.cols.2.2.2 a ha];omega),hc⟩
 by_cases hlt:k<w.heap.size
 · rw[hr hlt] at hk;exact h.low.2 k hk
 · omega
theorem Qj3 {w:World} {base p:Nat} {c:Cfg} {s:WS} {col:Nat→Nat} {q:WP} {A:Option Addr} {cap:Nat} (h:Qbl w base p c s col q A cap) {i:Nat} (hi:i≠0):∀ k,col k=i→10≤k:=fun k hk=>by
 have:=h.low.2 k (by omega);have:=h.low.1;omega
theorem Qwi (s:ByteArray) (w:World) (hg:Gl w) (hs:s.size<4000000000) :
 Cal Tryz.prog 134 [.string s,.string ⟨#[44]⟩] w fun r w'=>∃ A c,r = .slice A (Qce 44 s).length c∧SlT w' A (Qce 44 s)∧(∀ a,A=some a→w.heap.size≤a.block)∧Ext w w':=by
 obtain⟨m,hm⟩:=hg.maxLen;refine Qa3 Qx4 (Tryz.strings_Split s ⟨#[44]⟩ m w (by omega) hm (by decide)) ?_;rintro w' rfl;have hlen:=Lib.splitB_all ⟨#[44]⟩ (by decide) 0 _ s rfl;have hsp:=Qmp s.size s (Nat.le_refl _);rw[hsp] at hlen;have hn:New w (w.alloc (.cells ((Qce 44 s).flatMap Qav).toArray 9)) w.heap.size (.cells ((Qce 44 s).flatMap Qav).toArray 9):=⟨rfl,rfl⟩;refine⟨some ⟨w.heap.size,0,none⟩,Lib.countB s ⟨#[44]⟩+1,by rw[hlen],?_,fun a ha=>by injection ha with ha;subst ha;exact Nat.le_refl _,?_⟩
 · rw[hsp,← Qks];exact Qbd Xi hn
 · rw[hsp,← Qks];exact hn.ext
theorem Quy (s:ByteArray) (w:World) (hg:Gl w) (hs:s.size<4000000000) :
 Cal Tryz.prog 95 [.string s] w fun r w'=>∃ A c,r = .slice A (Xf s).length c∧SlT w' A (Xf s)∧(∀ a,A=some a→w.heap.size≤a.block)∧Ext w w':=by
 have hrs:=Qmh s;refine Fi Tryz.func95 rfl _ rfl rfl (Hh ?_);refine(Qkr s w hg hs).mono ?_;rintro _ w1 ⟨rfl,hx1⟩;conv=>whnf
 constructor
 · intro h
   have h:Qau s=⟨#[]⟩:=by simpa using h
   conv=>whnf
   have ht:Xf s = []:=by rw[Qdy,if_pos h]
   exact⟨none,0,by rw[ht];rfl,by rw[ht];exact Sl.nil,fun a ha=>(by cases ha),hx1⟩
 · intro h
   have h:¬ Qau s=⟨#[]⟩:=by simpa using h
   conv=>whnf
   refine(Qwi (Qau s) w1 (hg.ext hx1) (by omega)).mono ?_;rintro _ w2 ⟨A,c,rfl,hsl,hnew,hx2⟩;conv=>whnf
   have ht:Xf s=Qce 44 (Qau s):=by rw[Qdy,if_neg h]
   exact⟨A,c,by rw[ht],by rw[ht];exact hsl,fun a ha=>Nat.le_trans hx1.size (hnew a ha),hx1.trans hx2⟩
theorem Qbl.reh {w w1:World} {base p:Nat} {c:Cfg} {s:WS} {col:Nat→Nat} {q:WP} {A:Option Addr} {cap:Nat} (h:Qbl w base p c s col q A cap) (ho:Only w w1 p) {any:Bool} {last:Ev} (h1:At w1 p 95 (wC c A s.es.length cap any last q)) :
 Qbl w1 base p c { s with any:=any,last:=last } col q A cap:=by
 have hp:=h.cols.1;refine⟨h.low,h1,h.cols,h.added.keep (ho.block _ fun e => ?_),h.forg.keep (ho.block _ fun e => ?_),h.evs.keep fun a ha=>ho.block _ fun e => ?_,h.cts.keep fun k _ hk=>⟨ho.block _ fun e => ?_,rfl⟩⟩
 · have:=h.cols.2.1;rw[e] at this;omega
 · have:=h.cols.2.2.1;rw[e] at this;omega
 · have:=h.cols.2.2.2 a ha;rw[e] at this;omega
 · rw[e] at hk;omega
theorem Qky {w w1 w2:World} {col col8:Nat→Nat} {i:Nat} (hi:1≤i∧i≤6) (h:Mod (fun k=>1≤col k∧col k≤6) w w1) (hr:∀ k,k<w.heap.size→col8 k=col k) (hm:Mod (fun k=>col8 k=i) w1 w2):Mod (fun k=>1≤col k∧col k≤6) w w2:=by
 refine Qp h (hm.mono fun k _ hk => ?_)
 by_cases hlt:k<w.heap.size
 · exact .inl (by show 1≤col k∧col k≤6;rw[← hr k hlt,hk];exact hi)
 · exact .inr (by omega)
theorem Qzi (w:World) (base p:Nat) (c:Cfg) (hcf:Qt3 c=true) (s:WS) (col:Nat→Nat) (h:Qfw w base p c s col) (hg:Gl w) (l:List Ev) (hs:s.ct=Ql c.width l) (hml:∀ x∈l,Xn x=true) (e:Ev) (hm:Xn e=true) (hr:Rise (l ++ [e])) (hl:l.length<1000000) :
 Cal Tryz.prog 55 [.pointer (some ⟨p,0,none⟩),evV e] w fun r w'=>r = .tuple #[]∧∃ col',Qfw w' base p c { s with ct:=Qcx c.width s.ct e } col'∧(∀ k,k<w.heap.size→col' k=col k)∧Mod (fun k=>1≤col k∧col k≤6) w w':=by
 obtain⟨⟨q,A,cap,h⟩,hz⟩:=h;have hB:=Qg4 c.width l hml;rw[← hs] at hB;have hlt:=Qfl hm;have hmk:=Q7z hm;have hmcs:∀ x∈s.ct.cs,Xn x=true:=fun x hx=>hml x (hB.cs.subset hx)
 have hlcs:=hB.cs.length_le;have hlrs:s.ct.rs.length≤l.length:=by have:=hB.rs.length_le;simpa [evs] using this
 have hat:=(Qbq.1 hm).at_;refine Fi Tryz.func55 rfl _ rfl rfl (Hh ?_);intro b1 w1 hn1;have hb1:=hn1.At;have e1:=hn1.block;have s1:=hn1.size;have hg1:=hg.ext hn1.ext;have h1:=h.ext hn1.ext;have hc1:col b1=0:=hz b1 (by omega)
 conv=>whnf
 refine Xh Qa (ι:=Unit) (fun _ => [(0,.pointer (some ⟨p,0,none⟩)),(3,.pointer (some ⟨b1,0,none⟩))]) (fun _ w'=>w'=w1∧e.kind<11) ?_ ?_
 · (conv=>whnf)
   refine⟨_,hb1.one rfl,Hh ?_⟩;refine Xh Qa (ι:=Bool) (fun i => [(0,.pointer (some ⟨p,0,none⟩)),(3,.pointer (some ⟨b1,0,none⟩)),(9,.int .i64 e.kind),(10,.bool i)]) (fun i w'=>i=decide (e.kind=11∨e.kind=12∨e.kind=13)∧w'=w1) ?_ ?_
   · (conv=>whnf)
     refine⟨fun k => ?_,fun k => ?_⟩
     · have k:e.kind=11:=by simpa using k
       conv=>whnf
       exact⟨_,⟨by simp[k],rfl⟩,⟨rfl,rfl,rfl,rfl,trivial⟩⟩
     have k1:¬ e.kind=11:=by simpa using k
     conv=>whnf
     refine⟨fun k => ?_,fun k => ?_⟩
     · have k:e.kind=12:=by simpa using k
       conv=>whnf
       exact⟨_,⟨by simp[k],rfl⟩,⟨rfl,rfl,rfl,rfl,trivial⟩⟩
     have k2:¬ e.kind=12:=by simpa using k
     conv=>whnf
     exact⟨_,⟨by simp[k1,k2],rfl⟩,⟨rfl,rfl,rfl,rfl,trivial⟩⟩
   rintro i w3 ⟨hi,hw⟩;replace hw:=hw.symm;subst hw hi
   conv=>whnf
   refine⟨fun k => ?_,fun k => ?_⟩
   · have k:e.kind=11∨e.kind=12∨e.kind=13:=by simpa using k
     conv=>whnf
     refine Dr .same [0,1,2,3,4] [5] (Hh ?_);have h1d:=h1.ext (Ext.refl w1).drew;have hbd:At w1.drew b1 _ _:=hb1;have hgd:=hg1.ext (Ext.refl w1).drew;have hx1d:=hn1.ext.drew;generalize w1.drew=w2 at h1d hbd hgd hx1d ⊢;refine⟨_,h1d.head.one rfl,Hh ?_⟩;refine⟨evC e,⟨rfl,hbd.all⟩,Hh ?_⟩;refine(Qoz w2 _ q.pc s.ct.cs h1d.cts.cat hgd (Qj3 h1d (by decide)) e hm k (by omega) (Qyk hB.cs hr) (by have:=(Qbu s.ct.cs hmcs e.item).1;omega)).mono ?_;rintro _ w4 ⟨rfl,hc4,hm4⟩
     conv=>whnf
     have hW:Qbl w4 base p c { s with ct:={ s.ct with cs:=s.ct.cs ++ [e] } } _ q A cap:=h1d.one (i:=1) (by omega) hm4 (h1d.cts.one (t':={ s.ct with cs:=s.ct.cs ++ [e] }) hm4 (by omega) hc4 rfl ⟨rfl,rfl⟩ ⟨rfl,rfl⟩ rfl);have hct:Qcx c.width s.ct e={ s.ct with cs:=s.ct.cs ++ [e] }:=by unfold Qcx;rw[if_pos k]
     rw[hct];refine⟨rfl,_,⟨⟨q,A,cap,hW⟩,fun j hj=>Qc3 hm4.size hj⟩,fun j hj=>Qap (by have:=hx1d.size;omega),(Mod.of_ext hx1d).trans (hm4.mono fun j _ hj=>by rw[hj];decide)⟩
   have k:¬ (e.kind=11∨e.kind=12∨e.kind=13):=by simpa using k
   conv=>whnf
   refine⟨fun k4 => ?_,fun k4 => ?_⟩
   · have k4:e.kind=14:=by simpa using k4
     conv=>whnf
     have hct:Qcx c.width s.ct e=s.ct:=by unfold Qcx;rw[if_neg k,if_pos k4]
     rw[hct]
     exact⟨rfl,col,⟨⟨q,A,cap,h1⟩,fun j hj=>hz j (by omega)⟩,fun j _=>rfl,Mod.of_ext hn1.ext⟩
   have k4:¬ e.kind=14:=by simpa using k4
   conv=>whnf
   exact⟨(),⟨rfl,by omega⟩,Rr⟩
 rintro _ w3 ⟨hw,hk⟩;replace hw:=hw.symm;subst hw
 conv=>whnf
 refine Xh Qa (ι:=Option Addr×Nat) (fun x => [(0,.pointer (some ⟨p,0,none⟩)),(3,.pointer (some ⟨b1,0,none⟩)),(4,.slice x.1 (Qbe s.ct.cs e).length x.2)]) (fun x w'=>Ext w1 w'∧SlT w' x.1 (Qbe s.ct.cs e)∧∀ a,x.1=some a→w1.heap.size≤a.block) ?_ ?_
 · (conv=>whnf)
   refine Qv6 (ι:=Nat) (fun b5 => [(0,.pointer (some ⟨p,0,none⟩)),(3,.pointer (some ⟨b1,0,none⟩)),(4,.slice none 0 0),(5,.pointer (some ⟨b5,0,none⟩)),(6,.bool (X6 s.ct.cs e.item e.at_).2)])
    (fun b5 w'=>Ext w1 w'∧At w' b5 167 (itC (X6 s.ct.cs e.item e.at_).1)) ?_ ?_
   · refine Qh5 (.mods (fun k=>w1.heap.size≤k)) (Pl.seq [0,1,2,3,4,5,6,7] (Pl.two 8 (Pl.seq [9,10,11,12,13,14] Pl.done) 12 (Pl.seq [8,9,10,11,13,14] Pl.done))) (by intro h;cases h) Qa mixed (by kernel_rfl) (Hh ?_)
     have h1d:=h1.ext (Ext.refl w1).drew;have hbd:At w1.drew b1 _ _:=hb1;have hx1d:=(Ext.refl w1).drew;have hnb1:¬ (w1.heap.size≤b1):=by omega
     have hplt:=h1.head.lt;have hnp:¬ (w1.heap.size≤p):=by omega
     generalize w1.drew=w2 at h1d hbd hx1d ⊢;have hs2:=hx1d.size;have hcl:(Qw s.ct.cs e.item).length<1000000000000:=by have:=(Qbu s.ct.cs hmcs e.item).1;omega
     refine⟨_,⟨h1d.head.one rfl,by rw[add_block];exact hnp⟩,Hh ?_⟩;refine⟨_,⟨hbd.one rfl,by rw[add_block];exact hnb1⟩,Hh ?_⟩;refine⟨_,⟨hbd.one rfl,by rw[add_block];exact hnb1⟩,Hh ?_⟩;refine⟨?_,?_⟩
     · refine(Qgm w2 _ q.pc s.ct.cs h1d.cts.cat e.item e.at_ hcl).mono ?_
       rintro _ w4 ⟨rfl,hx4⟩;refine⟨Mod.of_ext hx4,Hh ?_⟩;intro b5 w5 hn5;refine⟨Mod.of_ext hn5.ext,Hh ?_⟩;have e5:=hn5.block;have z4:=hx4.size;refine Qd Qa (e:=ty167) rfl hn5.At rfl rfl rfl (by simp[Qg,itC,Value.oneCell']) fun w6 h6 ho6 => ?_
       refine⟨Qi ho6 (by omega),Hh ?_⟩
       exact⟨b5,⟨ho6.ext ((hx1d.trans hx4).trans hn5.ext) (by omega),h6⟩,Rr⟩
     · intro b5 w5 hn5
       refine⟨Mod.of_ext hn5.ext,Hh ?_⟩;have e5:=hn5.block;refine(Qgm w5 _ q.pc s.ct.cs (h1d.cts.cat.ext hn5.ext) e.item e.at_ hcl).mono ?_;rintro _ w4 ⟨rfl,hx4⟩;refine⟨Mod.of_ext hx4,Hh ?_⟩;refine Qd Qa (e:=ty167) rfl (hn5.At.ext hx4) rfl rfl rfl (by simp[Qg,itC,Value.oneCell']) fun w6 h6 ho6 => ?_
       refine⟨Qi ho6 (by omega),Hh ?_⟩
       exact⟨b5,⟨ho6.ext ((hx1d.trans hn5.ext).trans hx4) (by omega),h6⟩,Rr⟩
   rintro b5 w5 ⟨hx5,h5⟩;have hb5:=hb1.ext hx5;have hg5:=hg1.ext hx5;have z5:=hx5.size
   conv=>whnf
   refine⟨fun kk => ?_,fun kk => ?_⟩
   · have kk:(X6 s.ct.cs e.item e.at_).2=true:=kk
     have hta:Qbe s.ct.cs e=Xf (Qqm (X6 s.ct.cs e.item e.at_).1.tags):=by unfold Qbe;rw[if_pos kk]
     have hts:=Qnl s.ct.cs hmcs e.item e.at_;rw[hta]
     conv=>whnf
     refine⟨_,h5.one rfl,Hh ?_⟩;have hsm:(Qqm (X6 s.ct.cs e.item e.at_).1.tags).size<1001:=by unfold Qqm;rw[ByteArray.size_append];have:(⟨#[59]⟩:ByteArray).size=1:=rfl;omega
     refine⟨sz2 (by decide) (Nat.le_of_lt (Nat.lt_trans hts (by decide))),Hh ?_⟩;refine(Quy (Qqm (X6 s.ct.cs e.item e.at_).1.tags) w5 hg5 (by omega)).mono ?_;rintro _ w6 ⟨TA,tc,rfl,ht6,hnew6,hx6⟩
     conv=>whnf
     exact⟨(TA,tc),⟨hx5.trans hx6,ht6,fun a ha=>Nat.le_trans z5 (hnew6 a ha)⟩,Rr⟩
   · have kk:(X6 s.ct.cs e.item e.at_).2=false:=kk
     have hta:Qbe s.ct.cs e = []:=by unfold Qbe;rw[kk];rfl
     rw[hta]
     conv=>whnf
     exact⟨(none,0),⟨hx5,Sl.nil,fun a ha=>by cases ha⟩,Rr⟩
 rintro ⟨TA,tc⟩ w6 ⟨hx6,hts6,hta6⟩;have hb6:=hb1.ext hx6;have h6:=h1.ext hx6;have hg6:=hg1.ext hx6;have z6:=hx6.size
 have htl:(Qbe s.ct.cs e).length<1000000:=by
  unfold Qbe
  split
  · have hts:=Qnl s.ct.cs hmcs e.item e.at_
    have:=Qyl (Qqm (X6 s.ct.cs e.item e.at_).1.tags);unfold Qqm at this ⊢;rw[ByteArray.size_append] at this;have h1:(⟨#[59]⟩:ByteArray).size=1:=rfl;omega
  · simp
 conv=>whnf
 refine Dr .same [0,1,2,3,4,5] [6] (Hh ?_);replace hb6:At w6.drew b1 _ _:=hb6;replace h6:=h6.ext (Ext.refl w6).drew;replace hg6:=hg6.ext (Ext.refl w6).drew;replace hx6:=hx6.drew;replace hts6:=hts6.ext (Ext.refl w6).drew;have hxw:Ext w w6.drew:=hn1.ext.trans hx6;clear z6;generalize w6.drew=w7 at hb6 h6 hg6 hx6 hts6 hxw ⊢;have z7:=hxw.size;refine⟨_,h6.head.one rfl,Hh ?_⟩;refine⟨evC e,⟨rfl,hb6.all⟩,Hh ?_⟩
 refine(Qlj w7 _ q.pw (Xr c.half) s.ct.rs h6.cts.crowd hg6 (Qj3 h6 (by decide)) e hm hk (by omega) (by
  rcases Qyk hB.rs hr with h | h
  · exact .inl (by simpa [evs] using h)
  · exact .inr h) (by omega) (Qbe s.ct.cs e) TA tc hts6 (fun a ha hc=>by have:=hz a.block (by have:=hta6 a ha;omega);omega) htl).mono ?_
 rintro _ w8 ⟨rfl,hc8,hm8⟩;have h8:=h6.one (i:=2) (t:={ s.ct with rs:=s.ct.rs ++ [(e,Qbr (Qbe s.ct.cs e))] }) (by omega) hm8 (h6.cts.one (t':={ s.ct with rs:=s.ct.rs ++ [(e,Qbr (Qbe s.ct.cs e))] }) hm8 (by omega) rfl hc8 ⟨rfl,rfl⟩ ⟨rfl,rfl⟩ rfl);have hb8:=hb6.mod hm8 (by omega);have hr8:∀ k,k<w.heap.size→Qca col w7 w8 2 k=col k:=fun k hk=>Qap (by omega)
 have hb8c:Qca col w7 w8 2 b1=0:=by rw[Qap (by have:=hb6.lt;omega)];exact hc1
 have ht8:∀ k,w8.heap.size≤k→Qca col w7 w8 2 k=0:=fun k hk=>Qc3 hm8.size hk
 have hM8:Mod (fun k=>1≤col k∧col k≤6) w w8:=(Mod.of_ext hxw).trans (hm8.mono fun j _ hj=>by rw[hj];decide);have hg8:=hg6.mod hm8 (Qj3 h6 (by decide));generalize Qca col w7 w8 2=col8 at h8 hr8 hb8c ht8;clear hm8 hc8 h6 hb6 hg6 hx6 hxw hts6 hta6 z7 hn1 hg1 hb1 h1
 conv=>whnf
 refine⟨evC e,⟨rfl,hb8.all⟩,Hh ?_⟩;refine(Qe8 e w8).mono ?_;rintro _ w9 ⟨rfl,hx9⟩;have hwl:=Qk8 hm;have h9:=h8.ext hx9;have hb9:=hb8.ext hx9;have z9:=hx9.size;have hM9:=hM8.trans (Mod.of_ext hx9);have ht9:∀ k,w9.heap.size≤k→col8 k=0:=fun k hk=>ht8 k (by omega)
 have z8:w.heap.size≤w8.heap.size:=hM8.size;clear h8 hb8 hx9 hM8 ht8 hg8 hg hz h;have kn:¬ (e.kind=11∨e.kind=12∨e.kind=13):=by omega
 have k14:¬ e.kind=14:=by omega
 conv=>whnf
 refine⟨fun kw => ?_,fun kw => ?_⟩
 case refine_2 =>
  have kw:¬ 0<Qy e:=by simpa using kw
  conv=>whnf
  have hct:Qcx c.width s.ct e={ s.ct with rs:=s.ct.rs ++ [(e,Qbr (Qbe s.ct.cs e))] }:=by unfold Qcx;rw[if_neg kn,if_neg k14,if_neg kw]
  rw[hct]
  exact⟨rfl,col8,⟨⟨q,A,cap,h9⟩,ht9⟩,hr8,hM9⟩
 have kw:0<Qy e:=by simpa using kw
 have hnm:=Qdz hm kw;have hsz1:=Qdw hnm.1;have hsz2:=Qdw hnm.2;have hct:Qcx c.width s.ct e=⟨s.ct.cs,s.ct.rs ++ [(e,Qbr (Qbe s.ct.cs e))],s.ct.dn+1,Qqg s.ct.ds e.item e.at_ (Qy e),s.ct.pn+1,Qoa s.ct.ps (e.item,e.at_/Xr c.width) (Qy e),Q6o s.ct.ss e.person e.at_ e.item⟩:=by unfold Qcx;rw[if_neg kn,if_neg k14,if_pos kw]
 rw[hct];clear hct;have hdn:=hB.dn;have hpn:=hB.pn;have hpl:=hB.pl;have hwd:1≤Xr c.width∧Xr c.width≤1099511627776:=by unfold Xr;omega
 conv=>whnf
 refine Dr .same [0,1,2,3,4,5,6,7,8] [9] (Hh ?_);replace hb9:At w9.drew b1 _ _:=hb9;replace h9:=h9.ext (Ext.refl w9).drew;replace hM9:=hM9.trans (Mod.of_ext (Ext.refl w9).drew);have hz9:w9.drew.heap.size=w9.heap.size:=rfl;generalize w9.drew=w10 at hb9 h9 hM9 hz9 ⊢;refine⟨_,h9.head.one rfl,Hh ?_⟩;refine⟨_,hb9.one rfl,Hh ?_⟩;refine⟨_,hb9.one rfl,Hh ?_⟩;refine(Qus w10 _ q.pd (Xr c.half) s.ct.dn s.ct.ds h9.cts.dec e.item e.at_ (Qy e) (l.length*5) hB.ds (by omega) (by omega) hsz2 hat (by omega)).mono ?_;rintro _ w11 ⟨rfl,hc11,hm11⟩
 conv=>whnf
 have h11:=h9.one (i:=3) (t:=⟨s.ct.cs,s.ct.rs ++ [(e,Qbr (Qbe s.ct.cs e))],s.ct.dn+1,Qqg s.ct.ds e.item e.at_ (Qy e),s.ct.pn,s.ct.ps,s.ct.ss⟩) (by omega) hm11 (h9.cts.one (t':=⟨s.ct.cs,s.ct.rs ++ [(e,Qbr (Qbe s.ct.cs e))],s.ct.dn+1,Qqg s.ct.ds e.item e.at_ (Qy e),s.ct.pn,s.ct.ps,s.ct.ss⟩) hm11 (by omega) rfl rfl hc11 ⟨rfl,rfl⟩ rfl);have hb11:=hb9.mod hm11 (by omega);have hr11:∀ k,k<w.heap.size→Qca col8 w10 w11 3 k=col k:=fun k hk=>(Qap (by omega)).trans (hr8 k hk)
 have hb11c:Qca col8 w10 w11 3 b1=0:=(Qap hb9.lt).trans hb8c;have ht11:∀ k,w11.heap.size≤k→Qca col8 w10 w11 3 k=0:=fun k hk=>Qc3 hm11.size hk
 have hM11:=Qky (by decide) hM9 hr8 hm11;have z11:w.heap.size≤w11.heap.size:=hM11.size;generalize Qca col8 w10 w11 3=col11 at h11 hr11 hb11c ht11;clear hm11 hc11 h9 hb9 hM9 hr8 hb8c ht9;refine Dr .same [0,1,2,3,4,5,6,7,8] [9] (Hh ?_);replace hb11:At w11.drew b1 _ _:=hb11;replace h11:=h11.ext (Ext.refl w11).drew;replace hM11:=hM11.trans (Mod.of_ext (Ext.refl w11).drew);have hz11:w11.drew.heap.size=w11.heap.size:=rfl;generalize w11.drew=w12 at hb11 h11 hM11 hz11 ⊢;refine⟨_,h11.head.one rfl,Hh ?_⟩;refine⟨_,hb11.one rfl,Hh ?_⟩;refine⟨_,hb11.one rfl,Hh ?_⟩;refine(Q0m w12 _ q.pp (Xr c.width) s.ct.pn s.ct.ps h11.cts.pane hwd e.item e.at_ (Qy e) (l.length*5) hB.ps (by omega) (by omega) (by omega) (by omega) hsz2 hat (by omega)).mono ?_;rintro _ w13 ⟨rfl,hc13,hm13⟩
 conv=>whnf
 have h13:=h11.one (i:=4) (t:=⟨s.ct.cs,s.ct.rs ++ [(e,Qbr (Qbe s.ct.cs e))],s.ct.dn+1,Qqg s.ct.ds e.item e.at_ (Qy e),s.ct.pn+1,Qoa s.ct.ps (e.item,e.at_/Xr c.width) (Qy e),s.ct.ss⟩) (by omega) hm13 (h11.cts.one (t':=⟨s.ct.cs,s.ct.rs ++ [(e,Qbr (Qbe s.ct.cs e))],s.ct.dn+1,Qqg s.ct.ds e.item e.at_ (Qy e),s.ct.pn+1,Qoa s.ct.ps (e.item,e.at_/Xr c.width) (Qy e),s.ct.ss⟩) hm13 (by omega) rfl rfl ⟨rfl,rfl⟩ hc13 rfl);have hb13:=hb11.mod hm13 (by omega);have hr13:∀ k,k<w.heap.size→Qca col11 w12 w13 4 k=col k:=fun k hk=>(Qap (by omega)).trans (hr11 k hk)
 have hb13c:Qca col11 w12 w13 4 b1=0:=(Qap hb11.lt).trans hb11c;have ht13:∀ k,w13.heap.size≤k→Qca col11 w12 w13 4 k=0:=fun k hk=>Qc3 hm13.size hk
 have hM13:=Qky (by decide) hM11 hr11 hm13;have z13:w.heap.size≤w13.heap.size:=hM13.size;generalize Qca col11 w12 w13 4=col13 at h13 hr13 hb13c ht13;clear hm13 hc13 h11 hb11 hM11 hr11 hb11c ht11;refine Dr .same [0,1,2,3,4,5,6,7,8,9] [10] (Hh ?_);replace hb13:At w13.drew b1 _ _:=hb13;replace h13:=h13.ext (Ext.refl w13).drew;replace hM13:=hM13.trans (Mod.of_ext (Ext.refl w13).drew);have hz13:w13.drew.heap.size=w13.heap.size:=rfl;generalize w13.drew=w14 at hb13 h13 hM13 hz13 ⊢;refine⟨_,h13.head.one rfl,Hh ?_⟩;refine⟨_,hb13.one rfl,Hh ?_⟩;refine⟨_,hb13.one rfl,Hh ?_⟩;refine⟨_,hb13.one rfl,Hh ?_⟩;refine(Q0z w14 _ q.ps (Q3c c.gap) s.ct.ss h13.cts.ses e.person e.item e.at_ hsz1 hsz2 hat).mono ?_;rintro _ w15 ⟨rfl,hc15,hm15⟩
 conv=>whnf
 have h15:=h13.one (i:=5) (t:=⟨s.ct.cs,s.ct.rs ++ [(e,Qbr (Qbe s.ct.cs e))],s.ct.dn+1,Qqg s.ct.ds e.item e.at_ (Qy e),s.ct.pn+1,Qoa s.ct.ps (e.item,e.at_/Xr c.width) (Qy e),Q6o s.ct.ss e.person e.at_ e.item⟩) (by omega) hm15 (h13.cts.one (t':=⟨s.ct.cs,s.ct.rs ++ [(e,Qbr (Qbe s.ct.cs e))],s.ct.dn+1,Qqg s.ct.ds e.item e.at_ (Qy e),s.ct.pn+1,Qoa s.ct.ps (e.item,e.at_/Xr c.width) (Qy e),Q6o s.ct.ss e.person e.at_ e.item⟩) hm15 (by omega) rfl rfl ⟨rfl,rfl⟩ ⟨rfl,rfl⟩ hc15);have hr15:∀ k,k<w.heap.size→Qca col13 w14 w15 5 k=col k:=fun k hk=>(Qap (by omega)).trans (hr13 k hk)
 have ht15:∀ k,w15.heap.size≤k→Qca col13 w14 w15 5 k=0:=fun k hk=>Qc3 hm15.size hk
 have hM15:=Qky (by decide) hM13 hr13 hm15;generalize Qca col13 w14 w15 5=col15 at h15 hr15 ht15;clear hm15 hc15 h13 hb13 hM13 hr13 hb13c ht13;refine Qd Qa (e:=ty93) rfl h15.head rfl rfl rfl (by simp[Qg,Value.oneCell']) fun w16 h16 ho16 => ?_
 conv=>whnf
 have h17:=h15.reh ho16 h16;refine⟨rfl,col15,⟨⟨q,A,cap,h17⟩,fun k hk=>ht15 k (by rw[ho16.size] at hk;exact hk)⟩,hr15,Qky (i:=6) (by decide) hM15 hr15 (Qi ho16 h15.cols.1)⟩
def Qya (width:Int) (s:WS) (e:Ev):WS:=⟨s.es ++ [e],true,e,Q7 s.ad (Xb7 e) true,s.fg,Qcx width s.ct e⟩
section
variable {w w1:World} {base p:Nat} {c:Cfg} {s:WS} {col:Nat→Nat} {q:WP} {A:Option Addr} {cap:Nat}
theorem Qbl.addm (h:Qbl w base p c s col q A cap) (ho:Only w w1 q.ba) {ad:List (IK×Bool)} (hm:MapAt w1 q.ba idV (Xm Value.bool ad)):Qbl w1 base p c { s with ad:=ad } col q A cap:=by
 have hp:=h.cols.2.1;refine⟨h.low,ho.at_ h.head fun e => ?_,h.cols,hm,h.forg.keep (ho.block _ fun e => ?_),h.evs.keep fun a ha=>ho.block _ fun e => ?_,h.cts.keep fun k _ hk=>⟨ho.block _ fun e => ?_,rfl⟩⟩
 · have:=h.cols.1;rw[e] at this;omega
 · have:=h.cols.2.2.1;rw[e] at this;omega
 · have:=h.cols.2.2.2 a ha;rw[e] at this;omega
 · rw[e] at hk;omega
theorem Qbl.forgm (h:Qbl w base p c s col q A cap) (ho:Only w w1 q.bf) {fg:List (ByteArray×Bool)} (hm:MapAt w1 q.bf Value.string (Xm Value.bool fg)):Qbl w1 base p c { s with fg:=fg } col q A cap:=by
 have hp:=h.cols.2.2.1;refine⟨h.low,ho.at_ h.head fun e => ?_,h.cols,h.added.keep (ho.block _ fun e => ?_),hm,h.evs.keep fun a ha=>ho.block _ fun e => ?_,h.cts.keep fun k _ hk=>⟨ho.block _ fun e => ?_,rfl⟩⟩
 · have:=h.cols.1;rw[e] at this;omega
 · have:=h.cols.2.1;rw[e] at this;omega
 · have:=h.cols.2.2.2 a ha;rw[e] at this;omega
 · rw[e] at hk;omega
theorem Qbl.push (h:Qbl w base p c s col q A cap) {w2 w3:World} {A':Option Addr} {c':Nat} {es:List Ev} (hz:∀ k,w.heap.size≤k→col k=0) (hn:Ext w w1)
 (hg:w1.grownBy w2 (A.map (·.block))) (ho:Only w2 w3 p) (hown:Own evC 8 38 0 w2 A' c' es) (hA:A'=A∨A'.map (·.block)=A.map (·.block)∨A'.map (·.block)=some w1.heap.size)
 (hh:At w3 p 95 (wC c A' es.length c' s.any s.last q)):∃ col',Qbl w3 base p c { s with es:=es } col' q A' c'∧(∀ k,w3.heap.size≤k→col' k=0)∧∀ k,k<w.heap.size→col' k=col k:=by
 have s1:=hn.size
 have hm2:Mod (fun k=>col k=9) w1 w2:=Qac hg fun k hk=>by
  cases A with
  | none=>simp at hk
  | some a=>have:=h.cols.2.2.2 a rfl;simp at hk;rw[hk] at this;exact this
 have s2:=hm2.size;have s3:=ho.size;have hp:=h.cols.1;have hplt:=h.head.lt;have hbp:=h.low.2 p (by omega)
 have hblk:∀ k,k<w.heap.size→col k≠9→k≠p→w3.heap[k]? = w.heap[k]? := fun k h1 h2 h3=>by
  rw[ho.block k h3,hm2.block k (by omega) h2,hn.block k h1]
 have hr:∀ {k},k<w.heap.size→Qca col w w3 9 k=col k:=fun hk=>Qap hk
 have hA9:∀ a,A'=some a→Qca col w w3 9 a.block=9:=fun a ha=>by
  have hlt:=(hown.block ha).2
  by_cases hk:a.block<w.heap.size
  · rw[hr hk]
    have hAA:A.map (·.block)=some a.block:=by
     rcases hA with hA | hA | hA
     · rw[← hA,ha];rfl
     · rw[← hA,ha];rfl
     · rw[ha] at hA;simp at hA;omega
    cases A with
    | none=>simp at hAA
    | some a0=>simp at hAA;rw[← hAA];exact h.cols.2.2.2 a0 rfl
  · unfold Qca;rw[if_neg hk,if_pos (by omega)]
 refine⟨Qca col w w3 9,⟨⟨h.low.1,fun k hk => ?_⟩,hh,⟨(hr hplt).trans hp,(hr h.added.lt).trans h.cols.2.1,(hr h.forg.lt).trans h.cols.2.2.1,hA9⟩,h.added.keep (hblk _ h.added.lt (by rw[h.cols.2.1];decide) fun e => ?_),h.forg.keep (hblk _ h.forg.lt (by rw[h.cols.2.2.1];decide) fun e => ?_),hown.keep fun a ha=>ho.block _ fun e => ?_,h.cts.keep fun k h1 hk=>⟨hblk k h1 (by omega) fun e => ?_,hr h1⟩⟩,fun k hk=>Qc3 (by omega) hk,fun k hk=>hr hk⟩
 · by_cases hlt:k<w.heap.size
   · rw[hr hlt] at hk;exact h.low.2 k hk
   · omega
 · have:=h.cols.2.1;rw[e] at this;omega
 · have:=h.cols.2.2.1;rw[e] at this;omega
 · have:=hA9 a ha;rw[e,hr hplt] at this;omega
 · rw[e] at hk;omega
end
set_option maxHeartbeats 1000000 in
theorem Q8a (w:World) (base p:Nat) (c:Cfg) (hcf:Qt3 c=true) (s:WS) (col:Nat→Nat) (h:Qfw w base p c s col) (hg:Gl w) (hs:s.ct=Ql c.width s.es) (hml:∀ x∈s.es,Xn x=true) (e:Ev) (hm:Xn e=true) (hr:Rise (s.es ++ [e])) (hl:s.es.length<1000000) :
 Cal Tryz.prog 27 [.pointer (some ⟨p,0,none⟩),evV e] w fun r w'=>r = .tuple #[]∧∃ col',Qfw w' base p c (Qya c.width s e) col'∧(∀ k,k<w.heap.size→col' k=col k)∧Mod (fun k=>col k≠0) w w':=by
 obtain⟨⟨q,A,cap,h⟩,hz⟩:=h;refine Fi Tryz.func27 rfl _ rfl rfl (Hh ?_);intro b1 w1 hn1;have hb1:=hn1.At;have e1:=hn1.block;have s1:=hn1.size;have hg1:=hg.ext hn1.ext;have h1:=h.ext hn1.ext;have hc1:col b1=0:=hz b1 (by omega);have hp6:=h.cols.1;have hbp:b1≠p:=fun e=>by rw[e] at hc1;omega
 conv=>whnf
 refine Dr (.mods (fun k=>k=p)) [0,1,2,3,4,5,6,7] [8] (Hh ?_);replace h1:=h1.ext (Ext.refl w1).drew;replace hg1:=hg1.ext (Ext.refl w1).drew;replace hb1:At w1.drew b1 _ _:=hb1;have hx1:=hn1.ext.drew;generalize w1.drew=w2 at h1 hg1 hb1 hx1 ⊢;refine⟨evC e,⟨rfl,hb1.all,hbp⟩,Hh ?_⟩;refine Qd Qa (e:=ty4) rfl h1.head rfl rfl rfl (by simp[Qg,Value.oneCell']) fun w3 h3 ho3 => ?_
 refine⟨Qi ho3 rfl,Hh ?_⟩;refine Qd Qa (e:=ty38) rfl h3 rfl rfl rfl (by simp[Qg,evC,Value.oneCell']) fun w4 h4 ho4 => ?_
 have h5:=(h1.reh ho3 (any:=true) (last:=s.last) h3).reh ho4 (any:=true) (last:=e) h4;have hb5:=ho4.at_ (ho3.at_ hb1 hbp) hbp;have hg5:=(hg1.only ho3 (Qj3 h1 (by decide) p hp6)).only ho4 (Qj3 h1 (by decide) p hp6);have hM5:Mod (fun k=>col k≠0) w w4:=(Mod.of_ext hx1).trans ((Qi ho3 (by show col p≠0;omega)).trans (Qi ho4 (by show col p≠0;omega)));have hz4:w4.heap.size=w2.heap.size:=by rw[ho4.size,ho3.size]
 have hz2:=hx1.size;clear h1 h3 h4 ho3 ho4 hb1 hg1 hx1 hn1 h hg
 conv=>whnf
 refine Dr .same [0,1,2,3,4,5,6,7,8] [9] (Hh ?_);replace h5:=h5.ext (Ext.refl w4).drew;replace hg5:=hg5.ext (Ext.refl w4).drew;replace hb5:At w4.drew b1 _ _:=hb5;replace hM5:=hM5.trans (Mod.of_ext (Ext.refl w4).drew);replace hz4:w4.drew.heap.size=w2.heap.size:=hz4;generalize w4.drew=w5 at h5 hg5 hb5 hM5 hz4 ⊢;refine⟨_,h5.head.one rfl,Hh ?_⟩;refine⟨_,hb5.one rfl,Hh ?_⟩;refine⟨_,hb5.one rfl,Hh ?_⟩;refine Qq Xd8 Q3l h5.added (Xb7 e) _ fun w6 hm6 ho6 => ?_
 replace hm6:MapAt w6 q.ba idV (Q7 (Xm Value.bool s.ad) (Xb7 e) (.bool true)):=hm6;rw[Q9] at hm6;have h6:=h5.addm ho6 hm6;have hba:col q.ba=7:=h5.cols.2.1;have hb6:=ho6.at_ hb5 (fun e'=>by rw[e'] at hc1;omega);have hg6:=hg5.only ho6 (Qj3 h5 (by decide) q.ba hba);have hM6:=hM5.trans (Qi ho6 (by show col q.ba≠0;omega));have hz6:w6.heap.size=w2.heap.size:=by rw[ho6.size,hz4]
 clear hm6 ho6 h5 hb5 hg5 hM5 hz4
 conv=>whnf
 refine Dr (.mods (fun k=>col k=9)) [0,1,2,3,4,5,6,7,8,9] [10] (Hh ?_);replace h6:=h6.ext (Ext.refl w6).drew;replace hg6:=hg6.ext (Ext.refl w6).drew;replace hb6:At w6.drew b1 _ _:=hb6;replace hM6:=hM6.trans (Mod.of_ext (Ext.refl w6).drew);replace hz6:w6.drew.heap.size=w2.heap.size:=hz6;generalize w6.drew=w7 at h6 hg6 hb6 hM6 hz6 ⊢;refine⟨_,⟨h6.head.one rfl,by rw[add_block];show ¬ col p=9;omega⟩,Hh ?_⟩;refine⟨evC e,⟨rfl,hb6.all,by show ¬ col b1=9;omega⟩,Hh ?_⟩;intro b8 w8 hn8;refine⟨Mod.of_ext hn8.ext,Hh ?_⟩;refine Qgl (l:=s.es) (news := [e]) (h6.evs.ext hn8.ext) (Qbd Xz hn8) (by simp;omega) (by omega) fun A9 c9 w9 hown9 hg9 hA9 => ?_
 have hAc:∀ k,A.map (·.block)=some k→col k=9:=fun k hk=>by
  cases A with
  | none=>simp at hk
  | some a=>have:=h6.cols.2.2.2 a rfl;simp at hk;rw[hk] at this;exact this
 refine⟨Qac hg9 hAc,Hh ?_⟩;have hp7:=h6.head.lt;have s8:=hn8.size;have hp9:At w9 p _ _:=(h6.head.ext hn8.ext).mod (Qac (S:=fun k=>col k=9) hg9 hAc) (by omega);refine Qd Qa (e:=ty23) rfl hp9 rfl rfl rfl (by simp[Qg,Value.oneCell']) fun w10 h10 ho10 => ?_
 have hz7:∀ k,w7.heap.size≤k→col k=0:=fun k hk=>hz k (by omega)
 obtain⟨col',h11,hz11,hc11⟩:=h6.push hz7 hn8.ext hg9 ho10 hown9 hA9 h10;have hb7:=hb6.lt;have hb11:At w10 b1 _ _:=ho10.at_ ((hb6.ext hn8.ext).mod (Qac (S:=fun k=>col k=9) hg9 hAc) (by omega)) hbp;have hM11:Mod (fun k=>col k≠0) w w10:=((hM6.trans (Mod.of_ext hn8.ext)).trans (Qac hg9 fun k hk=>by have:=hAc k hk;omega)).trans (Qi ho10 (by show col p≠0;omega));have hg11:=(((hg6.ext hn8.ext).mod (Qac (S:=fun k=>col k=9) hg9 hAc) (Qj3 h6 (by decide))).only ho10 (Qj3 h6 (by decide) p hp6));have hcw:∀ k,k<w.heap.size→col' k=col k:=fun k hk=>hc11 k (by omega)
 clear h6 hg6 hb6 hM6 hn8 hg9 hp9 h10 ho10 hown9 hA9 hAc hz7 hc11
 conv=>whnf
 refine⟨evC e,⟨rfl,hb11.all⟩,Hh ?_⟩;refine(Qzi w10 base p c hcf _ col' ⟨⟨q,A9,c9,h11⟩,hz11⟩ hg11 s.es hs hml e hm hr hl).mono ?_;rintro _ w12 ⟨rfl,col12,h12,hc12,hM12⟩
 conv=>whnf
 have hsz:=hM11.size;refine⟨rfl,col12,h12,fun k hk=>(hc12 k (by omega)).trans (hcw k hk),?_⟩
 exact⟨hM12.os.trans hM11.os,hM12.tape.trans hM11.tape,hM12.output.trans hM11.output,by have:=hM12.size;omega,fun k hk hc=>(hM12.block k (by omega) (by rw[hcw k hk];exact fun h=>hc (by show col k≠0;omega))).trans (hM11.block k hk hc)⟩
def Qcb (out:List Ev) (p:ByteArray):Bool:=out.any fun x=>decide (x.kind=14)&&decide (x.person=p)
def Qbv (out:List Ev) (e:Ev):Bool := !Qcb out e.person||decide (e.kind=14)
def Qem (out:List Ev):List Ev:=out.filter (Qbv out)
theorem Q3f {z out:List Ev} (h:z.Perm out) (p:ByteArray):Qcb z p=Qcb out p:=by
 unfold Qcb;rw[Bool.eq_iff_iff,List.any_eq_true,List.any_eq_true]
 exact⟨fun⟨x,hx,h1⟩=>⟨x,h.mem_iff.1 hx,h1⟩,fun⟨x,hx,h1⟩=>⟨x,h.mem_iff.2 hx,h1⟩⟩
theorem Qr3 (z:List Ev) (e:Ev) (p:ByteArray):Qcb (z ++ [e]) p=(Qcb z p||(decide (e.kind=14)&&decide (e.person=p))):=by
 simp[Qcb,List.any_append]
theorem Q80:Tryz.prog.underlying 139=some (.map 116 38):=by kernel_rfl
theorem Qq8 (a b:Ev):(decide (Qfz a b<0)||(decide (Qfz a b=0)&&bLt (Qi0 a) (Qi0 b)))=Qaw a b:=by
 rw[Qy6]
 by_cases h:Qfz a b=0
 · simp[h]
 · simp[h]
theorem Qux (x:List Ev) (A:Option Addr) (c:Nat) (w:World) (hs:SlE w A x) (hl:x.length<100000000000) :
 Cal Tryz.prog 54 [.slice A x.length c] w fun r w'=>∃ A' z,r = .slice A' z.length z.length∧z.Perm x∧Srt Qx z∧SlE w' A' z∧Ext w w'∧∀ a,A'=some a→w.heap.size≤a.block∧a.block<w'.heap.size:=by
 refine Fi Tryz.func54 rfl _ rfl rfl (Hh ?_);refine(Qza x A c w hs (by omega)).mono ?_;rintro _ w1 ⟨A1,c1,rfl,hown1,hx1⟩;conv=>whnf
 refine(Qmn x A1 c1 w.heap.size w1 x.length rfl hl hown1).mono ?_;rintro _ w2 ⟨rfl,z,hp,hz,hown2,hm2⟩;conv=>whnf
 have hzl:=hp.length_eq;have hle:=hown1.le;refine(Q2u A1 x.length c1 w2 hle).mono ?_;rintro _ _ ⟨rfl,rfl⟩;conv=>whnf
 refine⟨A1,z,by rw[hzl],hp,hz,hown2.sl Xz,Qzs hx1 hm2 fun a ha=>(hown1.block ha).1,fun a ha=>hown2.block ha⟩
set_option maxHeartbeats 1000000 in
theorem Q2d (l:List Ev) (A:Option Addr) (c:Nat) (w:World) (hg0:Gl w) (hs:SlE w A l) (hl:l.length<1000000) (hm:∀ e∈l,Xn e=true) :
 Cal Tryz.prog 26 [.slice A l.length c] w fun r w'=>∃ A' z,r = .slice A' z.length z.length∧z.Perm (Qem (Qc1 l))∧Srt Qx z∧SlE w' A' z∧Ext w w'∧∀ a,A'=some a→w.heap.size≤a.block∧a.block<w'.heap.size:=by
 refine Fi Tryz.func26 rfl _ rfl rfl (Hh ?_);intro b1 w1 hn1;conv=>whnf
 have e1:=hn1.block
 refine Qh Qa (fun(j:Nat) w'=>j≤l.length∧Ext w w'∧MapAt w' b1 idV (X3 (Qc1 (l.take j))))
  (fun j => [(3,.map (some b1)),(19,.slice A l.length c),(20,.int .i64 l.length),(21,.int .i64 j)]) (fun j=>l.length-j) 0 ⟨by omega,hn1.ext,by simpa [X3,Qc1] using MapAt.new hn1⟩ Rr ?_
 rintro j w3 ⟨hj,hx3,hm3⟩
 conv=>whnf
 constructor
 · intro hc2
   have hc2:j<l.length:=by simpa using hc2
   obtain⟨a2,rfl,hce⟩:=hs.get hc2;have hme:=hm l[j] (List.getElem_mem hc2);have htk:l.take (j+1)=l.take j ++ [l[j]]:=by rw[List.take_succ_eq_append_getElem hc2]
   generalize hel:l[j]=e at hce hme htk;have hfe:FOk e:=Q4g hme (Nat.lt_trans (Qfl hme) (by decide));have hmo:∀ x∈Qc1 (l.take j),Xn x=true:=fun x hx=>hm x (List.mem_of_mem_take (Qgu hx))
   have hnext:=Q72 (l.take j) e;rw[← htk] at hnext;generalize Qc1 (l.take j)=out at hm3 hmo hnext;have hstep:=Q0a (out:=out) (e:=e);rw[← hnext] at hstep
   obtain⟨old,hit,hlk,hold,hnone⟩:∃ old hit,(∀ w',MapAt w' b1 idV (X3 out)→RdS Tryz.prog .same w' (Instr.lookup 139 (.map (some b1)) (idV (idE e)) true) (.tuple #[evV old,.bool hit])) ∧
    (hit=true→out.find? (Qb7 e)=some old)∧(hit=false→out.find? (Qb7 e)=none):=by
    have hr:∀ w',MapAt w' b1 idV (X3 out)→_:=fun w' hm'=>Qsk (cl := .same) Q80 Q3l (e:=ty38) ty38_ok Qm hm' (idE e)
    rw[Qz9] at hr
    cases hf:out.find? (Qb7 e) with
    | none=>rw[hf] at hr;exact⟨evZ,false,hr,fun h=>(by cases h),fun _=>rfl⟩
    | some old=>rw[hf] at hr;exact⟨old,true,hr,fun _=>rfl,fun h=>(by cases h)⟩
   have hmold:(!hit||decide (Qfz e old<0))=false→Xn old=true:=fun h=>hmo old (List.mem_of_find?_eq_some (hold (by simp at h;exact h.1)))
   have b1lt:=hm3.lt
   conv=>whnf
   repeat(refine Sg ?_;(conv=>whnf))
   refine⟨a2,Ix,Hh ?_⟩;refine⟨evC e,⟨rfl,hx3.cells hce⟩,Hh ?_⟩;intro b4 w4 hn4;conv=>whnf
   have e4:=hn4.block;have s4:=hn4.size;refine Qd Qa (e:=ty38) rfl hn4.At rfl rfl rfl (by simp[Qg,evC,Value.oneCell']) fun w5 h5 ho5 => ?_
   have h5:At w5 b4 _ (evC e):=h5;have hm5:=(hm3.ext hn4.ext).only ho5 (by omega);have hx5:=ho5.ext (hx3.trans hn4.ext) (by have:=hx3.size;omega);have s5:=ho5.size
   conv=>whnf
   repeat (first | (refine⟨_,h5.one rfl,?_⟩;(conv=>whnf)) | (refine⟨_,And.symm ⟨h5.all,rfl⟩,?_⟩;(conv=>whnf)) | (refine⟨_,fun _=>h5.one rfl,?_⟩;(conv=>whnf)) | (refine⟨_,fun _=>And.symm ⟨h5.all,rfl⟩,?_⟩;(conv=>whnf)) | (refine⟨_,fun _ _=>h5.one rfl,?_⟩;(conv=>whnf)) | (refine⟨_,fun _ _=>And.symm ⟨h5.all,rfl⟩,?_⟩;(conv=>whnf)))
   intro b6 w6 hn6;conv=>whnf
   have e6:=hn6.block;have s6:=hn6.size;refine Qd Qa (e:=ty116) rfl hn6.At rfl rfl rfl (by simp[Qg,Value.oneCell']) fun w7 h7 ho7 => ?_
   have h7:At w7 b6 _ (idC (idE e)):=h7;have hm7:=(hm5.ext hn6.ext).only ho7 (by omega);have hx7:=ho7.ext (hx5.trans hn6.ext) (by have:=hx5.size;omega);have h57:=ho7.at_ (h5.ext hn6.ext) (by omega);have s7:=ho7.size
   conv=>whnf
   refine⟨idC (idE e),⟨rfl,h7.all⟩,Hh ?_⟩;refine⟨_,hlk w7 hm7,Hh ?_⟩;intro b8 w8 hn8;conv=>whnf
   have e8:=hn8.block;have s8:=hn8.size;refine Qd Qa (e:=ty38) rfl hn8.At rfl rfl rfl (by simp[Qg,evV,evC,Value.oneCell']) fun w9 h9 ho9 => ?_
   have h9:At w9 b8 _ (evC old):=h9;have hm9:=(hm7.ext hn8.ext).only ho9 (by omega);have hx9:=ho9.ext (hx7.trans hn8.ext) (by have:=hx7.size;omega);have h59:=ho9.at_ (h57.ext hn8.ext) (by omega);have h79:=ho9.at_ (h7.ext hn8.ext) (by omega)
   conv=>whnf
   refine⟨evC e,⟨rfl,h59.all⟩,Hh ?_⟩;refine⟨evC old,⟨rfl,h9.all⟩,Hh ?_⟩;refine(Qbb e old w9).mono ?_;rintro _ w10 ⟨rfl,hx10⟩;conv=>whnf
   refine Dr .ext [0,1,2,3,4,5,6,7,8,9,10,12,11] [13,14,15,16] (Hh ?_);replace hx10:=hx10.drew;generalize w10.drew=w11 at hx10 ⊢;replace hm9:=hm9.ext hx10;replace hx9:=hx9.trans hx10;replace h59:=h59.ext hx10;replace h79:=h79.ext hx10;replace h9:=h9.ext hx10;have hg11:=hg0.ext hx9;refine⟨evC e,fun _ _=>⟨rfl,h59.all⟩,Hh ?_⟩;refine⟨evC old,fun _ _=>⟨rfl,h9.all⟩,Hh ?_⟩;refine⟨Unit,fun _=>(.string (Qi0 e)),fun _ w'=>Ext w11 w',(),fun hg hg1=>((Qlp e w11 hg11 hme hfe)).mono fun r w' h=>⟨(),h.1,h.2⟩,?_⟩;intro _ w12 h2
   have hx12:Ext w11 w12:=by
    rcases h2 with⟨_,h⟩ | ⟨_,h⟩
    · exact h
    · rw[h];exact Ext.refl _
   clear h2;refine⟨hx12,?_⟩
   conv=>whnf
   refine⟨Unit,fun _=>(.string (Qi0 old)),fun _ w'=>Ext w12 w',(),fun hg hg1=>((Qlp old w12 (hg11.ext hx12) (hmold hg1) (Q4g (hmold hg1) (Nat.lt_trans (Qfl (hmold hg1)) (by decide))))).mono fun r w' h=>⟨(),h.1,h.2⟩,?_⟩;intro _ w13 h2
   have hx13:Ext w12 w13:=by
    rcases h2 with⟨_,h⟩ | ⟨_,h⟩
    · exact h
    · rw[h];exact Ext.refl _
   clear h2
   conv=>whnf
   have hm13:=(hm9.ext hx12).ext hx13;have hx13':=(hx9.trans hx12).trans hx13;constructor
   · intro hc3
     have hc3:((!hit||decide (Qfz e old<0))||(decide (Qfz e old=0)&&bLt (Qi0 e) (Qi0 old)))=true:=hc3;rw[Bool.or_assoc,Qq8] at hc3
     conv=>whnf
     refine⟨idC (idE e),⟨rfl,((h79.ext hx12).ext hx13).all⟩,Hh ?_⟩;refine⟨evC e,⟨rfl,((h59.ext hx12).ext hx13).all⟩,Hh ?_⟩;refine Qq Q80 Q3l hm13 (idE e) _ fun w14 hm14 ho14 => ?_
     conv=>whnf
     have hm14:MapAt w14 b1 idV (Q7 (X3 out) (idE e) (evV e)):=hm14
     have hL:Q7 (X3 out) (idE e) (evV e)=X3 (Qc1 (l.take (j+1))):=by
      cases hh:hit
      · exact hstep.1 (hnone hh)
      · rw[hh] at hc3
        exact hstep.2.1 old (hold hh) (by simpa using hc3)
     rw[hL] at hm14;refine⟨_,wrap_succ (by omega),Hh ?_⟩
     exact⟨j+1,by omega,⟨by omega,ho14.ext hx13' (by omega),hm14⟩,Rr⟩
   · intro hc3
     have hc3:((!hit||decide (Qfz e old<0))||(decide (Qfz e old=0)&&bLt (Qi0 e) (Qi0 old)))=false:=hc3;rw[Bool.or_assoc,Qq8] at hc3
     conv=>whnf
     have hL:X3 out=X3 (Qc1 (l.take (j+1))):=by
      cases hh:hit
      · rw[hh] at hc3;simp at hc3
      · rw[hh] at hc3
        exact hstep.2.2 old (hold hh) (by simpa using hc3)
     rw[hL] at hm13;refine⟨_,wrap_succ (by omega),Hh ?_⟩
     exact⟨j+1,by omega,⟨by omega,hx13',hm13⟩,Rr⟩
 · intro hc
   have hc:l.length≤j:=by simpa using hc
   rw[List.take_of_length_le hc] at hm3;generalize hou:Qc1 l=out at hm3;have hol:out.length<1000000:=by have:=Qx5 l;rw[hou] at this;omega
   clear hs hm hc hj
   conv=>whnf
   intro b4 w4 hn4;conv=>whnf
   have e4:=hn4.block;have b1lt:=hm3.lt;have hx4:=hx3.trans hn4.ext;have hm4:=hm3.ext hn4.ext;have hb4:MapAt w4 b4 Value.string []:=MapAt.new hn4;have h14:b1≠b4:=by omega
   have hb4w:w.heap.size≤b4:=by have:=hx3.size;omega
   clear hx3 hm3 hn4 hn1;refine map_range Q80 hm4 fun w5 hi5 hx5 => ?_
   generalize hr:w4.heap.size=r at hi5;have hrw:w.heap.size≤r:=by rw[← hr];exact hx4.size
   have hb4r:b4<r:=by rw[← hr];exact hb4.lt
   conv=>whnf
   refine Qh Qa (fun(i:List Ev×List (ByteArray×Bool)) w'=>Ext w w'∧Iter w' r b1 idV (X3 out) (X3 i.1)∧MapAt w' b4 Value.string (Xm Value.bool i.2)∧∀ p,(Qe i.2 p).getD false=Qcb i.1 p)
    (fun i => [(3,.map (some b1)),(62,.pointer (some ⟨r,0,none⟩)),(10,.map (some b4))]) (fun i=>out.length-i.1.length) ([],[]) ⟨hx4.trans hx5,hi5,hb4.ext hx5,fun p=>rfl⟩ Rr ?_
   rintro ⟨z,G⟩ w6 ⟨hx6,hi6,hG6,hgo⟩;simp only at hi6 hG6 hgo
   conv=>whnf
   refine Qeb hi6 (fun hp => ?_) (fun x w7 hin hnew hlt hi7 ho7 hen => ?_)
   · have hp:=Qn9 hp
     conv=>whnf
     constructor
     · intro h;cases h
     intro _;have hgo:∀ p,(Qe G p).getD false=Qcb out p:=fun p=>(hgo p).trans (Q3f hp p)
     have hm6:=hi6.map;clear hi6 hp hm4 hb4 hi5 hx5 hx4;clear hr hrw hb4r
     conv=>whnf
     refine map_range Q80 hm6 fun w7 hi7 hx7 => ?_
     generalize hr:w6.heap.size=r2 at hi7;have hrw:w.heap.size≤r2:=by rw[← hr];exact hx6.size
     have hb4r:b4<r2:=by rw[← hr];exact hG6.lt
     conv=>whnf
     refine Qh Qa (fun(i:List Ev×Option Addr×Nat) w'=>Ext w w'∧Iter w' r2 b1 idV (X3 out) (X3 i.1)∧MapAt w' b4 Value.string (Xm Value.bool G)∧Own evC 8 38 w.heap.size w' i.2.1 i.2.2 (i.1.filter (Qbv out))∧(∀ a,i.2.1=some a→a.block≠r2∧a.block≠b1∧a.block≠b4))
      (fun i => [(74,.pointer (some ⟨r2,0,none⟩)),(10,.map (some b4)),(13,.slice i.2.1 (i.1.filter (Qbv out)).length i.2.2)]) (fun i=>out.length-i.1.length) ([],none,0) ⟨hx6.trans hx7,hi7,hG6.ext hx7,Own.nil,by simp⟩ Rr ?_
     clear hi7 hx7 hx6 hm6 hG6 hr;rintro ⟨z,A3,c3⟩ w4 ⟨hx4,hi4,hG4,hown4,hne4⟩;simp only at hi4 hown4 hne4
     conv=>whnf
     refine Qeb hi4 (fun hp => ?_) (fun x w5 hin hnew hlt hi5 ho5 hen => ?_)
     · have hp:=Qn9 hp
       conv=>whnf
       constructor
       · intro h;cases h
       · intro _;conv=>whnf
         refine(Qux (z.filter (Qbv out)) A3 c3 w4 (hown4.sl Xz) (by have:=hp.length_eq;have:=List.length_filter_le (Qbv out) z;omega)).mono ?_;rintro _ w5 ⟨A5,z5,rfl,hp5,hs5,hsl5,hx5,hn5⟩
         conv=>whnf
         exact⟨A5,z5,rfl,hp5.trans (hp.filter _),hs5,hsl5,hx4.trans hx5,fun a ha=>⟨Nat.le_trans hx4.size (hn5 a ha).1,(hn5 a ha).2⟩⟩
     · obtain⟨e,he,rfl⟩:=List.mem_map.1 hin
       have hlt:z.length<out.length:=by simpa [X3] using hlt
       have r5:=hi5.lt;have b5:=hi5.map.lt;have hx5:=ho5.ext hx4 hrw;have hG5:=hG4.only ho5 (by omega);have g5:=hG5.lt;have hown5:=hown4.keep fun a ha=>ho5.block _ (hne4 a ha).1
       have hsn:(z ++ [e]).filter (Qbv out)=z.filter (Qbv out)++if Qbv out e then [e] else []:=by rw[List.filter_append];simp[List.filter_cons]
       have hfl:=List.length_filter_le (Qbv out) z
       conv=>whnf
       repeat(refine Sg ?_;(conv=>whnf))
       constructor
       · intro _;conv=>whnf
         repeat(refine Sg ?_;(conv=>whnf))
         refine Qat (hen w5 rfl rfl) ?_
         conv=>whnf
         intro b6 w6 hn6;conv=>whnf
         have e6:=hn6.block;have s6:=hn6.size;refine Qd Qa (e:=ty38) rfl hn6.At rfl rfl rfl (by simp[Qg,evV,evC,Value.oneCell']) fun w7 h7 ho7 => ?_
         have h7:At w7 b6 _ (evC e):=h7;have hi7:=(hi5.ext hn6.ext).keep (ho7.block b1 (by omega)) (ho7.block r2 (by omega));have hx7:=ho7.ext (hx5.trans hn6.ext) (by have:=hx5.size;omega);have hG7:=(hG5.ext hn6.ext).only ho7 (by omega);have hown7:=(hown5.ext hn6.ext).keep fun a ha=>ho7.block _ (by have:=(hown5.block ha).2;omega)
         conv=>whnf
         refine⟨_,h7.one rfl,Hh ?_⟩;have hlk:=X7 (cl := .same) Qna (Qo Xc) (e:=ty4) ty4_ok Qm hG7 e.person
         have hlv:(Qe (Xm Value.bool G) e.person).getD ty4.zero = .bool (Qcb out e.person):=by
          rw[show ty4.zero=Value.bool false from rfl,Xq,hgo]
         rw[hlv] at hlk;refine⟨_,hlk,Hh ?_⟩
         repeat (first | (refine⟨_,h7.one rfl,?_⟩;(conv=>whnf)) | (refine⟨_,And.symm ⟨h7.all,rfl⟩,?_⟩;(conv=>whnf)) | (refine⟨_,fun _=>h7.one rfl,?_⟩;(conv=>whnf)) | (refine⟨_,fun _=>And.symm ⟨h7.all,rfl⟩,?_⟩;(conv=>whnf)) | (refine⟨_,fun _ _=>h7.one rfl,?_⟩;(conv=>whnf)) | (refine⟨_,fun _ _=>And.symm ⟨h7.all,rfl⟩,?_⟩;(conv=>whnf)))
         constructor
         · intro hk
           have hk:Qbv out e=true:=hk;rw[hk] at hsn
           conv=>whnf
           refine⟨evC e,⟨rfl,h7.all⟩,Hh ?_⟩;intro b8 w8 hn8;conv=>whnf
           have hx8:=hx7.trans hn8.ext;have hi8:=hi7.ext hn8.ext;have hG8:=hG7.ext hn8.ext;refine Qgl (l:=z.filter (Qbv out)) (news := [e]) (hown7.ext hn8.ext) (Qbd Xz hn8) (by simp;omega) hx8.size fun A9 c9 w9 hown9 hg9 hA9 => ?_
           conv=>whnf
           have r8:=hi8.lt;have m8:=hi8.map.lt;have g8:=hG8.lt
           have hA3:∀ k,A3.map (·.block)=some k→k≠r2∧k≠b1∧k≠b4:=fun k hk=>by
            cases A3 with
            | none=>simp at hk
            | some a=>have:=hne4 a rfl;simp at hk;subst hk;exact this
           have hi9:=hi8.keep (hg9.block b1 m8 (fun e'=>(hA3 _ e'.symm).2.1 rfl)) (hg9.block r2 r8 (fun e'=>(hA3 _ e'.symm).1 rfl));have hG9:=hG8.keep (hg9.block b4 g8 (fun e'=>(hA3 _ e'.symm).2.2 rfl));refine⟨(z ++ [e],A9,c9),by simp;omega,⟨Qr hx8 hg9 fun k hk=>Q9f hown4 k hk,by simpa [X3] using hi9,hG9,by rw[hsn];exact hown9,fun a ha => ?_⟩,⟨rfl,rfl,by rw[hsn];rfl,trivial⟩⟩;have ha:A9=some a:=ha;rcases hA9 with h | h | h
           · exact hne4 a (by rw[← h];exact ha)
           · rw[ha] at h
             exact hA3 a.block h.symm
           · rw[ha] at h
             simp at h
             omega
         · intro hk
           have hk:Qbv out e=false:=hk;rw[hk] at hsn;simp only[Bool.false_eq_true,if_false,List.append_nil] at hsn
           conv=>whnf
           exact⟨(z ++ [e],A3,c3),by simp;omega,⟨hx7,by simpa [X3] using hi7,hG7,by rw[hsn];exact hown7,hne4⟩,⟨rfl,rfl,by rw[hsn];rfl,trivial⟩⟩
       · intro h;cases h
   · obtain⟨e,he,rfl⟩:=List.mem_map.1 hin
     have hlt:z.length<out.length:=by simpa [X3] using hlt
     have r7:=hi7.lt;have m7:=hi7.map.lt;have hx7:=ho7.ext hx6 hrw;have hG7:=hG6.only ho7 (by omega);have g7:=hG7.lt
     conv=>whnf
     repeat(refine Sg ?_;(conv=>whnf))
     constructor
     · intro _;conv=>whnf
       repeat(refine Sg ?_;(conv=>whnf))
       refine Qat (hen w7 rfl rfl) ?_
       conv=>whnf
       intro b8 w8 hn8;conv=>whnf
       have e8:=hn8.block;have s8:=hn8.size;refine Qd Qa (e:=ty38) rfl hn8.At rfl rfl rfl (by simp[Qg,evV,evC,Value.oneCell']) fun w9 h9 ho9 => ?_
       have h9:At w9 b8 _ (evC e):=h9;have hi9:=(hi7.ext hn8.ext).keep (ho9.block b1 (by omega)) (ho9.block r (by omega));have hx9:=ho9.ext (hx7.trans hn8.ext) (by have:=hx7.size;omega);have hG9:=(hG7.ext hn8.ext).only ho9 (by omega)
       conv=>whnf
       refine⟨_,h9.one rfl,Hh ?_⟩;constructor
       · intro hk
         have hk:e.kind=14:=by simpa using hk
         conv=>whnf
         refine⟨_,h9.one rfl,Hh ?_⟩;refine Qq Qna (Qo Xc) hG9 e.person _ fun w10 hG10 ho10 => ?_
         rw[Q9] at hG10
         conv=>whnf
         have hi10:=hi9.keep (ho10.block b1 h14) (ho10.block r (by omega));refine⟨(z ++ [e],Q7 G e.person true),by simp;omega,⟨ho10.ext hx9 hb4w,by simpa [X3] using hi10,hG10,fun p => ?_⟩,Rr⟩;simp only;rw[Xg,Qr3,← hgo p,hk]
         by_cases hpe:p=e.person
         · simp[hpe]
         · rw[if_neg hpe]
           simp[Ne.symm hpe]
       · intro hk
         have hk:¬ e.kind=14:=by simpa using hk
         conv=>whnf
         refine⟨(z ++ [e],G),by simp;omega,⟨hx9,by simpa [X3] using hi9,hG9,fun p => ?_⟩,Rr⟩;simp only;rw[Qr3,← hgo p]
         simp[hk]
     · intro h;cases h
def Qbg (l:List Ev):List Ev:=(Qem (Qc1 l)).mergeSort fun a b => !Qx b a
theorem Q32 (a b c:Ev) (h1:(!Qx b a)=true) (h2:(!Qx c b)=true):(!Qx c a)=true:=by
 simp only[Bool.not_eq_true'] at *
 exact Qad.trans a b c h1 h2
theorem Q31 (a b:Ev):((!Qx b a)||(!Qx a b))=true:=by
 cases h:Qx b a
 · rfl
 · rw[Qad.asymm _ _ h];rfl
theorem Qfx (l:List Ev):(Qbg l).Perm (Qem (Qc1 l)):=List.mergeSort_perm _ _
theorem Qw5 (l:List Ev):Srt Qx (Qbg l):=by
 have:=List.pairwise_mergeSort (le:=fun a b => !Qx b a) Q32 Q31 (Qem (Qc1 l))
 exact this.imp fun h=>by simpa using h
theorem Qps (out:List Ev):(Qem out).Sublist out:=List.filter_sublist
theorem Qxp {l:List Ev} (h:∀ x∈l,Xn x=true):(Qem (Qc1 l)).Pairwise (fun a b=>idE a≠idE b):=(Qqa h).ids.sublist (Qps _)
theorem Q9y {l z:List Ev} (h:∀ x∈l,Xn x=true) (hp:z.Perm (Qem (Qc1 l))) (hs:Srt Qx z):z=Qbg l :=
 Q09 (hp.trans (Qfx l).symm) (Qxj hp (Qxp h)) hs (Qw5 l)
theorem Q6y {l:List Ev} (h:∀ x∈l,Xn x=true):(Qbg l).Pairwise (fun a b=>idE a≠idE b):=Qxj (Qfx l) (Qxp h)
theorem Qko {l:List Ev} {x:Ev} (h:x∈Qbg l):x∈l:=Qgu ((Qps _).subset ((Qfx l).subset h))
theorem Qkn (l:List Ev):(Qbg l).length≤l.length:=by
 have h1:=(Qfx l).length_eq;have h2:=(Qps (Qc1 l)).length_le;have h3:=Qx5 l;omega
theorem Qhu {l:List Ev} (h:∀ x∈l,Xn x=true):Rise (Qbg l):=by
 have h1:=Qw5 l;have h2:=Q6y h;unfold Rise Srt at *;refine(h1.and h2).imp fun {a b} ⟨hs,hi⟩ => ?_
 cases hl:Qx a b
 · obtain⟨_,e2,e3⟩:=Qey hl hs
   exact absurd (by unfold idE;rw[e2,e3]) hi
 · rfl
def stepW (width:Int) (s:WS) (e:Ev):WS:=if e.kind=14 then { Qya width s e with fg:=Q7 s.fg e.person true } else Qya width s e
def ofW (width:Int) (z:List Ev):WS:=z.foldl (stepW width) WS0
theorem Qx3 (width:Int) (z:List Ev) (e:Ev):ofW width (z ++ [e])=stepW width (ofW width z) e:=by simp[ofW]
theorem Q4q (width:Int) (z:List Ev):(ofW width z).es=z∧(ofW width z).ct=Ql width z:=by
 induction z using Qu with
 | h0=>exact⟨rfl,rfl⟩
 | h1 l a ih =>
   rw[Qx3,Qbh,← ih.2];unfold stepW
   split <;> simp[Qya,ih.1]
theorem Qiu {α:Type} (z:List α) (k:Nat) (h:k<z.length):z.take (k+1)=z.take k ++ [z[k]]:=by rw[List.take_succ_eq_append_getElem h]
theorem Q48 {z:List Ev} (h:Rise z) (k:Nat):Rise (z.take k):=h.sublist (List.take_sublist k z)
set_option maxHeartbeats 1000000 in
theorem Q82 (c:Cfg) (hcf:Qt3 c=true) (l:List Ev) (A:Option Addr) (cap:Nat) (w:World) (hg0:Gl w) (hs:SlE w A l) (hl:l.length<1000000) (hm:∀ e∈l,Xn e=true) :
 Cal Tryz.prog 9 [Xb4 c,.slice A l.length cap] w fun r w'=>∃ p,r = .tuple #[.pointer (some ⟨p,0,none⟩),.int .i64 0]∧Qeg w' w.heap.size p c (ofW c.width (Qbg l))∧Ext w w':=by
 refine Fi Tryz.func9 rfl _ rfl rfl (Hh ?_);intro b1 w1 hn1;conv=>whnf
 refine⟨Qt4 c,⟨rfl,hn1.At.all⟩,Hh ?_⟩;refine(Qiz c w1 (by have:=hg0.size;have:=hn1.size;omega) hcf).mono ?_;rintro _ w2 ⟨p,rfl,hW2,hx2⟩;conv=>whnf
 refine⟨fun h=>(by simp at h),fun _ => ?_⟩;have hx:=hn1.ext.trans hx2;have s1:=hn1.size;obtain⟨col2,hC2⟩:=hW2.col;clear hW2 hn1 hx2
 conv=>whnf
 refine Qh Qa (fun(j:Nat) w'=>j≤l.length∧Ext w2 w')
  (fun j => [(1,.slice A l.length cap),(6,.pointer (some ⟨p,0,none⟩)),(21,.slice A l.length cap),(22,.int .i64 l.length),(23,.int .i64 j)]) (fun j=>l.length-j) 0 ⟨by omega,Ext.refl _⟩ Rr ?_
 rintro j w3 ⟨hj,hx3⟩
 conv=>whnf
 constructor
 · intro hc
   have hc:j<l.length:=by simpa using hc
   obtain⟨a2,rfl,hce⟩:=hs.get hc;have hme:=hm l[j] (List.getElem_mem hc);generalize l[j]=e at hce hme
   conv=>whnf
   refine⟨a2,Ix,Hh ?_⟩;refine⟨evC e,⟨rfl,(hx.trans hx3).cells hce⟩,Hh ?_⟩;intro b4 w4 hn4;conv=>whnf
   have e4:=hn4.block;refine Qd Qa (e:=ty38) rfl hn4.At rfl rfl rfl (by simp[Qg,evC,Value.oneCell']) fun w5 h5 ho5 => ?_
   have h5:At w5 b4 _ (evC e):=h5;have hx5:=ho5.ext (hx3.trans hn4.ext) (by have:=hx3.size;omega)
   conv=>whnf
   refine⟨evC e,⟨rfl,h5.all⟩,Hh ?_⟩;refine(Qkv e w5 (hg0.ext (hx.trans hx5)) (Nat.lt_trans (Qfl hme) (by decide))).mono ?_;rintro _ w6 ⟨rfl,hx6⟩;rw[hme]
   conv=>whnf
   refine⟨fun h=>(by simp at h),fun _ => ?_⟩
   conv=>whnf
   refine⟨_,wrap_succ (by omega),Hh ?_⟩
   exact⟨j+1,by omega,⟨by omega,hx5.trans hx6⟩,Rr⟩
 · intro _
   have hx':=hx.trans hx3
   conv=>whnf
   refine(Q2d l A cap w3 (hg0.ext hx') (hs.ext hx') hl hm).mono ?_;rintro _ w4 ⟨A4,z,rfl,hp4,hs4,hsl4,hx4,hn4⟩;have hz:=Q9y hm hp4 hs4;have hzl:=Qkn l;have hri:=Qhu hm;have hzm:∀ x∈Qbg l,Xn x=true:=fun x hx=>hm x (Qko hx)
   rw[← hz] at hri hzm hzl ⊢;clear hp4 hs4 hz;have hC4:=(hC2.ext hx3).ext hx4;have hcA:∀ a,A4=some a→col2 a.block=0:=fun a ha=>hC2.2 _ (by have:=(hn4 a ha).1;have:=hx3.size;omega)
   have hg4:=hg0.ext (hx'.trans hx4);have hxw:=hx'.trans hx4;have hbase:w.heap.size≤w1.heap.size:=by omega
   conv=>whnf
   refine⟨fun h=>(by simp at h;omega),fun _ => ?_⟩
   conv=>whnf
   refine Qh Qa (fun(i:Nat) w'=>i≤z.length∧Ext w w'∧SlE w' A4 z∧∃ col,Qfw w' w1.heap.size p c (ofW c.width (z.take i)) col∧∀ a,A4=some a→col a.block=0∧a.block<w'.heap.size)
    (fun i => [(6,.pointer (some ⟨p,0,none⟩)),(36,.slice A4 z.length z.length),(37,.int .i64 z.length),(38,.int .i64 i)]) (fun i=>z.length-i) 0
    ⟨by omega,hxw,hsl4,col2,hC4,fun a ha=>⟨hcA a ha,(hn4 a ha).2⟩⟩ Rr ?_
   clear hsl4 hC4 hcA hg4 hxw hx4 hn4 hC2 hx3 hx' hx hj hs;rintro i w5 ⟨hi,hx5,hsl5,col,hC5,hA5⟩
   conv=>whnf
   constructor
   · intro hc
     have hc:i<z.length:=by simpa using hc
     obtain⟨a2,rfl,hce⟩:=hsl5.get hc;have hme:=hzm z[i] (List.getElem_mem hc);have htk:=Qiu z i hc;have hri1:=Q48 hri (i+1);rw[htk] at hri1;generalize z[i]=e at hce hme htk hri1;have hof:=Q4q c.width (z.take i);have hnx:=Qx3 c.width (z.take i) e;rw[← htk] at hnx;have htl:(z.take i).length=i:=by rw[List.length_take];omega
     generalize hss:ofW c.width (z.take i)=s at hC5 hof hnx
     conv=>whnf
     repeat(refine Sg ?_;(conv=>whnf))
     refine⟨a2,Ix,Hh ?_⟩;refine⟨evC e,⟨rfl,hce⟩,Hh ?_⟩;intro b6 w6 hn6;conv=>whnf
     have e6:=hn6.block;have s6:=hn6.size;refine Qd Qa (e:=ty38) rfl hn6.At rfl rfl rfl (by simp[Qg,evC,Value.oneCell']) fun w7 h7 ho7 => ?_
     have h7:At w7 b6 _ (evC e):=h7;have s7:=ho7.size;have hx57:Ext w5 w7:=ho7.ext hn6.ext (by omega);have hC7:=hC5.ext hx57;have hx7:=hx5.trans hx57;have hcb:col b6=0:=hC5.2 b6 (by omega)
     conv=>whnf
     refine⟨evC e,⟨rfl,h7.all⟩,Hh ?_⟩;refine(Q8a w7 w1.heap.size p c hcf s col hC7 (hg0.ext hx7) (by rw[hof.2,hof.1]) (by rw[hof.1];exact fun x hx=>hzm x (List.mem_of_mem_take hx)) e hme (by rw[hof.1];exact hri1) (by rw[hof.1,htl];omega)).mono ?_;rintro _ w8 ⟨rfl,col8,hC8,hc8,hM8⟩;have h8:=h7.mod hM8 (by simp[hcb]);have s8:=hM8.size
     have hlow:∀ k,col k≠0→w.heap.size≤k:=fun k hk=>by
      obtain⟨q,A',cap',hL⟩:=hC7.1;have:=hL.low.2 k hk;omega
     have hx8:Ext w w8:=Qfc hx7 hM8 hlow
     have hsl8:SlE w8 (some a2) z:=Q5r (hsl5.ext hx57) fun a' ha'=>by
      have:=hA5 a' ha'
      exact hM8.block _ (by omega) (by simp[this.1])
     have hA8:∀ a,some a2=some a→col8 a.block=0∧a.block<w8.heap.size:=fun a ha=>by
      have:=hA5 a ha
      exact⟨(hc8 _ (by omega)).trans this.1,by omega⟩
     have hcb8:col8 b6=0:=(hc8 b6 h7.lt).trans hcb;clear hM8 hC7 hx57 h7 hn6 ho7 hce hsl5 hA5 hC5
     conv=>whnf
     refine⟨_,h8.one rfl,Hh ?_⟩;constructor
     · intro hk
       have hk:e.kind=14:=by simpa using hk
       have hst:stepW c.width s e={ Qya c.width s e with fg:=Q7 s.fg e.person true }:=if_pos hk;rw[hst] at hnx;obtain⟨⟨q,A',cap',hL8⟩,hz8⟩:=hC8
       conv=>whnf
       refine Dr .same [0,1,2,3,4,5] [6] (Hh ?_);replace hL8:=hL8.ext (Ext.refl w8).drew;replace h8:At w8.drew b6 _ _:=h8;replace hx8:=hx8.drew;replace hsl8:=hsl8.ext (Ext.refl w8).drew;have hs9:w8.drew.heap.size=w8.heap.size:=rfl;generalize w8.drew=w9 at hL8 h8 hx8 hsl8 hs9 ⊢;refine⟨_,hL8.head.one rfl,Hh ?_⟩;refine⟨_,h8.one rfl,Hh ?_⟩;refine Qq Qna (Qo Xc) hL8.forg e.person _ fun w10 hm10 ho10 => ?_
       rw[Q9] at hm10;have hL10:=hL8.forgm ho10 hm10;have hbf:col8 q.bf=8:=hL8.cols.2.2.1;have s10:=ho10.size
       conv=>whnf
       refine⟨_,wrap_succ (by omega),Hh ?_⟩;refine⟨i+1,by omega,⟨by omega,ho10.ext hx8 (by have:=hL8.low.2 q.bf (by omega);omega),Q5r hsl8 (fun a ha=>ho10.block _ (fun e'=>by have:=(hA8 a ha).1;rw[e'] at this;omega)),col8,?_,fun a ha=>⟨(hA8 a ha).1,by have:=(hA8 a ha).2;omega⟩⟩,Rr⟩;rw[hnx]
       exact⟨⟨q,A',cap',hL10⟩,fun k hk=>hz8 k (by omega)⟩
     · intro hk
       have hk:¬ e.kind=14:=by simpa using hk
       have hst:stepW c.width s e=Qya c.width s e:=if_neg hk;rw[hst] at hnx
       conv=>whnf
       refine⟨_,wrap_succ (by omega),Hh ?_⟩;refine⟨i+1,by omega,⟨by omega,hx8,hsl8,col8,?_,hA8⟩,Rr⟩;rw[hnx];exact hC8
   · intro hc
     have hc:z.length≤i:=by simpa using hc
     rw[List.take_of_length_le hc] at hC5
     conv=>whnf
     refine⟨p,rfl,?_,hx5⟩;obtain⟨q,A',cap',hL⟩:=hC5.1
     exact⟨col,q,A',cap',⟨by have:=hg0.size;omega,fun k hk=>by have:=hL.low.2 k hk;omega⟩,hL.head,hL.cols,hL.added,hL.forg,hL.evs,hL.cts⟩
end Go.Proofs.YtohkipkjleldpaaGreatDoor
