/- Several texts in one: Wo8, Wo9, Wo10, Wo11, Wo12, Wo13, Wo14, Wo15, Wo16, Wo17, Wo18. -/
import Derived.Test.YtdahooejkjcjiaaGreatDoorGD
import Derived.Test.YtdahooejkjcjiaaGreatDoorGC
import Derived.Test.YtdahooejkjcjiaaGreatDoorGB
set_option linter.unusedVariables false
set_option linter.unusedSimpArgs false
namespace Go.Proofs.YtdahooejkjcjiaaGreatDoor
open Go.Se Go.RowKit
def Q0e (w:World) (S:Nat→Prop) (b:Nat) (m:List (Int×Int)):Prop:=S b∧MapAt w b vi (Qav vi m)
theorem Qam:Local Q0e where
 keep h hk:=⟨(hk _ h.2.lt h.1).2,h.2.keep (hk _ h.2.lt h.1).1⟩
 lt h:=⟨h.2.lt,h.1⟩
abbrev Qkm:=List (ByteArray×List (Int×Int))
def Qoh (s:Qkm) (key:ByteArray) (t n:Int):Qkm:=if n=0 then s else Xn s key (Xn ((Qd s key).getD []) t ((Qd ((Qd s key).getD []) t).getD 0+n))
def Qd7 (s:Qkm) (N:Int):Prop:=∀ k t,0≤(Qd ((Qd s k).getD []) t).getD 0∧(Qd ((Qd s k).getD []) t).getD 0≤N
theorem Qy2 {s:Qkm} {N:Int} (h:Qd7 s N) (key:ByteArray) (t n:Int) (h0:0≤n):Qd7 (Qoh s key t n) (N+n):=by
 intro k t';unfold Qoh;have hk:=h k t';have hkey:=h key t
 by_cases hn:n=0
 · rw[if_pos hn];omega
 · rw[if_neg hn,X8]
   by_cases e:k=key
   · subst e
     rw[if_pos rfl];simp only[Option.getD_some,X8]
     by_cases e2:t'=t
     · rw[if_pos e2];simp only[Option.getD_some];omega
     · rw[if_neg e2];omega
   · rw[if_neg e];omega
structure CtL (w:World) (S:Nat→Prop) (p:Nat) (half n:Int) (s:Qkm) (bm:Nat):Prop where
 mine:S p
 head:At w p 118 [vi half,vi n,.map (some bm)]
 sums:MapOf Value.string Q0e w (fun k=>S k∧k≠p) bm s
def Qoz (w:World) (S:Nat→Prop) (p:Nat) (half n:Int) (s:Qkm):Prop:=∃ bm,CtL w S p half n s bm
theorem Qoz.keep {w w1:World} {S S':Nat→Prop} {p:Nat} {half n:Int} {s:Qkm} (h:Qoz w S p half n s) (hk:∀ k,k<w.heap.size→S k→w1.heap[k]? = w.heap[k]? ∧ S' k):Qoz w1 S' p half n s:=by
 obtain⟨bm,h⟩:=h;refine⟨bm,(hk p h.head.lt h.mine).2,(hk p h.head.lt h.mine).1.trans h.head,h.sums.keep Qam fun k hk1 hk2 => ?_⟩;obtain⟨q1,q2⟩:=hk k hk1 hk2.1
 exact⟨q1,q2,hk2.2⟩
theorem Qtu (half:Int) (w:World):Cal Tryz.prog 69 [.int .i64 half] w fun r w'=>∃ p,r = .pointer (some ⟨p,0,none⟩)∧Qoz w' (fun k=>w.heap.size≤k) p (Qw half) 0 []∧Ext w w':=by
 refine Fi Tryz.func69 rfl _ rfl rfl ?_;conv=>whnf
 intro b1 w1 hn1;conv=>whnf
 intro b2 w2 hn2;conv=>whnf
 have e1:=hn1.block;have e2:=hn2.block;have s1:=hn1.size;refine⟨b2,rfl,⟨b1,by omega,hn2.At,?_⟩,hn1.ext.trans hn2.ext⟩
 exact(MapOf.new (S:=fun k=>w.heap.size≤k∧k≠b2) hn1 ⟨by omega,by omega⟩).keep Qam fun k hk hs=>⟨hn2.ext.block k hk,hs⟩
theorem Q5w:Tryz.prog.underlying 116=some (.map 9 115):=by kernel_rfl
theorem Qz2:Tryz.prog.underlying 115=some (.map 3 2):=by kernel_rfl
theorem Q8o:Tryz.prog.underlying 3=some (.int .i64):=by kernel_rfl
theorem Qtv (w:World) (S:Nat→Prop) (p:Nat) (half n:Int) (s:Qkm) (h:Qoz w S p half n s) (key:ByteArray) (t x N:Int) (hN:Qd7 s N) (hNb:N<1000000000000000) (hx0:0≤x∧x<1000000000000000) :
 Cal Tryz.prog 202 [.pointer (some ⟨p,0,none⟩),.string key,.int .i64 t,.int .i64 x] w fun r w'=>r = .tuple #[]∧Qoz w' (Grow S w) p half n (Qoh s key t x)∧Mod S w w':=by
 obtain⟨bm,h⟩:=h;have hplt:=h.head.lt;refine Fi Tryz.func202 rfl _ rfl rfl ?_;conv=>whnf
 constructor
 · intro hz
   have hz:x=0:=by simpa using hz
   conv=>whnf
   refine⟨rfl,?_,Mod.refl _ _⟩;unfold Qoh;rw[if_pos hz]
   exact Qoz.keep ⟨bm,h⟩ fun k _ hs=>⟨rfl,.inl hs⟩
 intro hz;have hz:¬ x=0:=by simpa using hz
 conv=>whnf
 refine Xk Qa (ι:=Qkm) (fun _ => [(0,.pointer (some ⟨p,0,none⟩)),(1,.string key),(2,.int .i64 t),(3,.int .i64 x)])
  (fun s1 w'=>(∃ m1,Qd s1 key=some m1∧m1=(Qd s key).getD [])∧(∀ v,Xn s1 key v=Xn s key v)∧MapOf Value.string Q0e w' (fun k=>Grow S w k∧k≠p) bm s1∧At w' p 118 [vi half,vi n,.map (some bm)]∧Mod S w w') ?_ ?_
 · (conv=>whnf)
   refine⟨.map (some bm),h.head.one rfl,?_⟩;conv=>whnf
   rcases h.sums.look Qam Q5w (Xc Qac) (e:=ty115) ty115_ok rfl key with⟨hno,hrd⟩ | ⟨b,v,Sk,hsome,hrd,hIv,hSk,_⟩
   · refine⟨_,hrd .same Xb,?_⟩;conv=>whnf
     refine⟨_,Qa1 Qz2 none _ _,?_⟩;conv=>whnf
     constructor
     · intro _
       conv=>whnf
       refine⟨.map (some bm),h.head.one rfl,?_⟩;conv=>whnf
       intro b1 w1 hn1;conv=>whnf
       have e1:=hn1.block;refine h.sums.insert Qam Q5w (Xc Qac) key hno hn1.ext (v := []) ⟨by omega,MapAt.new hn1⟩ fun w2 hm2 ho2 => ?_
       conv=>whnf
       have hbp:bm≠p:=h.sums.lt.2.2;refine⟨Xn s key [],⟨⟨[],Xo _ _ _,by rw[hno];rfl⟩,fun v=>Qd9 key [] v s,?_,?_,?_⟩,⟨rfl,rfl,rfl,rfl,trivial⟩⟩
       · refine hm2.keep Qam fun k _ hk2=>⟨rfl,?_⟩
         rcases hk2 with hk2 | hk2
         · exact⟨.inl hk2.1,hk2.2⟩
         · exact⟨.inr hk2,by omega⟩
       · exact ho2.at_ (h.head.ext hn1.ext) (Ne.symm hbp)
       · exact(Mod.of_ext hn1.ext).trans (Qn ho2 h.sums.lt.2.1)
     · intro q;cases q
   · refine⟨_,hrd .same Xb,?_⟩;conv=>whnf
     refine⟨_,Qa1 Qz2 (some b) _ _,?_⟩;conv=>whnf
     constructor
     · intro q;cases q
     · intro _
       conv=>whnf
       refine⟨s,⟨⟨v,hsome,by rw[hsome];rfl⟩,fun v=>rfl,h.sums.keep Qam fun k _ hk2=>⟨rfl,.inl hk2.1,hk2.2⟩,h.head,Mod.refl _ _⟩,⟨rfl,rfl,rfl,rfl,trivial⟩⟩
 rintro s1 w1 ⟨⟨m1,hm1,hm1e⟩,hset,hs1,hp1,hmod1⟩
 conv=>whnf
 refine⟨.map (some bm),hp1.one rfl,?_⟩;conv=>whnf
 rcases hs1.look Qam Q5w (Xc Qac) (e:=ty115) ty115_ok rfl key with⟨hno,hrd⟩ | ⟨b,v,Sk,hsome,hrd,hIv,hSk,hback⟩
 · rw[hm1] at hno;cases hno
 obtain rfl:m1=v:=by rw[hm1] at hsome;simpa using hsome
 refine⟨_,hrd .same Xb,?_⟩;conv=>whnf
 refine⟨vi ((Qd m1 t).getD 0),(by
  have:=Qbx Qz2 (Qjl Q8o) (e:=ty2) ty2_ok (cl := .same) Xb hIv.2 t;rw[show (Qd (Qav vi m1) t).getD ty2.zero=vi ((Qd m1 t).getD 0) from Qbk vi _ _ 0] at this
  exact this),?_⟩;conv=>whnf
 have hsm:=hN key t;rw[← hm1e] at hsm;refine⟨(Qd m1 t).getD 0+x,wrap_eq rfl ⟨by omega,by omega⟩,?_⟩;conv=>whnf
 refine Xh Qz2 (Qjl Q8o) hIv.2 t (vi ((Qd m1 t).getD 0+x)) fun w2 hm2 ho2 => ?_
 rw[Xr] at hm2
 conv=>whnf
 have hbS:=hSk b hIv.1;have hfin:=hback w2 (Xn m1 t ((Qd m1 t).getD 0+x)) ⟨.inl hIv.1,hm2⟩ (Qn ho2 hIv.1);rw[hset] at hfin;have hp1lt:=hp1.lt;refine⟨rfl,⟨bm,.inl h.mine,ho2.at_ hp1 (fun q=>hbS.1.2 q.symm),?_⟩,Xa hmod1 (Qn ho2 hbS.1.1)⟩;unfold Qoh;rw[if_neg hz,← hm1e];refine hfin.keep Qam fun k _ hk2=>⟨rfl,?_⟩
 rcases hk2 with hk2 | hk2
 · exact hk2
 · exact⟨.inr (by have:=hmod1.size;omega),by omega⟩
theorem Qtt (w:World) (S:Nat→Prop) (p:Nat) (half n:Int) (s:Qkm) (h:Qoz w S p half n s) (key:ByteArray) (t x N:Int) (hN:Qd7 s N) (hNb:N<1000000000000000) (hx0:0≤x∧x≤1048576) (hk:1≤key.size∧key.size≤24) (ht:0≤t∧t≤1099511627776) (hn:0≤n∧n<1048576) :
 Cal Tryz.prog 137 [.pointer (some ⟨p,0,none⟩),.string key,.int .i64 t,.int .i64 x] w fun r w'=>r = .bool true∧Qoz w' (Grow S w) p half (n+1) (Qoh s key t x)∧Mod S w w':=by
 obtain⟨bm,h⟩:=h;refine Fi Tryz.func137 rfl _ rfl rfl ?_;conv=>whnf
 have hc1:(((decide ((key.size:Int)<1)||decide ((24:Int)<key.size))||decide (t<0))||decide (1099511627776<t))=false:=by
  rw[decide_eq_false (by omega),decide_eq_false (by omega),decide_eq_false (by omega),decide_eq_false (by omega)];rfl
 constructor
 · intro q
   have q:=hc1.symm.trans q
   cases q
 intro _
 conv=>whnf
 refine⟨_,fun _=>h.head.one rfl,?_⟩;conv=>whnf
 have hc2:((decide (x<0)||decide (1048576<x))||decide (1048576≤n))=false:=by
  rw[decide_eq_false (by omega),decide_eq_false (by omega),decide_eq_false (by omega)];rfl
 constructor
 · intro q
   have q:=hc2.symm.trans q
   cases q
 intro _
 conv=>whnf
 refine⟨_,h.head.one rfl,?_⟩;conv=>whnf
 refine⟨n+1,wrap_eq rfl ⟨by omega,by omega⟩,?_⟩;conv=>whnf
 refine Qh Qa (e:=ty3) rfl h.head rfl rfl rfl (by simp[Qq,Value.oneCell']) fun w1 h1 ho1 => ?_
 have hc:Qoz w1 S p half (n+1) s:=⟨bm,h.mine,h1,h.sums.keep Qam fun k _ hk2=>⟨ho1.block k hk2.2,hk2⟩⟩
 conv=>whnf
 refine(Qtv w1 S p half (n+1) s hc key t x N hN hNb ⟨hx0.1,by omega⟩).mono ?_;rintro _ w2 ⟨rfl,hc2,hm2⟩
 conv=>whnf
 refine⟨rfl,hc2.keep fun k _ hk2=>⟨rfl,?_⟩,(Qn ho1 h.mine).trans hm2⟩;rcases hk2 with hk2 | hk2
 · exact .inl hk2
 · exact .inr (by rw[ho1.size] at hk2;exact hk2)
abbrev PK:=ByteArray×Int
def Q6x (k:PK):List Value := [.string k.1,.int .i64 k.2]
def cel (k:PK):Value := .agg (Q6x k).toArray
theorem Qtp:Qwg Tryz.prog 241 cel :=
 Qjm (encl:=Q6x) Qa st241 (fun k=>rfl)
  (fun a b=>by
   show some (decide (a.1=b.1)&&(decide (a.2=b.2)&&true))=some (decide (a=b))
   rw[Bool.and_true]
   congr 1
   by_cases h1:a.1=b.1 <;> by_cases h2:a.2=b.2 <;> simp[Prod.ext_iff,h1,h2])
  (fun k=>by simp[Instr.sameBits,Q6x,Go.MapKept.bytes_beq])
abbrev Qbg:=List (PK×Int)
def Qog (s:Qbg) (c:PK) (n:Int):Qbg:=if n=0 then s else Xn s c ((Qd s c).getD 0+n)
def Qa4 (s:Qbg) (key:ByteArray):List Int:=(s.filter fun x=>decide (x.1.1=key)).map (·.1.2)
theorem Q2r {c:PK} {v:Int}:∀ {s:Qbg},Qd s c=none→Qa4 (Xn s c v)=Qno (Qa4 s) c.1 (Qa4 s c.1 ++ [c.2])
 | s,h=>by
   have:∀ s:Qbg,Qd s c=none→Xn s c v=s ++ [(c,v)]:=by
    intro s
    induction s with
    | nil=>intro _;rfl
    | cons x s ih =>
      intro h;simp only[Qd] at h
      by_cases e:c=x.1
      · rw[if_pos e] at h;cases h
      · rw[if_neg e] at h
        simp only[Xn,if_neg e,ih h,List.cons_append]
   rw[this s h]
   funext k
   unfold Qno Qa4;rw[List.filter_append,List.map_append]
   by_cases e:k=c.1
   · subst e;simp
   · have e':¬ c.1=k:=fun q=>e q.symm
     simp[e,e']
theorem Q2s {c:PK} {v v0:Int}:∀ {s:Qbg},Qd s c=some v0→Qa4 (Xn s c v)=Qa4 s:=by
 intro s h
 have:∀ s:Qbg,Qd s c=some v0→(Xn s c v).map (·.1)=s.map (·.1):=by
  intro s h;rw[Qgi,if_pos]
  exact List.mem_map.2 ⟨_,Qbj h,rfl⟩
 have h1:=this s h
 funext k
 unfold Qa4
 have key:∀ l:Qbg,(l.filter fun x=>decide (x.1.1=k)).map (·.1.2)=((l.map (·.1)).filter fun x=>decide (x.1=k)).map (·.2):=by
  intro l;rw[List.filter_map,List.map_map];rfl
 rw[key,key,h1]
def Qgf (s:Qbg) (N:Int):Prop:=∀ x∈s,0<x.2∧x.2≤N
theorem Qfq {s:Qbg} {N:Int} (h:Qgf s N) (hN:0≤N) (c:PK):0≤(Qd s c).getD 0∧(Qd s c).getD 0≤N∧(Qd s c=none↔(Qd s c).getD 0=0):=by
 cases hc:Qd s c with
 | none=>simp;exact hN
 | some v =>
   have:=h _ (Qbj hc)
   simp at this ⊢
   omega
theorem Qy1 {s:Qbg} {N:Int} (h:Qgf s N) (hN:0≤N) (c:PK) {n:Int} (hn:0≤n):Qgf (Qog s c n) (N+n):=by
 unfold Qog;have hs:=Qfq h hN c;intro x hx
 by_cases hz:n=0
 · rw[if_pos hz] at hx;have:=h x hx;omega
 · rw[if_neg hz] at hx
   rcases Qcf hx with rfl | hx
   · simp only;omega
   · have:=h x hx;omega
structure PaL (w:World) (S:Nat→Prop) (p:Nat) (width n:Int) (s:Qbg) (bs br:Nat) (L:List (ByteArray×(Option Addr×Nat))) (R:Nat→Prop):Prop where
 mine:S p∧S bs∧bs≠p
 head:At w p 191 [vi width,vi n,.map (some bs),.map (some br)]
 sums:MapAt w bs cel (Qav vi s)
 rows:Qcs Qn6 1 3 w R br (Qa4 s) L
 rset:∀ k,R k→S k∧k≠p∧k≠bs
def Qqy (w:World) (S:Nat→Prop) (p:Nat) (width n:Int) (s:Qbg):Prop:=∃ bs br L R,PaL w S p width n s bs br L R
theorem Qqy.keep {w w1:World} {S S':Nat→Prop} {p:Nat} {width n:Int} {s:Qbg} (h:Qqy w S p width n s) (hk:∀ k,k<w.heap.size→S k→w1.heap[k]? = w.heap[k]? ∧ S' k):Qqy w1 S' p width n s:=by
 obtain⟨bs,br,L,R,h⟩:=h;refine⟨bs,br,L,fun k=>R k∧k<w.heap.size,⟨(hk p h.head.lt h.mine.1).2,(hk bs h.sums.lt h.mine.2.1).2,h.mine.2.2⟩,(hk p h.head.lt h.mine.1).1.trans h.head,h.sums.keep (hk bs h.sums.lt h.mine.2.1).1,h.rows.keep fun k hk1 hk2=>⟨(hk k hk1 (h.rset k hk2).1).1,hk2,hk1⟩,fun k hk2=>⟨(hk k hk2.2 (h.rset k hk2.1).1).2,(h.rset k hk2.1).2⟩⟩
theorem Qyt (width:Int) (w:World):Cal Tryz.prog 70 [.int .i64 width] w fun r w'=>∃ p,r = .pointer (some ⟨p,0,none⟩)∧Qqy w' (fun k=>w.heap.size≤k) p (Qw width) 0 []∧Ext w w':=by
 refine Fi Tryz.func70 rfl _ rfl rfl ?_;conv=>whnf
 intro b1 w1 hn1;conv=>whnf
 intro b2 w2 hn2;conv=>whnf
 intro b3 w3 hn3;conv=>whnf
 have e1:=hn1.block;have e2:=hn2.block;have e3:=hn3.block;have s1:=hn1.size;have s2:=hn2.size;refine⟨b3,rfl,⟨b1,b2,[],fun k=>k=b2,⟨by omega,by omega,by omega⟩,hn3.At,(MapAt.new hn1).ext (hn2.ext.trans hn3.ext),?_,?_⟩,(hn1.ext.trans hn2.ext).trans hn3.ext⟩
 · exact(Qcs.new (S:=fun k=>k=b2) hn2 rfl).keep fun k hk hs=>⟨hn3.ext.block k hk,hs⟩
 · rintro k rfl;omega
theorem Q8b:Tryz.prog.underlying 188=some (.map 241 2):=by kernel_rfl
theorem Q5u:Tryz.prog.underlying 189=some (.map 9 179):=by kernel_rfl
theorem Q79:Tryz.prog.underlying 179=some (.slice 3):=by kernel_rfl
theorem Q12 (w:World) (p:Nat) (width n:Int) (bs br:Nat) (hp:At w p 191 [vi width,vi n,.map (some bs),.map (some br)]) (hw:1≤width∧width≤1099511627776) (t:Int) (ht:0≤t∧t≤1099511627776) :
 Cal Tryz.prog 172 [.pointer (some ⟨p,0,none⟩),.int .i64 t] w fun r w'=>r = .int .i64 (t/width)∧w'=w:=by
 have h1:t.tdiv width=t/width:=Int.tdiv_eq_ediv_of_nonneg ht.1;have h2:0≤t.tmod width:=Int.tmod_nonneg _ ht.1;have h3:0≤t/width:=Int.ediv_nonneg ht.1 (by omega);have h4:t/width≤t:=Int.ediv_le_self _ ht.1;refine Fi Tryz.func172 rfl _ rfl rfl ?_;conv=>whnf
 refine⟨_,hp.one0,?_⟩;conv=>whnf
 refine⟨t/width,⟨by omega,wrap_eq h1.symm ⟨by omega,by omega⟩⟩,?_⟩;conv=>whnf
 refine Qb Qa ?_;conv=>whnf
 refine⟨_,hp.one0,?_⟩;conv=>whnf
 refine⟨t.tmod width,⟨by omega,rfl⟩,?_⟩;conv=>whnf
 constructor
 · intro q
   have q:t.tmod width<0:=by simpa using q
   omega
 · intro _
   conv=>whnf
   exact⟨rfl,rfl⟩
theorem Qyu (w:World) (S:Nat→Prop) (p:Nat) (width n:Int) (s:Qbg) (h:Qqy w S p width n s) (c:PK) (x N:Int) (hN:Qgf s N) (hN0:0≤N) (hNb:N<1000000000000000) (hx0:0≤x∧x<1000000000000000) (hlen:s.length<100000000) :
 Cal Tryz.prog 203 [.pointer (some ⟨p,0,none⟩),cel c,.int .i64 x] w fun r w'=>r = .tuple #[]∧Qqy w' (Grow S w) p width n (Qog s c x)∧Mod S w w':=by
 obtain⟨bs,br,L,R0,h0⟩:=h
 obtain⟨R,h,hRlt⟩:∃ R,PaL w S p width n s bs br L R∧∀ k,R k→k<w.heap.size :=
  ⟨fun k=>R0 k∧k<w.heap.size,⟨h0.mine,h0.head,h0.sums,h0.rows.keep fun k hk1 hk2=>⟨rfl,hk2,hk1⟩,fun k hk=>h0.rset k hk.1⟩,fun k hk=>hk.2⟩
 clear h0;have hplt:=h.head.lt;have hbslt:=h.sums.lt;have hsm:=Qfq hN hN0 c;refine Fi Tryz.func203 rfl _ rfl rfl ?_;conv=>whnf
 intro b1 w1 hn1;have e1:=hn1.block;have hb1:At w1 b1 241 (Q6x c):=hn1.At
 conv=>whnf
 constructor
 · intro hz
   have hz:x=0:=by simpa using hz
   conv=>whnf
   refine⟨rfl,?_,Mod.of_ext hn1.ext⟩;unfold Qog;rw[if_pos hz]
   exact Qqy.keep ⟨bs,br,L,R,h⟩ fun k hk hs=>⟨hn1.ext.block k hk,.inl hs⟩
 intro hz;have hz:¬ x=0:=by simpa using hz
 conv=>whnf
 refine Dr .same [0,1,2,3,4,5,6] [] ?_;conv=>whnf
 have hx2:Ext w w1.drew:=hn1.ext.drew;have hb2:At w1.drew b1 _ _:=hb1;generalize w1.drew=w2 at hx2 hb2 ⊢;have hp2:=h.head.ext hx2;have hs2:=h.sums.ext hx2;have hr2:Qcs Qn6 1 3 w2 R br (Qa4 s) L:=h.rows.keep fun k hk1 hk2=>⟨hx2.block k hk1,hk2⟩
 refine⟨.map (some bs),hp2.one rfl,?_⟩;conv=>whnf
 refine⟨Q6x c,⟨rfl,hb2.all⟩,?_⟩;conv=>whnf
 refine⟨vi ((Qd s c).getD 0),(by
  have:=Qbx Q8b Qtp (e:=ty2) ty2_ok (cl := .same) Xb hs2 c;rw[show (Qd (Qav vi s) c).getD ty2.zero=vi ((Qd s c).getD 0) from Qbk vi _ _ 0] at this
  exact this),?_⟩;conv=>whnf
 refine Xk Qa (ι:=List (ByteArray×(Option Addr×Nat))×(Nat→Prop)) (fun _ => [(0,.pointer (some ⟨p,0,none⟩)),(4,.pointer (some ⟨b1,0,none⟩)),(2,.int .i64 x),(6,.int .i64 ((Qd s c).getD 0))])
  (fun q w'=>At w' p 191 [vi width,vi n,.map (some bs),.map (some br)]∧At w' b1 241 (Q6x c)∧MapAt w' bs cel (Qav vi s)∧Qcs Qn6 1 3 w' q.2 br (Qa4 (Xn s c ((Qd s c).getD 0+x))) q.1∧(∀ k,q.2 k→Grow S w k∧k≠p∧k≠bs∧k≠b1)∧Mod S w w') ?_ ?_
 · (conv=>whnf)
   constructor
   · intro h0
     have h0:Qd s c=none:=hsm.2.2.2 (by simpa using h0);have hrl:=hr2.own c.1;generalize hA0:(rowAt L c.1).1=A0 at hrl;generalize hc0:(rowAt L c.1).2=c0 at hrl
     have hA0w:∀ a,A0=some a→R a.block∧a.block≠br∧a.block<w.heap.size:=fun a ha=>by
      have h1:=h.rows.own c.1;rw[hA0] at h1
      exact⟨(hrl.2 a ha).1,(hrl.2 a ha).2,(h1.1.block ha).2⟩
     have hnb:∀ k,k=p∨k=br∨k=b1∨k=bs→¬ ∃ a,A0=some a∧k=a.block:=by
      rintro k hk' ⟨a,ha,rfl⟩;obtain⟨q1,q2,q3⟩:=hA0w a ha;have:=h.rset _ q1;rcases hk' with q | q | q | q
      · exact this.2.1 q
      · exact q2 q
      · omega
      · exact this.2.2 q
     have hrlen:(Qa4 s c.1).length≤s.length:=by
      unfold Qa4;rw[List.length_map];exact List.length_filter_le _ _
     conv=>whnf
     refine Dr (.mods (fun k=>∃ a,A0=some a∧k=a.block)) [0,1,2,3,4,5,6,7,8,9,10,11,12,13,14,15,16] [17] ?_;conv=>whnf
     replace hp2:At w2.drew p _ _:=hp2;replace hb2:At w2.drew b1 _ _:=hb2;replace hs2:MapAt w2.drew bs cel (Qav vi s):=hs2.keep rfl;replace hr2:Qcs Qn6 1 3 w2.drew R br (Qa4 s) L:=hr2.keep fun k _ hk2=>⟨rfl,hk2⟩
     replace hx2:Ext w w2.drew:=hx2.drew;generalize w2.drew=w3 at hp2 hb2 hs2 hr2 hx2 ⊢;refine⟨.map (some br),⟨hp2.one rfl,by rw[add_block];exact hnb p (.inl rfl)⟩,?_⟩;conv=>whnf
     refine⟨_,⟨hb2.one rfl,by rw[add_block];exact hnb b1 (.inr (.inr (.inl rfl)))⟩,?_⟩;conv=>whnf
     refine⟨.map (some br),⟨hp2.one rfl,by rw[add_block];exact hnb p (.inl rfl)⟩,?_⟩;conv=>whnf
     refine⟨_,⟨hb2.one rfl,by rw[add_block];exact hnb b1 (.inr (.inr (.inl rfl)))⟩,?_⟩;conv=>whnf
     refine⟨.slice A0 (Qa4 s c.1).length c0,(by
      have:=hr2.look Q5u Qac (e:=ty179) ty179_ok rfl c.1 (Qrg (S:=fun k=>∃ a,A0=some a∧k=a.block) hr2.map.lt (hnb br (.inr (.inl rfl))));rw[hA0,hc0] at this
      exact this),?_⟩;conv=>whnf
     refine⟨_,⟨hb2.one rfl,by rw[add_block];exact hnb b1 (.inr (.inr (.inl rfl)))⟩,?_⟩;conv=>whnf
     intro b4 w4 hn4;refine⟨Mod.of_ext hn4.ext,?_⟩;conv=>whnf
     have hown4:Own Qn6 1 3 0 w4 A0 c0 (Qa4 s c.1):=by
      have:=(hr2.own c.1).1;rw[hA0,hc0] at this
      exact this.ext hn4.ext
     refine Qc8 (news := [c.2]) ty3_ok Q79 by3 rfl rfl (by decide) Qes Q4p hown4 (Qej Qes hn4) (by simp;omega) (by simp;omega) (Nat.zero_le _) ?_;intro A2 c2 w5 hown5 hg5 hA5
     have hrow5:∀ k,A0.map (·.block)=some k→∃ a,A0=some a∧k=a.block:=by
      intro k hk'
      cases A0 with
      | none=>simp at hk'
      | some a=>exact⟨a,rfl,by simpa using hk'.symm⟩
     refine⟨Qr hg5 hrow5,?_⟩
     conv=>whnf
     have hbm5:MapAt w5 br Value.string (toV (Qa4 s) L) :=
      (hr2.map.ext hn4.ext).keep (hg5.block br (hr2.map.ext hn4.ext).lt (fun e'=>hnb br (.inr (.inl rfl)) (hrow5 br e'.symm)))
     refine Xh Q5u (Xc Qac) hbm5 c.1 _ fun w6 hm6 ho6 => ?_
     have hpush:=hr2.push (k:=c.1) (r:=Qa4 s c.1 ++ [c.2]) (by simp) hn4.ext (by rw[hA0];exact hg5) (by rw[hA0];exact hA5) hown5 hm6 ho6;have hbr:=h.rset br h.rows.mine;have hbrlt:=h.rows.map.lt
     have hstay:∀ k,k<w3.heap.size→k≠br→¬ (∃ a,A0=some a∧k=a.block)→w6.heap[k]? = w3.heap[k]? := by
      intro k hk1 hk2 hk3;rw[ho6.block k hk2,hg5.block k (by have:=hn4.ext.size;omega) (fun q=>hk3 (hrow5 k q.symm)),hn4.ext.block k hk1]
     have hs3:=hx2.size;have hb1lt:=hb2.lt
     conv=>whnf
     refine⟨(Xn L c.1 (A2,c2),Grow R w3),⟨?_,?_,?_,?_,?_,?_⟩,⟨rfl,rfl,rfl,rfl,trivial⟩⟩
     · exact(hstay p hp2.lt (fun q=>hbr.2.1 q.symm) (hnb p (.inl rfl))).trans hp2
     · exact(hstay b1 hb2.lt (by omega) (hnb b1 (.inr (.inr (.inl rfl))))).trans hb2
     · exact hs2.keep (hstay bs hs2.lt (fun q=>hbr.2.2 q.symm) (hnb bs (.inr (.inr (.inr rfl)))))
     · rw[Q2r h0];exact hpush
     · rintro k (hk1 | hk1)
       · have:=h.rset k hk1
         have hq:=hRlt k hk1
         exact⟨.inl this.1,this.2.1,this.2.2,by omega⟩
       · exact⟨.inr (by omega),by omega,by omega,by omega⟩
     · refine Xa (Mod.of_ext hx2) ((Mod.of_ext hn4.ext).trans ((Qr hg5 fun k hk' => ?_).trans (Qn ho6 (.inl hbr.1))))
       obtain⟨a,ha,q⟩:=hrow5 k hk';rw[q];exact .inl (h.rset _ (hA0w a ha).1).1
   · intro h0
     have h0':¬ (Qd s c).getD 0=0:=by simpa using h0
     obtain⟨v0,hv0⟩:∃ v0,Qd s c=some v0:=by
      cases hq:Qd s c with
      | none=>rw[hq] at h0';simp at h0'
      | some v=>exact⟨v,rfl⟩
     conv=>whnf
     refine⟨(L,fun k=>R k∧k<w.heap.size),⟨hp2,hb2,hs2,?_,?_,Mod.of_ext hx2⟩,⟨rfl,rfl,rfl,rfl,trivial⟩⟩
     · rw[Q2s hv0]
       exact h.rows.keep fun k hk1 hk2=>⟨hx2.block k hk1,hk2,hk1⟩
     · rintro k ⟨hk1,hk2⟩
       have:=h.rset k hk1
       exact⟨.inl this.1,this.2.1,this.2.2,by omega⟩
 rintro ⟨L3,R3⟩ w3 ⟨hp3,hb3,hs3,hr3,hrs3,hm3⟩;simp only at hr3 hrs3
 conv=>whnf
 refine Dr .same [0,1,2,3,4,5,6,7] [8] ?_;conv=>whnf
 refine⟨.map (some bs),show w3.drew.cell? _=_ from hp3.one rfl,?_⟩;conv=>whnf
 refine⟨Q6x c,⟨rfl,show Xt w3.drew _ _ from hb3.all⟩,?_⟩;conv=>whnf
 refine⟨(Qd s c).getD 0+x,wrap_eq rfl ⟨by omega,by omega⟩,?_⟩;conv=>whnf
 refine Xh (w:=w3.drew) Q8b Qtp (hs3.keep rfl) c (vi ((Qd s c).getD 0+x)) fun w4 hm4 ho4 => ?_
 rw[Xr] at hm4
 conv=>whnf
 refine⟨rfl,⟨bs,br,L3,R3,⟨.inl h.mine.1,.inl h.mine.2.1,h.mine.2.2⟩,ho4.at_ hp3 (Ne.symm h.mine.2.2),?_,?_,fun k hk=>⟨(hrs3 k hk).1,(hrs3 k hk).2.1,(hrs3 k hk).2.2.1⟩⟩,hm3.trans ((Mod.drew _).trans (Qn ho4 h.mine.2.1))⟩
 · unfold Qog;rw[if_neg hz];exact hm4
 · unfold Qog;rw[if_neg hz]
   exact hr3.keep fun k _ hk2=>⟨ho4.block k (hrs3 k hk2).2.2.1,hk2⟩
theorem Qys (w:World) (S:Nat→Prop) (p:Nat) (width n:Int) (s:Qbg) (h:Qqy w S p width n s) (hw:1≤width∧width≤1099511627776) (key:ByteArray) (t x N:Int) (hN:Qgf s N) (hN0:0≤N) (hNb:N<1000000000000000) (hx0:0≤x∧x≤1048576) (hlen:s.length<100000000) (hk:1≤key.size∧key.size≤24) (ht:0≤t∧t≤1099511627776) (hn:0≤n∧n<1048576) :
 Cal Tryz.prog 138 [.pointer (some ⟨p,0,none⟩),.string key,.int .i64 t,.int .i64 x] w fun r w'=>r = .bool true∧Qqy w' (Grow S w) p width (n+1) (Qog s (key,t/width) x)∧Mod S w w':=by
 obtain⟨bs,br,L,R,h⟩:=h;refine Fi Tryz.func138 rfl _ rfl rfl ?_;conv=>whnf
 have hc1:(((decide ((key.size:Int)<1)||decide ((24:Int)<key.size))||decide (t<0))||decide (1099511627776<t))=false:=by
  rw[decide_eq_false (by omega),decide_eq_false (by omega),decide_eq_false (by omega),decide_eq_false (by omega)];rfl
 constructor
 · intro q
   have q:=hc1.symm.trans q
   cases q
 intro _
 conv=>whnf
 refine⟨_,fun _=>h.head.one rfl,?_⟩;conv=>whnf
 have hc2:((decide (x<0)||decide (1048576<x))||decide (1048576≤n))=false:=by
  rw[decide_eq_false (by omega),decide_eq_false (by omega),decide_eq_false (by omega)];rfl
 constructor
 · intro q
   have q:=hc2.symm.trans q
   cases q
 intro _
 conv=>whnf
 refine⟨_,h.head.one rfl,?_⟩;conv=>whnf
 refine⟨n+1,wrap_eq rfl ⟨by omega,by omega⟩,?_⟩;conv=>whnf
 refine Qh Qa (e:=ty3) rfl h.head rfl rfl rfl (by simp[Qq,Value.oneCell']) fun w1 h1 ho1 => ?_
 have hc:Qqy w1 S p width (n+1) s:=⟨bs,br,L,R,h.mine,h1,h.sums.only ho1 h.mine.2.2,h.rows.keep fun k _ hk2=>⟨ho1.block k (h.rset k hk2).2.1,hk2⟩,h.rset⟩
 conv=>whnf
 refine(Q12 w1 p width (n+1) bs br h1 hw t ht).mono ?_;rintro _ w2 ⟨rfl,rfl⟩
 conv=>whnf
 refine(Qyu w2 S p width (n+1) s hc (key,t/width) x N hN hN0 hNb ⟨hx0.1,by omega⟩ hlen).mono ?_;rintro _ w3 ⟨rfl,hc3,hm3⟩
 conv=>whnf
 refine⟨rfl,hc3.keep fun k _ hk2=>⟨rfl,?_⟩,(Qn ho1 h.mine.1).trans hm3⟩;rcases hk2 with hk2 | hk2
 · exact .inl hk2
 · exact .inr (by rw[ho1.size] at hk2;exact hk2)
def Qox (w:World) (S:Nat→Prop) (b:Nat) (m:List (ByteArray×Bool)):Prop:=S b∧MapAt w b Value.string (Qav Value.bool m)
theorem Qa0:Local Qox where
 keep h hk:=⟨(hk _ h.2.lt h.1).2,h.2.keep (hk _ h.2.lt h.1).1⟩
 lt h:=⟨h.2.lt,h.1⟩
def Qtg (w:World) (S:Nat→Prop) (b:Nat) (m:List (Int×List (ByteArray×Bool))):Prop:=MapOf vi Qox w S b m
theorem Qal:Local Qtg:=Qum Qa0
abbrev Ses:=List (ByteArray×List (Int×List (ByteArray×Bool)))
def Q3k (s:Ses) (person:ByteArray) (t:Int) (item:ByteArray):Ses :=
 Xn s person (Xn ((Qd s person).getD []) t (Xn ((Qd ((Qd s person).getD []) t).getD []) item true))
structure SeL (w:World) (S:Nat→Prop) (p:Nat) (gap:Int) (s:Ses) (bm:Nat):Prop where
 mine:S p
 head:At w p 168 [vi gap,.map (some bm)]
 sums:MapOf Value.string Qtg w (fun k=>S k∧k≠p) bm s
def Qwh (w:World) (S:Nat→Prop) (p:Nat) (gap:Int) (s:Ses):Prop:=∃ bm,SeL w S p gap s bm
theorem Qwh.keep {w w1:World} {S S':Nat→Prop} {p:Nat} {gap:Int} {s:Ses} (h:Qwh w S p gap s) (hk:∀ k,k<w.heap.size→S k→w1.heap[k]? = w.heap[k]? ∧ S' k):Qwh w1 S' p gap s:=by
 obtain⟨bm,h⟩:=h;refine⟨bm,(hk p h.head.lt h.mine).2,(hk p h.head.lt h.mine).1.trans h.head,h.sums.keep Qal fun k hk1 hk2 => ?_⟩;obtain⟨q1,q2⟩:=hk k hk1 hk2.1
 exact⟨q1,q2,hk2.2⟩
def Qtd (h:Int):Int:=min (max h 0) 1099511627776
theorem Qzk (gap:Int) (w:World):Cal Tryz.prog 71 [.int .i64 gap] w fun r w'=>∃ p,r = .pointer (some ⟨p,0,none⟩)∧Qwh w' (fun k=>w.heap.size≤k) p (Qtd gap) []∧Ext w w':=by
 refine Fi Tryz.func71 rfl _ rfl rfl ?_;conv=>whnf
 intro b1 w1 hn1;conv=>whnf
 intro b2 w2 hn2;conv=>whnf
 have e1:=hn1.block;have e2:=hn2.block;have s1:=hn1.size;refine⟨b2,rfl,⟨b1,by omega,hn2.At,?_⟩,hn1.ext.trans hn2.ext⟩
 exact(MapOf.new (S:=fun k=>w.heap.size≤k∧k≠b2) hn1 ⟨by omega,by omega⟩).keep Qal fun k hk hs=>⟨hn2.ext.block k hk,hs⟩
theorem Q5v:Tryz.prog.underlying 165=some (.map 9 166):=by kernel_rfl
theorem Qz3:Tryz.prog.underlying 166=some (.map 3 64):=by kernel_rfl
theorem Qs2:Tryz.prog.underlying 64=some (.map 9 4):=by kernel_rfl
theorem Qmk (t:ByteArray) (w:World):Cal Tryz.prog 204 [.string t] w fun r w'=>r = .bool (decide ((1:Int)≤t.size)&&decide ((t.size:Int)≤24))∧w'=w:=by
 refine Fi Tryz.func204 rfl _ rfl rfl ?_;conv=>whnf
 exact⟨rfl,rfl⟩
set_option maxHeartbeats 1000000 in
theorem Qzi (w:World) (S:Nat→Prop) (p:Nat) (gap:Int) (s:Ses) (h:Qwh w S p gap s) (person item:ByteArray) (t:Int) (hp:1≤person.size∧person.size≤24) (hi:1≤item.size∧item.size≤24) (ht:0≤t∧t≤1099511627776) :
 Cal Tryz.prog 139 [.pointer (some ⟨p,0,none⟩),.string person,.int .i64 t,.string item] w fun r w'=>r = .bool true∧Qwh w' (Grow S w) p gap (Q3k s person t item)∧Mod S w w':=by
 obtain⟨bm,h⟩:=h;have hplt:=h.head.lt;refine Fi Tryz.func139 rfl _ rfl rfl ?_;conv=>whnf
 refine(Qmk person w).mono ?_;rintro _ w0 ⟨rfl,hw0⟩;replace hw0:=hw0.symm;subst hw0
 conv=>whnf
 refine⟨Unit,fun _ => .bool (decide ((1:Int)≤item.size)&&decide ((item.size:Int)≤24)),fun _ w'=>w'=w,(),fun _=>(Qmk item w).mono (fun r w' h=>⟨(),h.1,h.2⟩),fun _ w0 h0 => ?_⟩
 have hw0:w=w0:=by
  rcases h0 with⟨_,h⟩ | ⟨_,h⟩ <;> exact h.symm
 clear h0;subst hw0
 conv=>whnf
 have hc1:((((!(decide ((1:Int)≤person.size)&&decide ((person.size:Int)≤24)))||(!(decide ((1:Int)≤item.size)&&decide ((item.size:Int)≤24))))||decide (t<0))||decide (1099511627776<t))=false:=by
  rw[decide_eq_true (by omega),decide_eq_true (by omega),decide_eq_true (by omega),decide_eq_true (by omega),decide_eq_false (by omega),decide_eq_false (by omega)];rfl
 constructor
 · intro q
   have q:=hc1.symm.trans q
   cases q
 intro _;clear hc1
 conv=>whnf
 refine Xk Qa (ι:=Ses) (fun _ => [(0,.pointer (some ⟨p,0,none⟩)),(1,.string person),(2,.int .i64 t),(3,.string item)])
  (fun s1 w'=>(∃ m1,Qd s1 person=some m1∧m1=(Qd s person).getD [])∧(∀ v,Xn s1 person v=Xn s person v)∧MapOf Value.string Qtg w' (fun k=>Grow S w k∧k≠p) bm s1∧At w' p 168 [vi gap,.map (some bm)]∧Mod S w w') ?_ ?_
 · (conv=>whnf)
   refine⟨.map (some bm),h.head.one rfl,?_⟩;conv=>whnf
   rcases h.sums.look Qal Q5v (Xc Qac) (e:=ty166) ty166_ok rfl person with⟨hno,hrd⟩ | ⟨b,v,Sk,hsome,hrd,hIv,hSk,_⟩
   · refine⟨_,hrd .same Xb,?_⟩;conv=>whnf
     refine⟨_,Qa1 Qz3 none _ _,?_⟩;conv=>whnf
     constructor
     · intro _
       conv=>whnf
       refine⟨.map (some bm),h.head.one rfl,?_⟩;conv=>whnf
       intro b1 w1 hn1;conv=>whnf
       have e1:=hn1.block;refine h.sums.insert Qal Q5v (Xc Qac) person hno hn1.ext (v := []) (MapOf.new hn1 (by omega)) fun w2 hm2 ho2 => ?_
       conv=>whnf
       have hbp:bm≠p:=h.sums.lt.2.2;refine⟨Xn s person [],⟨⟨[],Xo _ _ _,by rw[hno];rfl⟩,fun v=>Qd9 person [] v s,?_,?_,?_⟩,⟨rfl,rfl,rfl,rfl,trivial⟩⟩
       · refine hm2.keep Qal fun k _ hk2=>⟨rfl,?_⟩
         rcases hk2 with hk2 | hk2
         · exact⟨.inl hk2.1,hk2.2⟩
         · exact⟨.inr hk2,by omega⟩
       · exact ho2.at_ (h.head.ext hn1.ext) (Ne.symm hbp)
       · exact(Mod.of_ext hn1.ext).trans (Qn ho2 h.sums.lt.2.1)
     · intro q;cases q
   · refine⟨_,hrd .same Xb,?_⟩;conv=>whnf
     refine⟨_,Qa1 Qz3 (some b) _ _,?_⟩;conv=>whnf
     constructor
     · intro q;cases q
     · intro _
       conv=>whnf
       refine⟨s,⟨⟨v,hsome,by rw[hsome];rfl⟩,fun v=>rfl,h.sums.keep Qal fun k _ hk2=>⟨rfl,.inl hk2.1,hk2.2⟩,h.head,Mod.refl _ _⟩,⟨rfl,rfl,rfl,rfl,trivial⟩⟩
 rintro s1 w1 ⟨⟨m1,hm1,hm1e⟩,hset,hs1,hp1,hmod1⟩
 conv=>whnf
 refine⟨.map (some bm),hp1.one rfl,?_⟩;conv=>whnf
 rcases hs1.look Qal Q5v (Xc Qac) (e:=ty166) ty166_ok rfl person with⟨hno,hrd⟩ | ⟨b,v,Sk,hsome,hrd,hIv,hSk,hback⟩
 · rw[hm1] at hno;cases hno
 obtain rfl:m1=v:=by rw[hm1] at hsome;simpa using hsome
 refine⟨_,hrd .same Xb,?_⟩;conv=>whnf
 have hIv':MapOf vi Qox w1 Sk b m1:=hIv
 refine Xk Qa (ι:=List (Int×List (ByteArray×Bool))) (fun _ => [(2,.int .i64 t),(3,.string item),(10,.map (some b))])
  (fun m2 w'=>(∃ z,Qd m2 t=some z∧z=(Qd m1 t).getD [])∧(∀ v,Xn m2 t v=Xn m1 t v)∧MapOf vi Qox w' (Grow Sk w1) b m2∧Mod Sk w1 w') ?_ ?_
 · (conv=>whnf)
   rcases hIv'.look Qa0 Qz3 (Qjl Q8o) (e:=ty64) ty64_ok rfl t with⟨hno,hrd⟩ | ⟨b2,v,Sk2,hsome2,hrd,hIv2,hSk2,_⟩
   · refine⟨_,hrd .same Xb,?_⟩;conv=>whnf
     refine⟨_,Qa1 Qs2 none _ _,?_⟩;conv=>whnf
     constructor
     · intro _
       conv=>whnf
       intro b3 w3 hn3;conv=>whnf
       have e3:=hn3.block;refine hIv'.insert Qa0 Qz3 (Qjl Q8o) t hno hn3.ext (v := []) ⟨by omega,MapAt.new hn3⟩ fun w4 hm4 ho4 => ?_
       conv=>whnf
       exact⟨Xn m1 t [],⟨⟨[],Xo _ _ _,by rw[hno];rfl⟩,fun v=>Qd9 t [] v m1,hm4,(Mod.of_ext hn3.ext).trans (Qn ho4 hIv'.lt.2)⟩,⟨rfl,rfl,rfl,trivial⟩⟩
     · intro q;cases q
   · refine⟨_,hrd .same Xb,?_⟩;conv=>whnf
     refine⟨_,Qa1 Qs2 (some b2) _ _,?_⟩;conv=>whnf
     constructor
     · intro q;cases q
     · intro _
       conv=>whnf
       exact⟨m1,⟨⟨v,hsome2,by rw[hsome2];rfl⟩,fun v=>rfl,hIv'.keep Qa0 fun k _ hk2=>⟨rfl,.inl hk2⟩,Mod.refl _ _⟩,⟨rfl,rfl,rfl,trivial⟩⟩
 rintro m2 w2 ⟨⟨z,hz,hze⟩,hset2,hI2,hmod2⟩
 conv=>whnf
 rcases hI2.look Qa0 Qz3 (Qjl Q8o) (e:=ty64) ty64_ok rfl t with⟨hno,hrd2⟩ | ⟨b2,v,Sk2,hsome2,hrd2,hIv2,hSk2,hback2⟩
 · rw[hz] at hno;cases hno
 obtain rfl:z=v:=by rw[hz] at hsome2;simpa using hsome2
 refine⟨_,hrd2 .same Xb,?_⟩;conv=>whnf
 refine Xh Qs2 (Xc Qac) hIv2.2 item (.bool true) fun w3 hm3 ho3 => ?_
 rw[Xr] at hm3
 conv=>whnf
 have hb2S:=hSk2 b2 hIv2.1;have hin:=hback2 w3 (Xn z item true) ⟨.inl hIv2.1,hm3⟩ (Qn ho3 hIv2.1);rw[hset2,hze] at hin;have hmod3:Mod Sk w1 w3:=Xa hmod2 (Qn ho3 hb2S.1)
 have hfin:=hback w3 _ (MapOf.keep Qa0 hin (S':=Grow Sk w1) fun k _ hk2=>⟨rfl,by
  rcases hk2 with hk2 | hk2
  · exact hk2
  · exact .inr (by have:=hmod2.size;omega)⟩) hmod3
 rw[hset] at hfin;have hp1lt:=hp1.lt;have hpn:¬ Sk p:=fun q=>(hSk p q).1.2 rfl
 refine⟨rfl,⟨bm,.inl h.mine,hp1.mod hmod3 hpn,?_⟩,Xa hmod1 (hmod3.mono fun k _ hk=>(hSk k hk).1.1)⟩;unfold Q3k;rw[← hm1e];refine hfin.keep Qal fun k _ hk2=>⟨rfl,?_⟩
 rcases hk2 with hk2 | hk2
 · exact hk2
 · exact⟨.inr (by have:=hmod1.size;omega),by omega⟩
structure Cfg where
 half:Int
 width:Int
 gap:Int
 span:Int
 floor:Int
 crowd:Int
def Qi9 (c:Cfg):List Value := [vi c.half,vi c.width,vi c.gap,vi c.span,vi c.floor,vi c.crowd]
def Q0a (c:Cfg):Value := .agg (Qi9 c).toArray
def Qo7 (c:Cfg):Bool:=inB c.half 1 1099511627776&&inB c.width 1 1099511627776&&inB c.span 1 1099511627776&&decide (c.span.tmod c.width=0)&&inB c.gap 0 1099511627776&&inB c.floor 0 1048576&&inB c.crowd 0 1048576
theorem Qde (n lo hi:Int) (w:World):Cal Tryz.prog 64 [.int .i64 n,.int .i64 lo,.int .i64 hi] w fun r w'=>r = .bool (inB n lo hi)∧w'=w:=by
 refine Fi Tryz.func64 rfl _ rfl rfl ?_;conv=>whnf
 exact⟨rfl,rfl⟩
theorem Qkc (c:Cfg) (w:World):Cal Tryz.prog 11 [Q0a c] w fun r w'=>r = .bool (Qo7 c)∧Ext w w':=by
 refine Fi Tryz.func11 rfl _ rfl rfl ?_;conv=>whnf
 intro b w1 hn;have hb:At w1 b 23 (Qi9 c):=hn.At
 conv=>whnf
 refine⟨_,hb.one0,?_⟩;conv=>whnf
 refine(Qef c.half 1 1099511627776 w1).mono ?_;rintro _ w2 ⟨rfl,hw2⟩;replace hw2:=hw2.symm;subst hw2
 conv=>whnf
 refine⟨_,fun _=>hb.one rfl,?_⟩;conv=>whnf
 refine⟨Unit,fun _ => .bool (inB c.width 1 1099511627776),fun _ w'=>w'=w1,(),fun _=>(Qef c.width 1 1099511627776 w1).mono fun r w' h=>⟨(),h.1,h.2⟩,?_⟩;intro _ w3 h3
 have hw3:w1=w3:=by
  rcases h3 with⟨_,h⟩ | ⟨_,h⟩ <;> exact h.symm
 clear h3;subst hw3
 conv=>whnf
 refine⟨_,fun _=>hb.one rfl,?_⟩;conv=>whnf
 refine⟨Unit,fun _ => .bool (inB c.span 1 1099511627776),fun _ w'=>w'=w1,(),fun _=>(Qef c.span 1 1099511627776 w1).mono fun r w' h=>⟨(),h.1,h.2⟩,?_⟩;intro _ w4 h4
 have hw4:w1=w4:=by
  rcases h4 with⟨_,h⟩ | ⟨_,h⟩ <;> exact h.symm
 clear h4;subst hw4
 conv=>whnf
 refine⟨_,fun _=>hb.one rfl,?_⟩;conv=>whnf
 refine⟨_,fun _=>hb.one rfl,?_⟩;conv=>whnf
 refine⟨c.span.tmod c.width,fun hg=>⟨?_,rfl⟩,?_⟩
 · have hg:(inB c.half 1 1099511627776&&inB c.width 1 1099511627776&&inB c.span 1 1099511627776)=true:=hg
   simp only[Bool.and_eq_true,Qhr] at hg;omega
 conv=>whnf
 refine⟨_,fun _=>hb.one rfl,?_⟩;conv=>whnf
 refine⟨Unit,fun _ => .bool (inB c.gap 0 1099511627776),fun _ w'=>w'=w1,(),fun _=>(Qef c.gap 0 1099511627776 w1).mono fun r w' h=>⟨(),h.1,h.2⟩,?_⟩;intro _ w5 h5
 have hw5:w1=w5:=by
  rcases h5 with⟨_,h⟩ | ⟨_,h⟩ <;> exact h.symm
 clear h5;subst hw5
 conv=>whnf
 refine⟨_,fun _=>hb.one rfl,?_⟩;conv=>whnf
 refine⟨Unit,fun _ => .bool (inB c.floor 0 1048576),fun _ w'=>w'=w1,(),fun _=>(Qef c.floor 0 1048576 w1).mono fun r w' h=>⟨(),h.1,h.2⟩,?_⟩;intro _ w6 h6
 have hw6:w1=w6:=by
  rcases h6 with⟨_,h⟩ | ⟨_,h⟩ <;> exact h.symm
 clear h6;subst hw6
 conv=>whnf
 refine⟨_,fun _=>hb.one rfl,?_⟩;conv=>whnf
 refine⟨Unit,fun _ => .bool (inB c.crowd 0 1048576),fun _ w'=>w'=w1,(),fun _=>(Qef c.crowd 0 1048576 w1).mono fun r w' h=>⟨(),h.1,h.2⟩,?_⟩;intro _ w7 h7
 have hw7:w1=w7:=by
  rcases h7 with⟨_,h⟩ | ⟨_,h⟩ <;> exact h.symm
 clear h7;subst hw7
 conv=>whnf
 exact⟨rfl,hn.ext⟩
theorem Qs6 (c:Cfg) (w:World):Cal Tryz.prog 26 [Q0a c] w fun r w'=>r = .bool (Qo7 c)∧Ext w w':=by
 refine Fi Tryz.func26 rfl _ rfl rfl ?_;conv=>whnf
 intro b w1 hn;have hb:At w1 b 23 (Qi9 c):=hn.At
 conv=>whnf
 refine⟨_,hb.one0,?_⟩;conv=>whnf
 refine(Qde c.half 1 1099511627776 w1).mono ?_;rintro _ w2 ⟨rfl,hw2⟩;replace hw2:=hw2.symm;subst hw2
 conv=>whnf
 refine⟨_,fun _=>hb.one rfl,?_⟩;conv=>whnf
 refine⟨Unit,fun _ => .bool (inB c.width 1 1099511627776),fun _ w'=>w'=w1,(),fun _=>(Qde c.width 1 1099511627776 w1).mono fun r w' h=>⟨(),h.1,h.2⟩,?_⟩;intro _ w3 h3
 have hw3:w1=w3:=by
  rcases h3 with⟨_,h⟩ | ⟨_,h⟩ <;> exact h.symm
 clear h3;subst hw3
 conv=>whnf
 refine⟨_,fun _=>hb.one rfl,?_⟩;conv=>whnf
 refine⟨Unit,fun _ => .bool (inB c.span 1 1099511627776),fun _ w'=>w'=w1,(),fun _=>(Qde c.span 1 1099511627776 w1).mono fun r w' h=>⟨(),h.1,h.2⟩,?_⟩;intro _ w4 h4
 have hw4:w1=w4:=by
  rcases h4 with⟨_,h⟩ | ⟨_,h⟩ <;> exact h.symm
 clear h4;subst hw4
 conv=>whnf
 refine⟨_,fun _=>hb.one rfl,?_⟩;conv=>whnf
 refine⟨_,fun _=>hb.one rfl,?_⟩;conv=>whnf
 refine⟨c.span.tmod c.width,fun hg=>⟨?_,rfl⟩,?_⟩
 · have hg:(inB c.half 1 1099511627776&&inB c.width 1 1099511627776&&inB c.span 1 1099511627776)=true:=hg
   simp only[Bool.and_eq_true,Qhr] at hg;omega
 conv=>whnf
 refine⟨_,fun _=>hb.one rfl,?_⟩;conv=>whnf
 refine⟨Unit,fun _ => .bool (inB c.gap 0 1099511627776),fun _ w'=>w'=w1,(),fun _=>(Qde c.gap 0 1099511627776 w1).mono fun r w' h=>⟨(),h.1,h.2⟩,?_⟩;intro _ w5 h5
 have hw5:w1=w5:=by
  rcases h5 with⟨_,h⟩ | ⟨_,h⟩ <;> exact h.symm
 clear h5;subst hw5
 conv=>whnf
 refine⟨_,fun _=>hb.one rfl,?_⟩;conv=>whnf
 refine⟨Unit,fun _ => .bool (inB c.floor 0 1048576),fun _ w'=>w'=w1,(),fun _=>(Qde c.floor 0 1048576 w1).mono fun r w' h=>⟨(),h.1,h.2⟩,?_⟩;intro _ w6 h6
 have hw6:w1=w6:=by
  rcases h6 with⟨_,h⟩ | ⟨_,h⟩ <;> exact h.symm
 clear h6;subst hw6
 conv=>whnf
 refine⟨_,fun _=>hb.one rfl,?_⟩;conv=>whnf
 refine⟨Unit,fun _ => .bool (inB c.crowd 0 1048576),fun _ w'=>w'=w1,(),fun _=>(Qde c.crowd 0 1048576 w1).mono fun r w' h=>⟨(),h.1,h.2⟩,?_⟩;intro _ w7 h7
 have hw7:w1=w7:=by
  rcases h7 with⟨_,h⟩ | ⟨_,h⟩ <;> exact h.symm
 clear h7;subst hw7
 conv=>whnf
 exact⟨rfl,hn.ext⟩
abbrev IK:=ByteArray×Int
def idC (k:IK):List Value := [.string k.1,.int .i64 k.2]
def idV (k:IK):Value := .agg (idC k).toArray
def Q57 (e:Ev):IK:=(e.src,e.num)
theorem Q58:Qwg Tryz.prog 76 idV :=
 Qjm (encl:=idC) Qa st76 (fun k=>rfl)
  (fun a b=>by
   show some (decide (a.1=b.1)&&(decide (a.2=b.2)&&true))=some (decide (a=b))
   rw[Bool.and_true]
   congr 1
   by_cases h1:a.1=b.1 <;> by_cases h2:a.2=b.2 <;> simp[Prod.ext_iff,h1,h2])
  (fun k=>by simp[Instr.sameBits,idC,Go.MapKept.bytes_beq])
structure Cts where
 cs:List Ev
 rs:List Row
 dn:Int
 ds:Qkm
 pn:Int
 ps:Qbg
 ss:Ses
def Qwf:Cts:=⟨[],[],0,[],0,[],[]⟩
def Qk9 (s:ByteArray):ByteArray:=(⟨#[59]⟩:ByteArray)++s
def Qbc (cs:List Ev) (e:Ev):List ByteArray:=if(Xz cs e.item e.at_).2=true then Xd (Qk9 (Xz cs e.item e.at_).1.tags) else []
def Qdi (width:Int) (c:Cts) (e:Ev):Cts :=
 if e.kind=11∨e.kind=12∨e.kind=13 then { c with cs:=c.cs ++ [e] }
 else if e.kind=14 then c
 else if 0<Qv e then⟨c.cs,c.rs ++ [(e,Qbo (Qbc c.cs e))],c.dn+1,Qoh c.ds e.item e.at_ (Qv e),c.pn+1,Qog c.ps (e.item,e.at_/Qw width) (Qv e),Q3k c.ss e.person e.at_ e.item⟩
 else { c with rs:=c.rs ++ [(e,Qbo (Qbc c.cs e))] }
structure WS where
 es:List Ev
 any:Bool
 last:Ev
 ad:List (IK×Bool)
 fg:List (ByteArray×Bool)
 ct:Cts
structure WP where
 ba:Nat
 bf:Nat
 pc:Nat
 pw:Nat
 pd:Nat
 pp:Nat
 ps:Nat
def wC (c:Cfg) (A:Option Addr) (n cap:Nat) (any:Bool) (last:Ev) (q:WP):List Value :=
 [vi c.half,vi c.width,vi c.gap,vi c.span,vi c.floor,vi c.crowd,.slice A n cap,.bool any,
  .string last.src,.int .i64 last.num,.int .i64 last.at_,.int .i64 last.kind,.string last.person,.string last.item,.int .i64 last.val,.string last.text,
  .map (some q.ba),.map (some q.bf),.pointer (some ⟨q.pc,0,none⟩),.pointer (some ⟨q.pw,0,none⟩),.pointer (some ⟨q.pd,0,none⟩),.pointer (some ⟨q.pp,0,none⟩),.pointer (some ⟨q.ps,0,none⟩),.pointer none]
structure Qnb (w:World) (col:Nat→Nat) (c:Cfg) (q:WP) (t:Cts):Prop where
 cat:Qh8 w (fun k=>col k=1) q.pc t.cs
 crowd:Qc7 w (fun k=>col k=2) q.pw (Qw c.half) t.rs
 dec:Qoz w (fun k=>col k=3) q.pd (Qw c.half) t.dn t.ds
 pane:Qqy w (fun k=>col k=4) q.pp (Qw c.width) t.pn t.ps
 ses:Qwh w (fun k=>col k=5) q.ps (Qtd c.gap) t.ss
theorem Qnb.keep {w w1:World} {col col':Nat→Nat} {c:Cfg} {q:WP} {t:Cts} (h:Qnb w col c q t) (hk:∀ k,k<w.heap.size→1≤col k∧col k≤5→w1.heap[k]? = w.heap[k]? ∧ col' k=col k):Qnb w1 col' c q t :=
 ⟨h.cat.keep fun k h1 h2=>⟨(hk k h1 (by omega)).1,by rw[(hk k h1 (by omega)).2];exact h2⟩,
  h.crowd.keep fun k h1 h2=>⟨(hk k h1 (by omega)).1,by rw[(hk k h1 (by omega)).2];exact h2⟩,
  h.dec.keep fun k h1 h2=>⟨(hk k h1 (by omega)).1,by rw[(hk k h1 (by omega)).2];exact h2⟩,
  h.pane.keep fun k h1 h2=>⟨(hk k h1 (by omega)).1,by rw[(hk k h1 (by omega)).2];exact h2⟩,
  h.ses.keep fun k h1 h2=>⟨(hk k h1 (by omega)).1,by rw[(hk k h1 (by omega)).2];exact h2⟩⟩
structure Qbi (w:World) (base:Nat) (p:Nat) (c:Cfg) (s:WS) (col:Nat→Nat) (q:WP) (A:Option Addr) (cap:Nat):Prop where
 low:10≤base∧∀ k,col k≠0→base≤k
 head:At w p 69 (wC c A s.es.length cap s.any s.last q)
 cols:col p=6∧col q.ba=7∧col q.bf=8∧∀ a,A=some a→col a.block=9
 added:MapAt w q.ba idV (Qav Value.bool s.ad)
 forg:MapAt w q.bf Value.string (Qav Value.bool s.fg)
 evs:Own evC 8 34 0 w A cap s.es
 cts:Qnb w col c q s.ct
def Qfp (w:World) (base:Nat) (p:Nat) (c:Cfg) (s:WS):Prop:=∃ col q A cap,Qbi w base p c s col q A cap
theorem Qfp.ext {w w1:World} {base p:Nat} {c:Cfg} {s:WS} (h:Qfp w base p c s) (hx:Ext w w1):Qfp w1 base p c s:=by
 obtain⟨col,q,A,cap,h⟩:=h
 exact⟨col,q,A,cap,h.low,h.head.ext hx,h.cols,h.added.ext hx,h.forg.ext hx,h.evs.ext hx,h.cts.keep fun k hk _=>⟨hx.block k hk,rfl⟩⟩
theorem Q9b:Tryz.prog.underlying 63=some (.map 76 4):=by kernel_rfl
def Q4c (n0 n1 n2 n3 n4 n5 k:Nat):Nat:=if k<n0 then 0 else if k<n1 then 1 else if k<n2 then 2 else if k<n3 then 3 else if k<n4 then 4 else if k<n5 then 5 else 0
set_option maxHeartbeats 2000000 in
theorem Qnz (w:World) (p:Nat) (c:Cfg) (v6 v7 v8 v9 v10 v11 v12 v13 v14 v15 v16 v17 x0 x1 x2 x3 x4 x5:Value)
 (hp:At w p 69 [vi c.half,vi c.width,vi c.gap,vi c.span,vi c.floor,vi c.crowd,v6,v7,v8,v9,v10,v11,v12,v13,v14,v15,v16,v17,x0,x1,x2,x3,x4,x5]) :
 Cal Tryz.prog 34 [.pointer (some ⟨p,0,none⟩)] w fun r w'=>r = .tuple #[]∧∃ (pc pw pd pp ps:Nat) (col:Nat→Nat),At w' p 69 [vi c.half,vi c.width,vi c.gap,vi c.span,vi c.floor,vi c.crowd,v6,v7,v8,v9,v10,v11,v12,v13,v14,v15,v16,v17,.pointer (some ⟨pc,0,none⟩),.pointer (some ⟨pw,0,none⟩),.pointer (some ⟨pd,0,none⟩),.pointer (some ⟨pp,0,none⟩),.pointer (some ⟨ps,0,none⟩),.pointer none] ∧
  (∀ ba bf,Qnb w' col c ⟨ba,bf,pc,pw,pd,pp,ps⟩ Qwf)∧(∀ k,col k≠0→w.heap.size≤k∧k<w'.heap.size∧col k≤5)∧Mod (fun k=>k=p) w w':=by
 have hplt:=hp.lt;refine Fi Tryz.func34 rfl _ rfl rfl ?_;conv=>whnf
 refine(Qto w).mono ?_;rintro _ w1 ⟨pc,rfl,hc1,hx1⟩;have s1:=hx1.size
 conv=>whnf
 refine Qh Qa (e:=ty65) rfl (hp.ext hx1) rfl rfl rfl (by simp[Qq,Value.oneCell']) fun w2 h2 ho2 => ?_
 have z2:=ho2.size
 conv=>whnf
 refine⟨_,h2.one rfl,?_⟩;conv=>whnf
 refine(Qpe c.half w2).mono ?_;rintro _ w3 ⟨pw,rfl,hc3,hx3⟩;have s3:=hx3.size
 conv=>whnf
 refine Qh Qa (e:=ty51) rfl (h2.ext hx3) rfl rfl rfl (by simp[Qq,Value.oneCell']) fun w4 h4 ho4 => ?_
 have z4:=ho4.size
 conv=>whnf
 refine⟨_,h4.one rfl,?_⟩;conv=>whnf
 refine(Qtu c.half w4).mono ?_;rintro _ w5 ⟨pd,rfl,hc5,hx5⟩;have s5:=hx5.size
 conv=>whnf
 refine Qh Qa (e:=ty59) rfl (h4.ext hx5) rfl rfl rfl (by simp[Qq,Value.oneCell']) fun w6 h6 ho6 => ?_
 have z6:=ho6.size
 conv=>whnf
 refine⟨_,h6.one rfl,?_⟩;conv=>whnf
 refine(Qyt c.width w6).mono ?_;rintro _ w7 ⟨pp,rfl,hc7,hx7⟩;have s7:=hx7.size
 conv=>whnf
 refine Qh Qa (e:=ty66) rfl (h6.ext hx7) rfl rfl rfl (by simp[Qq,Value.oneCell']) fun w8 h8 ho8 => ?_
 have z8:=ho8.size
 conv=>whnf
 refine⟨_,h8.one rfl,?_⟩;conv=>whnf
 refine(Qzk c.gap w8).mono ?_;rintro _ w9 ⟨ps,rfl,hc9,hx9⟩;have s9:=hx9.size
 conv=>whnf
 refine Qh Qa (e:=ty55) rfl (h8.ext hx9) rfl rfl rfl (by simp[Qq,Value.oneCell']) fun w10 h10 ho10 => ?_
 have z10:=ho10.size
 conv=>whnf
 refine Qh Qa (e:=ty67) rfl h10 rfl rfl rfl (by simp[Qq,Value.oneCell']) fun w11 h11 ho11 => ?_
 have z11:=ho11.size
 conv=>whnf
 have hm1:Mod (fun k=>k=p) w w2:=(Mod.of_ext hx1).trans ho2.mod;have hm3:Mod (fun k=>k=p) w2 w4:=(Mod.of_ext hx3).trans ho4.mod;have hm5:Mod (fun k=>k=p) w4 w6:=(Mod.of_ext hx5).trans ho6.mod;have hm7:Mod (fun k=>k=p) w6 w8:=(Mod.of_ext hx7).trans ho8.mod;have hm9:Mod (fun k=>k=p) w8 w11:=(Mod.of_ext hx9).trans (ho10.mod.trans ho11.mod);have k9:Mod (fun k=>k=p) w9 w11:=ho10.mod.trans ho11.mod;have k7:Mod (fun k=>k=p) w7 w11:=ho8.mod.trans hm9;have k5:Mod (fun k=>k=p) w5 w11:=ho6.mod.trans (hm7.trans hm9);have k3:Mod (fun k=>k=p) w3 w11:=ho4.mod.trans (hm5.trans (hm7.trans hm9));have k1:Mod (fun k=>k=p) w1 w11:=ho2.mod.trans (hm3.trans (hm5.trans (hm7.trans hm9)));refine⟨rfl,pc,pw,pd,pp,ps,Q4c w.heap.size w1.heap.size w3.heap.size w5.heap.size w7.heap.size w9.heap.size,h11,fun ba bf=>⟨?_,?_,?_,?_,?_⟩,?_,hm1.trans (hm3.trans (hm5.trans (hm7.trans hm9)))⟩
 · refine hc1.keep fun k h1 h2=>⟨k1.block k h1 (by omega),?_⟩
   unfold Q4c;rw[if_neg (by omega),if_pos h1]
 · refine hc3.keep fun k h1 h2=>⟨k3.block k h1 (by omega),?_⟩
   unfold Q4c;rw[if_neg (by omega),if_neg (by omega),if_pos h1]
 · refine hc5.keep fun k h1 h2=>⟨k5.block k h1 (by omega),?_⟩
   unfold Q4c;rw[if_neg (by omega),if_neg (by omega),if_neg (by omega),if_pos h1]
 · refine hc7.keep fun k h1 h2=>⟨k7.block k h1 (by omega),?_⟩
   unfold Q4c;rw[if_neg (by omega),if_neg (by omega),if_neg (by omega),if_neg (by omega),if_pos h1]
 · refine hc9.keep fun k h1 h2=>⟨k9.block k h1 (by omega),?_⟩
   unfold Q4c;rw[if_neg (by omega),if_neg (by omega),if_neg (by omega),if_neg (by omega),if_neg (by omega),if_pos h1]
 · intro k hk
   unfold Q4c at hk ⊢
   repeat' split at hk
   all_goals first
    | exact absurd rfl hk
    | (refine⟨by omega,by omega,?_⟩;repeat' split;all_goals omega)
def WS0:WS:=⟨[],false,Q6r,[],[],Qwf⟩
theorem Qi8 (c:Cfg) (w:World) (hg:10≤w.heap.size) (hc:Qo7 c=true):Cal Tryz.prog 10 [Q0a c] w fun r w'=>∃ p,r = .tuple #[.pointer (some ⟨p,0,none⟩),.int .i64 0]∧Qfp w' w.heap.size p c WS0∧Ext w w':=by
 refine Fi Tryz.func10 rfl _ rfl rfl ?_;conv=>whnf
 intro b1 w1 hn1;have hb1:At w1 b1 23 (Qi9 c):=hn1.At
 conv=>whnf
 refine⟨Qi9 c,⟨rfl,hb1.all⟩,?_⟩;conv=>whnf
 refine(Qs6 c w1).mono ?_;rintro _ w2 ⟨rfl,hx2⟩;rw[hc];have hb2:=hb1.ext hx2
 conv=>whnf
 constructor
 · intro q;cases q
 intro _
 conv=>whnf
 refine⟨Qi9 c,⟨rfl,hb2.all⟩,?_⟩;conv=>whnf
 intro b3 w3 hn3;conv=>whnf
 intro b4 w4 hn4;conv=>whnf
 intro b5 w5 hn5;conv=>whnf
 have e3:=hn3.block;have e4:=hn4.block;have e5:=hn5.block;have s1:=hn1.size;have s2:=hx2.size;have s3:=hn3.size;have s4:=hn4.size;have s5:=hn5.size;have e1:=hn1.block;refine(Qnz w5 b5 c _ _ _ _ _ _ _ _ _ _ _ _ _ _ _ _ _ _ hn5.At).mono ?_;rintro _ w6 ⟨rfl,pc,pw,pd,pp,ps,col,h6,hcts,hcol,hm6⟩
 conv=>whnf
 have hx5:Ext w w5:=(((hn1.ext.trans hx2).trans hn3.ext).trans hn4.ext).trans hn5.ext
 have hz:∀ k,k<w5.heap.size→col k=0:=fun k hk=>by
  cases hq:decide (col k=0) with
  | true=>simpa using hq
  | false=>have:=hcol k (by simpa using hq);omega
 refine⟨b5,rfl,⟨fun k=>if k=b5 then 6 else if k=b3 then 7 else if k=b4 then 8 else col k,⟨b3,b4,pc,pw,pd,pp,ps⟩,none,0,⟨hg,fun k hk => ?_⟩,h6,⟨by simp,?_,?_,by simp⟩,?_,?_,Own.nil,(hcts b3 b4).keep fun k _ hk=>⟨rfl,?_⟩⟩,Qcw hx5 hm6 (by omega)⟩
 · by_cases q:col k=0
   · by_cases q1:k=b5
     · omega
     · by_cases q2:k=b3
       · omega
       · by_cases q3:k=b4
         · omega
         · simp[q1,q2,q3,q] at hk
   · have:=hcol k q;omega
 · have:b3≠b5:=by omega
   simp[this]
 · have h1:b4≠b5:=by omega
   have h2:b4≠b3:=by omega
   simp[h1,h2]
 · exact((MapAt.new hn3).ext (hn4.ext.trans hn5.ext)).mod hm6 (by omega)
 · exact((MapAt.new hn4).ext hn5.ext).mod hm6 (by omega)
 · have hk5:w5.heap.size≤k:=by
    have:=hcol k (by omega);exact this.1
   rw[if_neg (by omega),if_neg (by omega),if_neg (by omega)]
theorem Qca:∀ cs:List Ev,(∀ e∈cs,Xw e=true)→∀ name,(Xf cs name).length≤cs.length∧∀ s∈Xf cs name,s.item.tags.size<1000:=by
 refine Xe (fun _ name=>by simp[Xf]) fun l e ih h name => ?_
 have ih:=ih (fun x hx=>h x (by simp[hx]));rw[Qcl];unfold Qgk Qno
 split
 · next hn =>
   have hi:=ih e.item;refine⟨by simp;omega,fun s hs => ?_⟩;rcases List.mem_append.1 hs with hs | hs
   · exact hi.2 s hs
   · rw[List.mem_singleton] at hs
     subst hs
     have h0:((Xf l e.item).getLast?.getD (Qi0 e.item)).item.tags.size<1000:=by
      cases hq:(Xf l e.item).getLast? with
      | none=>simp[Qi0,Qce,ByteArray.size]
      | some s=>exact hi.2 s (List.mem_of_getLast? hq)
     have ht:=Qet (h e (by simp));have hr:=Qiu e.text;unfold Qga Qat
     split
     · show (Qaj e.text).size<1000;omega
     · split
       · exact h0
       · exact h0
 · have:=ih name
   exact⟨by simp;omega,this.2⟩
theorem Qnx (cs:List Ev) (h:∀ e∈cs,Xw e=true) (name:ByteArray) (t:Int):(Xz cs name t).1.tags.size<1000:=by
 unfold Xz
 split
 · next s hs =>
   split
   · simp[Qce,ByteArray.size]
   · exact(Qca cs h name).2 s (List.mem_of_getElem? hs)
 · simp[Qce,ByteArray.size]
def Qo (width:Int) (l:List Ev):Cts:=l.foldl (Qdi width) Qwf
theorem Qbu (width:Int) (l:List Ev) (e:Ev):Qo width (l ++ [e])=Qdi width (Qo width l) e:=by unfold Qo;rw[List.foldl_append];rfl
structure Q8p (t:Cts) (l:List Ev):Prop where
 cs:t.cs.Sublist l
 rs:(evs t.rs).Sublist l
 dn:0≤t.dn∧t.dn≤l.length
 pn:0≤t.pn∧t.pn≤l.length
 ds:Qd7 t.ds (l.length*5)
 ps:Qgf t.ps (l.length*5)
 pl:t.ps.length≤l.length
theorem Qfr {κ β:Type} [DecidableEq κ] (k:κ) (v:β):∀ l:List (κ×β),(Xn l k v).length≤l.length+1
 | []=>by simp[Xn]
 | x :: l=>by
   have:=Qfr k v l;unfold Xn
   split <;> simp <;> omega
theorem Qi2 {s:Qkm} {N M:Int} (h:Qd7 s N) (hl:N≤M):Qd7 s M:=fun k t=>⟨(h k t).1,by have:=(h k t).2;omega⟩
theorem Qfi {s:Qbg} {N M:Int} (h:Qgf s N) (hl:N≤M):Qgf s M:=fun x hx=>⟨(h x hx).1,by have:=(h x hx).2;omega⟩
theorem Qwz (rs:List Row) (r:Row):evs (rs ++ [r])=evs rs ++ [r.1]:=by simp[evs]
theorem Qez (width:Int):∀ l:List Ev,(∀ e∈l,Xw e=true)→Q8p (Qo width l) l:=by
 refine Xe (fun _=>⟨by simp[Qo,Qwf],by simp[Qo,Qwf,evs],by simp[Qo,Qwf],by simp[Qo,Qwf],?_,?_,by simp[Qo,Qwf]⟩) fun l e ih h => ?_
 · intro k t;simp[Qo,Qwf,Qd]
 · intro x hx;simp[Qo,Qwf] at hx
 have ih:=ih fun x hx=>h x (by simp[hx])
 have hw:=Qdg (h e (by simp));have hN:((l ++ [e]).length:Int)=l.length+1:=by simp
 rw[Qbu];generalize Qo width l=t at ih;unfold Qdi;have hle:l.Sublist (l ++ [e]):=List.sublist_append_left l [e]
 split
 · exact⟨List.Sublist.append ih.cs (List.Sublist.refl _),ih.rs.trans hle,by have:=ih.dn;rw[hN];simp;omega,by have:=ih.pn;rw[hN];simp;omega,Qi2 ih.ds (by omega),Qfi ih.ps (by omega),by have:=ih.pl;simp;omega⟩
 split
 · exact⟨ih.cs.trans hle,ih.rs.trans hle,by have:=ih.dn;omega,by have:=ih.pn;omega,Qi2 ih.ds (by omega),Qfi ih.ps (by omega),by have:=ih.pl;simp;omega⟩
 split
 · refine⟨ih.cs.trans hle,?_,by have:=ih.dn;rw[hN];simp;omega,by have:=ih.pn;rw[hN];simp;omega,Qi2 (Qy2 ih.ds _ _ _ hw.1) (by omega),Qfi (Qy1 ih.ps (by omega) _ hw.1) (by omega),?_⟩
   · show (evs (t.rs ++ [_])).Sublist _
     rw[Qwz]
     exact List.Sublist.append ih.rs (List.Sublist.refl _)
   · have:=ih.pl
     show (Qog _ _ _).length≤_
     unfold Qog
     split
     · simp;omega
     · have:=Qfr (e.item,e.at_/Qw width) ((Qd t.ps (e.item,e.at_/Qw width)).getD 0+Qv e) t.ps
       simp;omega
 · refine⟨ih.cs.trans hle,?_,by have:=ih.dn;rw[hN];simp;omega,by have:=ih.pn;rw[hN];simp;omega,Qi2 ih.ds (by omega),Qfi ih.ps (by omega),by have:=ih.pl;simp;omega⟩
   show (evs (t.rs ++ [_])).Sublist _
   rw[Qwz]
   exact List.Sublist.append ih.rs (List.Sublist.refl _)
theorem Qxm {l cs:List Ev} {e:Ev} (h:cs.Sublist l) (hr:Rise (l ++ [e])):cs = []∨Qbw (Qe2 cs) e=true:=by
 have:Rise (cs ++ [e]):=List.Pairwise.sublist (List.Sublist.append h (List.Sublist.refl [e])) hr
 exact Q2j this
def Qcr (col:Nat→Nat) (w w1:World) (i k:Nat):Nat:=if k<w.heap.size then col k else if k<w1.heap.size then i else 0
theorem Qa5 {col:Nat→Nat} {w w1:World} {i k:Nat} (h:k<w.heap.size):Qcr col w w1 i k=col k:=if_pos h
theorem Qfj {col:Nat→Nat} {w w1:World} {i k:Nat} (h1:k<w1.heap.size) (h:Grow (fun k=>col k=i) w k):Qcr col w w1 i k=i:=by
 unfold Qcr
 by_cases hk:k<w.heap.size
 · rw[if_pos hk]
   rcases h with h | h
   · exact h
   · omega
 · rw[if_neg hk,if_pos h1]
theorem Qdn {col:Nat→Nat} {w w1:World} {i k:Nat} (hs:w.heap.size≤w1.heap.size) (h:w1.heap.size≤k):Qcr col w w1 i k=0:=by
 unfold Qcr;rw[if_neg (by omega),if_neg (by omega)]
theorem Qnb.one {w w1:World} {col:Nat→Nat} {i:Nat} {c:Cfg} {q:WP} {t t':Cts} (h:Qnb w col c q t) (hm:Mod (fun k=>col k=i) w w1) (hi:1≤i∧i≤5)
 (h1:if i=1 then Qh8 w1 (Grow (fun k=>col k=i) w) q.pc t'.cs else t'.cs=t.cs)
 (h2:if i=2 then Qc7 w1 (Grow (fun k=>col k=i) w) q.pw (Qw c.half) t'.rs else t'.rs=t.rs)
 (h3:if i=3 then Qoz w1 (Grow (fun k=>col k=i) w) q.pd (Qw c.half) t'.dn t'.ds else t'.dn=t.dn∧t'.ds=t.ds)
 (h4:if i=4 then Qqy w1 (Grow (fun k=>col k=i) w) q.pp (Qw c.width) t'.pn t'.ps else t'.pn=t.pn∧t'.ps=t.ps)
 (h5:if i=5 then Qwh w1 (Grow (fun k=>col k=i) w) q.ps (Qtd c.gap) t'.ss else t'.ss=t.ss):Qnb w1 (Qcr col w w1 i) c q t' where
 cat:=by
  split at h1
  · next e=>exact h1.keep fun k hk hg=>⟨rfl,by rw[Qfj hk hg,e]⟩
  · next e=>rw[h1];exact h.cat.keep fun k hk hg=>⟨hm.block k hk (by omega),by rw[Qa5 hk,hg]⟩
 crowd:=by
  split at h2
  · next e=>exact h2.keep fun k hk hg=>⟨rfl,by rw[Qfj hk hg,e]⟩
  · next e=>rw[h2];exact h.crowd.keep fun k hk hg=>⟨hm.block k hk (by omega),by rw[Qa5 hk,hg]⟩
 dec:=by
  split at h3
  · next e=>exact h3.keep fun k hk hg=>⟨rfl,by rw[Qfj hk hg,e]⟩
  · next e=>rw[h3.1,h3.2];exact h.dec.keep fun k hk hg=>⟨hm.block k hk (by omega),by rw[Qa5 hk,hg]⟩
 pane:=by
  split at h4
  · next e=>exact h4.keep fun k hk hg=>⟨rfl,by rw[Qfj hk hg,e]⟩
  · next e=>rw[h4.1,h4.2];exact h.pane.keep fun k hk hg=>⟨hm.block k hk (by omega),by rw[Qa5 hk,hg]⟩
 ses:=by
  split at h5
  · next e=>exact h5.keep fun k hk hg=>⟨rfl,by rw[Qfj hk hg,e]⟩
  · next e=>rw[h5];exact h.ses.keep fun k hk hg=>⟨hm.block k hk (by omega),by rw[Qa5 hk,hg]⟩
def Qa9 (w:World) (base p:Nat) (c:Cfg) (s:WS) (col:Nat→Nat):Prop:=(∃ q A cap,Qbi w base p c s col q A cap)∧∀ k,w.heap.size≤k→col k=0
theorem Qfp.col {w:World} {base p:Nat} {c:Cfg} {s:WS} (h:Qfp w base p c s):∃ col,Qa9 w base p c s col:=by
 obtain⟨col,q,A,cap,h⟩:=h;have hr:∀ {k},k<w.heap.size→Qcr col w w 0 k=col k:=fun hk=>Qa5 hk
 refine⟨Qcr col w w 0,⟨q,A,cap,⟨h.low.1,fun k hk => ?_⟩,h.head,⟨(hr h.head.lt).trans h.cols.1,(hr h.added.lt).trans h.cols.2.1,(hr h.forg.lt).trans h.cols.2.2.1,fun a ha=>(hr (h.evs.block ha).2).trans (h.cols.2.2.2 a ha)⟩,h.added,h.forg,h.evs,h.cts.keep fun k hk _=>⟨rfl,hr hk⟩⟩,fun k hk=>Qdn (Nat.le_refl _) hk⟩
 by_cases hlt:k<w.heap.size
 · rw[hr hlt] at hk;exact h.low.2 k hk
 · exact absurd (Qdn (Nat.le_refl _) (by omega)) hk
theorem Qa9.at_ {w:World} {base p:Nat} {c:Cfg} {s:WS} {col:Nat→Nat} (h:Qa9 w base p c s col):Qfp w base p c s:=by
 obtain⟨⟨q,A,cap,h⟩,_⟩:=h;exact⟨col,q,A,cap,h⟩
theorem Qbi.ext {w w1:World} {base p:Nat} {c:Cfg} {s:WS} {col:Nat→Nat} {q:WP} {A:Option Addr} {cap:Nat} (h:Qbi w base p c s col q A cap) (hx:Ext w w1):Qbi w1 base p c s col q A cap :=
 ⟨h.low,h.head.ext hx,h.cols,h.added.ext hx,h.forg.ext hx,h.evs.ext hx,h.cts.keep fun k hk _=>⟨hx.block k hk,rfl⟩⟩
theorem Qa9.ext {w w1:World} {base p:Nat} {c:Cfg} {s:WS} {col:Nat→Nat} (h:Qa9 w base p c s col) (hx:Ext w w1):Qa9 w1 base p c s col:=by
 obtain⟨⟨q,A,cap,h⟩,hz⟩:=h
 exact⟨⟨q,A,cap,h.ext hx⟩,fun k hk=>hz k (by have:=hx.size;omega)⟩
theorem Qbi.one {w w1:World} {base p:Nat} {c:Cfg} {s:WS} {col:Nat→Nat} {q:WP} {A:Option Addr} {cap i:Nat} {t:Cts} (h:Qbi w base p c s col q A cap) (hi:1≤i∧i≤5) (hm:Mod (fun k=>col k=i) w w1) (hc:Qnb w1 (Qcr col w w1 i) c q t) :
 Qbi w1 base p c { s with ct:=t } (Qcr col w w1 i) q A cap:=by
 have hr:∀ {k},k<w.heap.size→Qcr col w w1 i k=col k:=fun hk=>Qa5 hk
 have hb:base≤w.heap.size:=by
  have:=h.low.2 p (by rw[h.cols.1];decide);have:=h.head.lt;omega
 refine⟨⟨h.low.1,fun k hk => ?_⟩,h.head.mod hm (by rw[h.cols.1];omega),⟨(hr h.head.lt).trans h.cols.1,(hr h.added.lt).trans h.cols.2.1,(hr h.forg.lt).trans h.cols.2.2.1,fun a ha=>(hr (h.evs.block ha).2).trans (h.cols.2.2.2 a ha)⟩,h.added.mod hm (by rw[h.cols.2.1];omega),h.forg.mod hm (by rw[h.cols.2.2.1];omega),h.evs.keep fun a ha=>hm.block _ (h.evs.block ha).2 (by rw[h.cols.2.2.2 a ha];omega),hc⟩
 by_cases hlt:k<w.heap.size
 · rw[hr hlt] at hk;exact h.low.2 k hk
 · omega
theorem Qj5 {w:World} {base p:Nat} {c:Cfg} {s:WS} {col:Nat→Nat} {q:WP} {A:Option Addr} {cap:Nat} (h:Qbi w base p c s col q A cap) {i:Nat} (hi:i≠0):∀ k,col k=i→10≤k:=fun k hk=>by
 have:=h.low.2 k (by omega);have:=h.low.1;omega
theorem Qvo (s:ByteArray) (w:World) (hg:Gl w) (hs:s.size<4000000000) :
 Cal Tryz.prog 198 [.string s,.string ⟨#[44]⟩] w fun r w'=>∃ A c,r = .slice A (Qbp 44 s).length c∧SlT w' A (Qbp 44 s)∧(∀ a,A=some a→w.heap.size≤a.block)∧Ext w w':=by
 obtain⟨m,hm⟩:=hg.maxLen;refine Qb9 Qxb (Tryz.strings_Split s ⟨#[44]⟩ m w (by omega) hm (by decide)) ?_;rintro w' rfl;have hlen:=Lib.splitB_all ⟨#[44]⟩ (by decide) 0 _ s rfl;have hsp:=Qmr s.size s (Nat.le_refl _);rw[hsp] at hlen;have hn:New w (w.alloc (.cells ((Qbp 44 s).flatMap Qa8).toArray 9)) w.heap.size (.cells ((Qbp 44 s).flatMap Qa8).toArray 9):=⟨rfl,rfl⟩;refine⟨some ⟨w.heap.size,0,none⟩,Lib.countB s ⟨#[44]⟩+1,by rw[hlen],?_,fun a ha=>by injection ha with ha;subst ha;exact Nat.le_refl _,?_⟩
 · rw[hsp,← Qk1];exact Qej X7 hn
 · rw[hsp,← Qk1];exact hn.ext
theorem Qt1 (s:ByteArray) (w:World) (hg:Gl w) (hs:s.size<4000000000) :
 Cal Tryz.prog 132 [.string s] w fun r w'=>∃ A c,r = .slice A (Xd s).length c∧SlT w' A (Xd s)∧(∀ a,A=some a→w.heap.size≤a.block)∧Ext w w':=by
 have hrs:=Qiu s;refine Fi Tryz.func132 rfl _ rfl rfl ?_;conv=>whnf
 refine(Qk0 s w hg hs).mono ?_;rintro _ w1 ⟨rfl,hx1⟩;conv=>whnf
 constructor
 · intro h
   have h:Qaj s=⟨#[]⟩:=by simpa using h
   conv=>whnf
   have ht:Xd s = []:=by rw[Qei,if_pos h]
   exact⟨none,0,by rw[ht];rfl,by rw[ht];exact Sl.nil,fun a ha=>(by cases ha),hx1⟩
 · intro h
   have h:¬ Qaj s=⟨#[]⟩:=by simpa using h
   conv=>whnf
   refine(Qvo (Qaj s) w1 (hg.ext hx1) (by omega)).mono ?_;rintro _ w2 ⟨A,c,rfl,hsl,hnew,hx2⟩;conv=>whnf
   have ht:Xd s=Qbp 44 (Qaj s):=by rw[Qei,if_neg h]
   exact⟨A,c,by rw[ht],by rw[ht];exact hsl,fun a ha=>Nat.le_trans hx1.size (hnew a ha),hx1.trans hx2⟩
theorem Qbi.reh {w w1:World} {base p:Nat} {c:Cfg} {s:WS} {col:Nat→Nat} {q:WP} {A:Option Addr} {cap:Nat} (h:Qbi w base p c s col q A cap) (ho:Only w w1 p) {any:Bool} {last:Ev} (h1:At w1 p 69 (wC c A s.es.length cap any last q)) :
 Qbi w1 base p c { s with any:=any,last:=last } col q A cap:=by
 have hp:=h.cols.1;refine⟨h.low,h1,h.cols,h.added.keep (ho.block _ fun e => ?_),h.forg.keep (ho.block _ fun e => ?_),h.evs.keep fun a ha=>ho.block _ fun e => ?_,h.cts.keep fun k _ hk=>⟨ho.block _ fun e => ?_,rfl⟩⟩
 · have:=h.cols.2.1;rw[e] at this;omega
 · have:=h.cols.2.2.1;rw[e] at this;omega
 · have:=h.cols.2.2.2 a ha;rw[e] at this;omega
 · rw[e] at hk;omega
theorem Qk6 {w w1 w2:World} {col col8:Nat→Nat} {i:Nat} (hi:1≤i∧i≤6) (h:Mod (fun k=>1≤col k∧col k≤6) w w1) (hr:∀ k,k<w.heap.size→col8 k=col k) (hm:Mod (fun k=>col8 k=i) w1 w2):Mod (fun k=>1≤col k∧col k≤6) w w2:=by
 refine Xa h (hm.mono fun k _ hk => ?_)
 by_cases hlt:k<w.heap.size
 · exact .inl (by show 1≤col k∧col k≤6;rw[← hr k hlt,hk];exact hi)
 · exact .inr (by omega)
theorem Qn1 (w:World) (base p:Nat) (c:Cfg) (hcf:Qo7 c=true) (s:WS) (col:Nat→Nat) (h:Qa9 w base p c s col) (hg:Gl w) (l:List Ev) (hs:s.ct=Qo c.width l) (hml:∀ x∈l,Xw x=true) (e:Ev) (hm:Xw e=true) (hr:Rise (l ++ [e])) (hl:l.length<1000000) :
 Cal Tryz.prog 80 [.pointer (some ⟨p,0,none⟩),evV e] w fun r w'=>r = .tuple #[]∧∃ col',Qa9 w' base p c { s with ct:=Qdi c.width s.ct e } col'∧(∀ k,k<w.heap.size→col' k=col k)∧Mod (fun k=>1≤col k∧col k≤6) w w':=by
 obtain⟨⟨q,A,cap,h⟩,hz⟩:=h;have hB:=Qez c.width l hml;rw[← hs] at hB;have hlt:=Qet hm;have hmk:=Qw8 hm;have hmcs:∀ x∈s.ct.cs,Xw x=true:=fun x hx=>hml x (hB.cs.subset hx)
 have hlcs:=hB.cs.length_le;have hlrs:s.ct.rs.length≤l.length:=by have:=hB.rs.length_le;simpa [evs] using this
 have hat:=(Qb8.1 hm).at_;refine Fi Tryz.func80 rfl _ rfl rfl ?_;conv=>whnf
 intro b1 w1 hn1;have hb1:=hn1.At;have e1:=hn1.block;have s1:=hn1.size;have hg1:=hg.ext hn1.ext;have h1:=h.ext hn1.ext;have hc1:col b1=0:=hz b1 (by omega)
 conv=>whnf
 refine Xk Qa (ι:=Unit) (fun _ => [(0,.pointer (some ⟨p,0,none⟩)),(3,.pointer (some ⟨b1,0,none⟩))]) (fun _ w'=>w'=w1∧e.kind<11) ?_ ?_
 · (conv=>whnf)
   refine⟨_,hb1.one rfl,?_⟩;conv=>whnf
   refine Xk Qa (ι:=Bool) (fun i => [(0,.pointer (some ⟨p,0,none⟩)),(3,.pointer (some ⟨b1,0,none⟩)),(9,.int .i64 e.kind),(10,.bool i)]) (fun i w'=>i=decide (e.kind=11∨e.kind=12∨e.kind=13)∧w'=w1) ?_ ?_
   · (conv=>whnf)
     refine⟨fun k => ?_,fun k => ?_⟩
     · have k:e.kind=11:=by simpa using k
       conv=>whnf
       exact⟨_,⟨by simp[k],rfl⟩,⟨rfl,rfl,rfl,rfl,trivial⟩⟩
     have k1:¬ e.kind=11:=by simpa using k
     conv=>whnf
     refine⟨fun k => ?_,fun k => ?_⟩
     · have k:e.kind=12:=by simpa using k
       conv=>whnf
       exact⟨_,⟨by simp[k],rfl⟩,⟨rfl,rfl,rfl,rfl,trivial⟩⟩
     have k2:¬ e.kind=12:=by simpa using k
     conv=>whnf
     exact⟨_,⟨by simp[k1,k2],rfl⟩,⟨rfl,rfl,rfl,rfl,trivial⟩⟩
   rintro i w3 ⟨hi,hw⟩;replace hw:=hw.symm;subst hw hi
   conv=>whnf
   refine⟨fun k => ?_,fun k => ?_⟩
   · have k:e.kind=11∨e.kind=12∨e.kind=13:=by simpa using k
     conv=>whnf
     refine Dr .same [0,1,2,3,4] [5] ?_;conv=>whnf
     have h1d:=h1.ext (Ext.refl w1).drew;have hbd:At w1.drew b1 _ _:=hb1;have hgd:=hg1.ext (Ext.refl w1).drew;have hx1d:=hn1.ext.drew;generalize w1.drew=w2 at h1d hbd hgd hx1d ⊢;refine⟨_,h1d.head.one rfl,?_⟩;conv=>whnf
     refine⟨evC e,⟨rfl,hbd.all⟩,?_⟩;conv=>whnf
     refine(Qo6 w2 _ q.pc s.ct.cs h1d.cts.cat hgd (Qj5 h1d (by decide)) e hm k (by omega) (Qxm hB.cs hr) (by have:=(Qca s.ct.cs hmcs e.item).1;omega)).mono ?_;rintro _ w4 ⟨rfl,hc4,hm4⟩
     conv=>whnf
     have hW:Qbi w4 base p c { s with ct:={ s.ct with cs:=s.ct.cs ++ [e] } } _ q A cap:=h1d.one (i:=1) (by omega) hm4 (h1d.cts.one (t':={ s.ct with cs:=s.ct.cs ++ [e] }) hm4 (by omega) hc4 rfl ⟨rfl,rfl⟩ ⟨rfl,rfl⟩ rfl);have hct:Qdi c.width s.ct e={ s.ct with cs:=s.ct.cs ++ [e] }:=by unfold Qdi;rw[if_pos k]
     rw[hct];refine⟨rfl,_,⟨⟨q,A,cap,hW⟩,fun j hj=>Qdn hm4.size hj⟩,fun j hj=>Qa5 (by have:=hx1d.size;omega),(Mod.of_ext hx1d).trans (hm4.mono fun j _ hj=>by rw[hj];decide)⟩
   have k:¬ (e.kind=11∨e.kind=12∨e.kind=13):=by simpa using k
   conv=>whnf
   refine⟨fun k4 => ?_,fun k4 => ?_⟩
   · have k4:e.kind=14:=by simpa using k4
     conv=>whnf
     have hct:Qdi c.width s.ct e=s.ct:=by unfold Qdi;rw[if_neg k,if_pos k4]
     rw[hct]
     exact⟨rfl,col,⟨⟨q,A,cap,h1⟩,fun j hj=>hz j (by omega)⟩,fun j _=>rfl,Mod.of_ext hn1.ext⟩
   have k4:¬ e.kind=14:=by simpa using k4
   conv=>whnf
   exact⟨(),⟨rfl,by omega⟩,⟨rfl,rfl,trivial⟩⟩
 rintro _ w3 ⟨hw,hk⟩;replace hw:=hw.symm;subst hw
 conv=>whnf
 refine Xk Qa (ι:=Option Addr×Nat) (fun x => [(0,.pointer (some ⟨p,0,none⟩)),(3,.pointer (some ⟨b1,0,none⟩)),(4,.slice x.1 (Qbc s.ct.cs e).length x.2)]) (fun x w'=>Ext w1 w'∧SlT w' x.1 (Qbc s.ct.cs e)∧∀ a,x.1=some a→w1.heap.size≤a.block) ?_ ?_
 · (conv=>whnf)
   refine Qh4 (ι:=Nat) (fun b5 => [(0,.pointer (some ⟨p,0,none⟩)),(3,.pointer (some ⟨b1,0,none⟩)),(4,.slice none 0 0),(5,.pointer (some ⟨b5,0,none⟩)),(6,.bool (Xz s.ct.cs e.item e.at_).2)])
    (fun b5 w'=>Ext w1 w'∧At w' b5 158 (itC (Xz s.ct.cs e.item e.at_).1)) ?_ ?_
   · refine Qdk (.mods (fun k=>w1.heap.size≤k)) (Pl.seq [0,1,2,3,4,5,6,7] (Pl.two 8 (Pl.seq [9,10,11,12,13,14] Pl.done) 12 (Pl.seq [8,9,10,11,13,14] Pl.done))) (by intro h;cases h) Qa mixed (by kernel_rfl) ?_;conv=>whnf
     have h1d:=h1.ext (Ext.refl w1).drew;have hbd:At w1.drew b1 _ _:=hb1;have hx1d:=(Ext.refl w1).drew;have hnb1:¬ (w1.heap.size≤b1):=by omega
     have hplt:=h1.head.lt;have hnp:¬ (w1.heap.size≤p):=by omega
     generalize w1.drew=w2 at h1d hbd hx1d ⊢;have hs2:=hx1d.size;have hcl:(Xf s.ct.cs e.item).length<1000000000000:=by have:=(Qca s.ct.cs hmcs e.item).1;omega
     refine⟨_,⟨h1d.head.one rfl,by rw[add_block];exact hnp⟩,?_⟩;conv=>whnf
     refine⟨_,⟨hbd.one rfl,by rw[add_block];exact hnb1⟩,?_⟩;conv=>whnf
     refine⟨_,⟨hbd.one rfl,by rw[add_block];exact hnb1⟩,?_⟩;conv=>whnf
     refine⟨?_,?_⟩
     · refine(Qha w2 _ q.pc s.ct.cs h1d.cts.cat e.item e.at_ hcl).mono ?_
       rintro _ w4 ⟨rfl,hx4⟩;refine⟨Mod.of_ext hx4,?_⟩;conv=>whnf
       intro b5 w5 hn5;refine⟨Mod.of_ext hn5.ext,?_⟩;conv=>whnf
       have e5:=hn5.block;have z4:=hx4.size;refine Qh Qa (e:=ty158) rfl hn5.At rfl rfl rfl (by simp[Qq,itC,Value.oneCell']) fun w6 h6 ho6 => ?_
       refine⟨Qn ho6 (by omega),?_⟩;conv=>whnf
       exact⟨b5,⟨ho6.ext ((hx1d.trans hx4).trans hn5.ext) (by omega),h6⟩,⟨rfl,rfl,rfl,rfl,rfl,trivial⟩⟩
     · intro b5 w5 hn5
       refine⟨Mod.of_ext hn5.ext,?_⟩;conv=>whnf
       have e5:=hn5.block;refine(Qha w5 _ q.pc s.ct.cs (h1d.cts.cat.ext hn5.ext) e.item e.at_ hcl).mono ?_;rintro _ w4 ⟨rfl,hx4⟩;refine⟨Mod.of_ext hx4,?_⟩;conv=>whnf
       refine Qh Qa (e:=ty158) rfl (hn5.At.ext hx4) rfl rfl rfl (by simp[Qq,itC,Value.oneCell']) fun w6 h6 ho6 => ?_
       refine⟨Qn ho6 (by omega),?_⟩;conv=>whnf
       exact⟨b5,⟨ho6.ext ((hx1d.trans hn5.ext).trans hx4) (by omega),h6⟩,⟨rfl,rfl,rfl,rfl,rfl,trivial⟩⟩
   rintro b5 w5 ⟨hx5,h5⟩;have hb5:=hb1.ext hx5;have hg5:=hg1.ext hx5;have z5:=hx5.size
   conv=>whnf
   refine⟨fun kk => ?_,fun kk => ?_⟩
   · have kk:(Xz s.ct.cs e.item e.at_).2=true:=kk
     have hta:Qbc s.ct.cs e=Xd (Qk9 (Xz s.ct.cs e.item e.at_).1.tags):=by unfold Qbc;rw[if_pos kk]
     have hts:=Qnx s.ct.cs hmcs e.item e.at_;rw[hta]
     conv=>whnf
     refine⟨_,h5.one rfl,?_⟩;conv=>whnf
     have hsm:(Qk9 (Xz s.ct.cs e.item e.at_).1.tags).size<1001:=by unfold Qk9;rw[ByteArray.size_append];have:(⟨#[59]⟩:ByteArray).size=1:=rfl;omega
     refine⟨sz2 (by decide) (Nat.le_of_lt (Nat.lt_trans hts (by decide))),?_⟩;conv=>whnf
     refine(Qt1 (Qk9 (Xz s.ct.cs e.item e.at_).1.tags) w5 hg5 (by omega)).mono ?_;rintro _ w6 ⟨TA,tc,rfl,ht6,hnew6,hx6⟩
     conv=>whnf
     exact⟨(TA,tc),⟨hx5.trans hx6,ht6,fun a ha=>Nat.le_trans z5 (hnew6 a ha)⟩,⟨rfl,rfl,rfl,trivial⟩⟩
   · have kk:(Xz s.ct.cs e.item e.at_).2=false:=kk
     have hta:Qbc s.ct.cs e = []:=by unfold Qbc;rw[kk];rfl
     rw[hta]
     conv=>whnf
     exact⟨(none,0),⟨hx5,Sl.nil,fun a ha=>by cases ha⟩,⟨rfl,rfl,rfl,trivial⟩⟩
 rintro ⟨TA,tc⟩ w6 ⟨hx6,hts6,hta6⟩;have hb6:=hb1.ext hx6;have h6:=h1.ext hx6;have hg6:=hg1.ext hx6;have z6:=hx6.size
 have htl:(Qbc s.ct.cs e).length<1000000:=by
  unfold Qbc
  split
  · have hts:=Qnx s.ct.cs hmcs e.item e.at_
    have:=Qqj (Qk9 (Xz s.ct.cs e.item e.at_).1.tags);unfold Qk9 at this ⊢;rw[ByteArray.size_append] at this;have h1:(⟨#[59]⟩:ByteArray).size=1:=rfl;omega
  · simp
 conv=>whnf
 refine Dr .same [0,1,2,3,4,5] [6] ?_;conv=>whnf
 replace hb6:At w6.drew b1 _ _:=hb6;replace h6:=h6.ext (Ext.refl w6).drew;replace hg6:=hg6.ext (Ext.refl w6).drew;replace hx6:=hx6.drew;replace hts6:=hts6.ext (Ext.refl w6).drew;have hxw:Ext w w6.drew:=hn1.ext.trans hx6;clear z6;generalize w6.drew=w7 at hb6 h6 hg6 hx6 hts6 hxw ⊢;have z7:=hxw.size;refine⟨_,h6.head.one rfl,?_⟩;conv=>whnf
 refine⟨evC e,⟨rfl,hb6.all⟩,?_⟩;conv=>whnf
 refine(Qlo w7 _ q.pw (Qw c.half) s.ct.rs h6.cts.crowd hg6 (Qj5 h6 (by decide)) e hm hk (by omega) (by
  rcases Qxm hB.rs hr with h | h
  · exact .inl (by simpa [evs] using h)
  · exact .inr h) (by omega) (Qbc s.ct.cs e) TA tc hts6 (fun a ha hc=>by have:=hz a.block (by have:=hta6 a ha;omega);omega) htl).mono ?_
 rintro _ w8 ⟨rfl,hc8,hm8⟩;have h8:=h6.one (i:=2) (t:={ s.ct with rs:=s.ct.rs ++ [(e,Qbo (Qbc s.ct.cs e))] }) (by omega) hm8 (h6.cts.one (t':={ s.ct with rs:=s.ct.rs ++ [(e,Qbo (Qbc s.ct.cs e))] }) hm8 (by omega) rfl hc8 ⟨rfl,rfl⟩ ⟨rfl,rfl⟩ rfl);have hb8:=hb6.mod hm8 (by omega);have hr8:∀ k,k<w.heap.size→Qcr col w7 w8 2 k=col k:=fun k hk=>Qa5 (by omega)
 have hb8c:Qcr col w7 w8 2 b1=0:=by rw[Qa5 (by have:=hb6.lt;omega)];exact hc1
 have ht8:∀ k,w8.heap.size≤k→Qcr col w7 w8 2 k=0:=fun k hk=>Qdn hm8.size hk
 have hM8:Mod (fun k=>1≤col k∧col k≤6) w w8:=(Mod.of_ext hxw).trans (hm8.mono fun j _ hj=>by rw[hj];decide);have hg8:=hg6.mod hm8 (Qj5 h6 (by decide));generalize Qcr col w7 w8 2=col8 at h8 hr8 hb8c ht8;clear hm8 hc8 h6 hb6 hg6 hx6 hxw hts6 hta6 z7 hn1 hg1 hb1 h1
 conv=>whnf
 refine⟨evC e,⟨rfl,hb8.all⟩,?_⟩;conv=>whnf
 refine(Qhq e w8).mono ?_;rintro _ w9 ⟨rfl,hx9⟩;have hwl:=Qdg hm;have h9:=h8.ext hx9;have hb9:=hb8.ext hx9;have z9:=hx9.size;have hM9:=hM8.trans (Mod.of_ext hx9);have ht9:∀ k,w9.heap.size≤k→col8 k=0:=fun k hk=>ht8 k (by omega)
 have z8:w.heap.size≤w8.heap.size:=hM8.size;clear h8 hb8 hx9 hM8 ht8 hg8 hg hz h;have kn:¬ (e.kind=11∨e.kind=12∨e.kind=13):=by omega
 have k14:¬ e.kind=14:=by omega
 conv=>whnf
 refine⟨fun kw => ?_,fun kw => ?_⟩
 case refine_2 =>
  have kw:¬ 0<Qv e:=by simpa using kw
  conv=>whnf
  have hct:Qdi c.width s.ct e={ s.ct with rs:=s.ct.rs ++ [(e,Qbo (Qbc s.ct.cs e))] }:=by unfold Qdi;rw[if_neg kn,if_neg k14,if_neg kw]
  rw[hct]
  exact⟨rfl,col8,⟨⟨q,A,cap,h9⟩,ht9⟩,hr8,hM9⟩
 have kw:0<Qv e:=by simpa using kw
 have hnm:=Qcj hm kw;have hsz1:=Xm hnm.1;have hsz2:=Xm hnm.2;have hct:Qdi c.width s.ct e=⟨s.ct.cs,s.ct.rs ++ [(e,Qbo (Qbc s.ct.cs e))],s.ct.dn+1,Qoh s.ct.ds e.item e.at_ (Qv e),s.ct.pn+1,Qog s.ct.ps (e.item,e.at_/Qw c.width) (Qv e),Q3k s.ct.ss e.person e.at_ e.item⟩:=by unfold Qdi;rw[if_neg kn,if_neg k14,if_pos kw]
 rw[hct];clear hct;have hdn:=hB.dn;have hpn:=hB.pn;have hpl:=hB.pl;have hwd:1≤Qw c.width∧Qw c.width≤1099511627776:=by unfold Qw;omega
 conv=>whnf
 refine Dr .same [0,1,2,3,4,5,6,7,8] [9] ?_;conv=>whnf
 replace hb9:At w9.drew b1 _ _:=hb9;replace h9:=h9.ext (Ext.refl w9).drew;replace hM9:=hM9.trans (Mod.of_ext (Ext.refl w9).drew);have hz9:w9.drew.heap.size=w9.heap.size:=rfl;generalize w9.drew=w10 at hb9 h9 hM9 hz9 ⊢;refine⟨_,h9.head.one rfl,?_⟩;conv=>whnf
 refine⟨_,hb9.one rfl,?_⟩;conv=>whnf
 refine⟨_,hb9.one rfl,?_⟩;conv=>whnf
 refine(Qtt w10 _ q.pd (Qw c.half) s.ct.dn s.ct.ds h9.cts.dec e.item e.at_ (Qv e) (l.length*5) hB.ds (by omega) (by omega) hsz2 hat (by omega)).mono ?_;rintro _ w11 ⟨rfl,hc11,hm11⟩
 conv=>whnf
 have h11:=h9.one (i:=3) (t:=⟨s.ct.cs,s.ct.rs ++ [(e,Qbo (Qbc s.ct.cs e))],s.ct.dn+1,Qoh s.ct.ds e.item e.at_ (Qv e),s.ct.pn,s.ct.ps,s.ct.ss⟩) (by omega) hm11 (h9.cts.one (t':=⟨s.ct.cs,s.ct.rs ++ [(e,Qbo (Qbc s.ct.cs e))],s.ct.dn+1,Qoh s.ct.ds e.item e.at_ (Qv e),s.ct.pn,s.ct.ps,s.ct.ss⟩) hm11 (by omega) rfl rfl hc11 ⟨rfl,rfl⟩ rfl);have hb11:=hb9.mod hm11 (by omega);have hr11:∀ k,k<w.heap.size→Qcr col8 w10 w11 3 k=col k:=fun k hk=>(Qa5 (by omega)).trans (hr8 k hk)
 have hb11c:Qcr col8 w10 w11 3 b1=0:=(Qa5 hb9.lt).trans hb8c;have ht11:∀ k,w11.heap.size≤k→Qcr col8 w10 w11 3 k=0:=fun k hk=>Qdn hm11.size hk
 have hM11:=Qk6 (by decide) hM9 hr8 hm11;have z11:w.heap.size≤w11.heap.size:=hM11.size;generalize Qcr col8 w10 w11 3=col11 at h11 hr11 hb11c ht11;clear hm11 hc11 h9 hb9 hM9 hr8 hb8c ht9;refine Dr .same [0,1,2,3,4,5,6,7,8] [9] ?_;conv=>whnf
 replace hb11:At w11.drew b1 _ _:=hb11;replace h11:=h11.ext (Ext.refl w11).drew;replace hM11:=hM11.trans (Mod.of_ext (Ext.refl w11).drew);have hz11:w11.drew.heap.size=w11.heap.size:=rfl;generalize w11.drew=w12 at hb11 h11 hM11 hz11 ⊢;refine⟨_,h11.head.one rfl,?_⟩;conv=>whnf
 refine⟨_,hb11.one rfl,?_⟩;conv=>whnf
 refine⟨_,hb11.one rfl,?_⟩;conv=>whnf
 refine(Qys w12 _ q.pp (Qw c.width) s.ct.pn s.ct.ps h11.cts.pane hwd e.item e.at_ (Qv e) (l.length*5) hB.ps (by omega) (by omega) (by omega) (by omega) hsz2 hat (by omega)).mono ?_;rintro _ w13 ⟨rfl,hc13,hm13⟩
 conv=>whnf
 have h13:=h11.one (i:=4) (t:=⟨s.ct.cs,s.ct.rs ++ [(e,Qbo (Qbc s.ct.cs e))],s.ct.dn+1,Qoh s.ct.ds e.item e.at_ (Qv e),s.ct.pn+1,Qog s.ct.ps (e.item,e.at_/Qw c.width) (Qv e),s.ct.ss⟩) (by omega) hm13 (h11.cts.one (t':=⟨s.ct.cs,s.ct.rs ++ [(e,Qbo (Qbc s.ct.cs e))],s.ct.dn+1,Qoh s.ct.ds e.item e.at_ (Qv e),s.ct.pn+1,Qog s.ct.ps (e.item,e.at_/Qw c.width) (Qv e),s.ct.ss⟩) hm13 (by omega) rfl rfl ⟨rfl,rfl⟩ hc13 rfl);have hb13:=hb11.mod hm13 (by omega);have hr13:∀ k,k<w.heap.size→Qcr col11 w12 w13 4 k=col k:=fun k hk=>(Qa5 (by omega)).trans (hr11 k hk)
 have hb13c:Qcr col11 w12 w13 4 b1=0:=(Qa5 hb11.lt).trans hb11c;have ht13:∀ k,w13.heap.size≤k→Qcr col11 w12 w13 4 k=0:=fun k hk=>Qdn hm13.size hk
 have hM13:=Qk6 (by decide) hM11 hr11 hm13;have z13:w.heap.size≤w13.heap.size:=hM13.size;generalize Qcr col11 w12 w13 4=col13 at h13 hr13 hb13c ht13;clear hm13 hc13 h11 hb11 hM11 hr11 hb11c ht11;refine Dr .same [0,1,2,3,4,5,6,7,8,9] [10] ?_;conv=>whnf
 replace hb13:At w13.drew b1 _ _:=hb13;replace h13:=h13.ext (Ext.refl w13).drew;replace hM13:=hM13.trans (Mod.of_ext (Ext.refl w13).drew);have hz13:w13.drew.heap.size=w13.heap.size:=rfl;generalize w13.drew=w14 at hb13 h13 hM13 hz13 ⊢;refine⟨_,h13.head.one rfl,?_⟩;conv=>whnf
 refine⟨_,hb13.one rfl,?_⟩;conv=>whnf
 refine⟨_,hb13.one rfl,?_⟩;conv=>whnf
 refine⟨_,hb13.one rfl,?_⟩;conv=>whnf
 refine(Qzi w14 _ q.ps (Qtd c.gap) s.ct.ss h13.cts.ses e.person e.item e.at_ hsz1 hsz2 hat).mono ?_;rintro _ w15 ⟨rfl,hc15,hm15⟩
 conv=>whnf
 have h15:=h13.one (i:=5) (t:=⟨s.ct.cs,s.ct.rs ++ [(e,Qbo (Qbc s.ct.cs e))],s.ct.dn+1,Qoh s.ct.ds e.item e.at_ (Qv e),s.ct.pn+1,Qog s.ct.ps (e.item,e.at_/Qw c.width) (Qv e),Q3k s.ct.ss e.person e.at_ e.item⟩) (by omega) hm15 (h13.cts.one (t':=⟨s.ct.cs,s.ct.rs ++ [(e,Qbo (Qbc s.ct.cs e))],s.ct.dn+1,Qoh s.ct.ds e.item e.at_ (Qv e),s.ct.pn+1,Qog s.ct.ps (e.item,e.at_/Qw c.width) (Qv e),Q3k s.ct.ss e.person e.at_ e.item⟩) hm15 (by omega) rfl rfl ⟨rfl,rfl⟩ ⟨rfl,rfl⟩ hc15);have hr15:∀ k,k<w.heap.size→Qcr col13 w14 w15 5 k=col k:=fun k hk=>(Qa5 (by omega)).trans (hr13 k hk)
 have ht15:∀ k,w15.heap.size≤k→Qcr col13 w14 w15 5 k=0:=fun k hk=>Qdn hm15.size hk
 have hM15:=Qk6 (by decide) hM13 hr13 hm15;generalize Qcr col13 w14 w15 5=col15 at h15 hr15 ht15;clear hm15 hc15 h13 hb13 hM13 hr13 hb13c ht13;refine Qh Qa (e:=ty67) rfl h15.head rfl rfl rfl (by simp[Qq,Value.oneCell']) fun w16 h16 ho16 => ?_
 conv=>whnf
 have h17:=h15.reh ho16 h16;refine⟨rfl,col15,⟨⟨q,A,cap,h17⟩,fun k hk=>ht15 k (by rw[ho16.size] at hk;exact hk)⟩,hr15,Qk6 (i:=6) (by decide) hM15 hr15 (Qn ho16 h15.cols.1)⟩
def Q0d (width:Int) (s:WS) (e:Ev):WS:=⟨s.es ++ [e],true,e,Xn s.ad (Q57 e) true,s.fg,Qdi width s.ct e⟩
section
variable {w w1:World} {base p:Nat} {c:Cfg} {s:WS} {col:Nat→Nat} {q:WP} {A:Option Addr} {cap:Nat}
theorem Qbi.addm (h:Qbi w base p c s col q A cap) (ho:Only w w1 q.ba) {ad:List (IK×Bool)} (hm:MapAt w1 q.ba idV (Qav Value.bool ad)):Qbi w1 base p c { s with ad:=ad } col q A cap:=by
 have hp:=h.cols.2.1;refine⟨h.low,ho.at_ h.head fun e => ?_,h.cols,hm,h.forg.keep (ho.block _ fun e => ?_),h.evs.keep fun a ha=>ho.block _ fun e => ?_,h.cts.keep fun k _ hk=>⟨ho.block _ fun e => ?_,rfl⟩⟩
 · have:=h.cols.1;rw[e] at this;omega
 · have:=h.cols.2.2.1;rw[e] at this;omega
 · have:=h.cols.2.2.2 a ha;rw[e] at this;omega
 · rw[e] at hk;omega
theorem Qbi.forgm (h:Qbi w base p c s col q A cap) (ho:Only w w1 q.bf) {fg:List (ByteArray×Bool)} (hm:MapAt w1 q.bf Value.string (Qav Value.bool fg)):Qbi w1 base p c { s with fg:=fg } col q A cap:=by
 have hp:=h.cols.2.2.1;refine⟨h.low,ho.at_ h.head fun e => ?_,h.cols,h.added.keep (ho.block _ fun e => ?_),hm,h.evs.keep fun a ha=>ho.block _ fun e => ?_,h.cts.keep fun k _ hk=>⟨ho.block _ fun e => ?_,rfl⟩⟩
 · have:=h.cols.1;rw[e] at this;omega
 · have:=h.cols.2.1;rw[e] at this;omega
 · have:=h.cols.2.2.2 a ha;rw[e] at this;omega
 · rw[e] at hk;omega
theorem Qbi.push (h:Qbi w base p c s col q A cap) {w2 w3:World} {A':Option Addr} {c':Nat} {es:List Ev} (hz:∀ k,w.heap.size≤k→col k=0) (hn:Ext w w1)
 (hg:w1.grownBy w2 (A.map (·.block))) (ho:Only w2 w3 p) (hown:Own evC 8 34 0 w2 A' c' es) (hA:A'=A∨A'.map (·.block)=A.map (·.block)∨A'.map (·.block)=some w1.heap.size)
 (hh:At w3 p 69 (wC c A' es.length c' s.any s.last q)):∃ col',Qbi w3 base p c { s with es:=es } col' q A' c'∧(∀ k,w3.heap.size≤k→col' k=0)∧∀ k,k<w.heap.size→col' k=col k:=by
 have s1:=hn.size
 have hm2:Mod (fun k=>col k=9) w1 w2:=Qr hg fun k hk=>by
  cases A with
  | none=>simp at hk
  | some a=>have:=h.cols.2.2.2 a rfl;simp at hk;rw[hk] at this;exact this
 have s2:=hm2.size;have s3:=ho.size;have hp:=h.cols.1;have hplt:=h.head.lt;have hbp:=h.low.2 p (by omega)
 have hblk:∀ k,k<w.heap.size→col k≠9→k≠p→w3.heap[k]? = w.heap[k]? := fun k h1 h2 h3=>by
  rw[ho.block k h3,hm2.block k (by omega) h2,hn.block k h1]
 have hr:∀ {k},k<w.heap.size→Qcr col w w3 9 k=col k:=fun hk=>Qa5 hk
 have hA9:∀ a,A'=some a→Qcr col w w3 9 a.block=9:=fun a ha=>by
  have hlt:=(hown.block ha).2
  by_cases hk:a.block<w.heap.size
  · rw[hr hk]
    have hAA:A.map (·.block)=some a.block:=by
     rcases hA with hA | hA | hA
     · rw[← hA,ha];rfl
     · rw[← hA,ha];rfl
     · rw[ha] at hA;simp at hA;omega
    cases A with
    | none=>simp at hAA
    | some a0=>simp at hAA;rw[← hAA];exact h.cols.2.2.2 a0 rfl
  · unfold Qcr;rw[if_neg hk,if_pos (by omega)]
 refine⟨Qcr col w w3 9,⟨⟨h.low.1,fun k hk => ?_⟩,hh,⟨(hr hplt).trans hp,(hr h.added.lt).trans h.cols.2.1,(hr h.forg.lt).trans h.cols.2.2.1,hA9⟩,h.added.keep (hblk _ h.added.lt (by rw[h.cols.2.1];decide) fun e => ?_),h.forg.keep (hblk _ h.forg.lt (by rw[h.cols.2.2.1];decide) fun e => ?_),hown.keep fun a ha=>ho.block _ fun e => ?_,h.cts.keep fun k h1 hk=>⟨hblk k h1 (by omega) fun e => ?_,hr h1⟩⟩,fun k hk=>Qdn (by omega) hk,fun k hk=>hr hk⟩
 · by_cases hlt:k<w.heap.size
   · rw[hr hlt] at hk;exact h.low.2 k hk
   · omega
 · have:=h.cols.2.1;rw[e] at this;omega
 · have:=h.cols.2.2.1;rw[e] at this;omega
 · have:=hA9 a ha;rw[e,hr hplt] at this;omega
 · rw[e] at hk;omega
end
set_option maxHeartbeats 1000000 in
theorem Q5a (w:World) (base p:Nat) (c:Cfg) (hcf:Qo7 c=true) (s:WS) (col:Nat→Nat) (h:Qa9 w base p c s col) (hg:Gl w) (hs:s.ct=Qo c.width s.es) (hml:∀ x∈s.es,Xw x=true) (e:Ev) (hm:Xw e=true) (hr:Rise (s.es ++ [e])) (hl:s.es.length<1000000) :
 Cal Tryz.prog 42 [.pointer (some ⟨p,0,none⟩),evV e] w fun r w'=>r = .tuple #[]∧∃ col',Qa9 w' base p c (Q0d c.width s e) col'∧(∀ k,k<w.heap.size→col' k=col k)∧Mod (fun k=>col k≠0) w w':=by
 obtain⟨⟨q,A,cap,h⟩,hz⟩:=h;refine Fi Tryz.func42 rfl _ rfl rfl ?_;conv=>whnf
 intro b1 w1 hn1;have hb1:=hn1.At;have e1:=hn1.block;have s1:=hn1.size;have hg1:=hg.ext hn1.ext;have h1:=h.ext hn1.ext;have hc1:col b1=0:=hz b1 (by omega);have hp6:=h.cols.1;have hbp:b1≠p:=fun e=>by rw[e] at hc1;omega
 conv=>whnf
 refine Dr (.mods (fun k=>k=p)) [0,1,2,3,4,5,6,7] [8] ?_;conv=>whnf
 replace h1:=h1.ext (Ext.refl w1).drew;replace hg1:=hg1.ext (Ext.refl w1).drew;replace hb1:At w1.drew b1 _ _:=hb1;have hx1:=hn1.ext.drew;generalize w1.drew=w2 at h1 hg1 hb1 hx1 ⊢;refine⟨evC e,⟨rfl,hb1.all,hbp⟩,?_⟩;conv=>whnf
 refine Qh Qa (e:=ty4) rfl h1.head rfl rfl rfl (by simp[Qq,Value.oneCell']) fun w3 h3 ho3 => ?_
 refine⟨Qn ho3 rfl,?_⟩;conv=>whnf
 refine Qh Qa (e:=ty34) rfl h3 rfl rfl rfl (by simp[Qq,evC,Value.oneCell']) fun w4 h4 ho4 => ?_
 have h5:=(h1.reh ho3 (any:=true) (last:=s.last) h3).reh ho4 (any:=true) (last:=e) h4;have hb5:=ho4.at_ (ho3.at_ hb1 hbp) hbp;have hg5:=(hg1.only ho3 (Qj5 h1 (by decide) p hp6)).only ho4 (Qj5 h1 (by decide) p hp6);have hM5:Mod (fun k=>col k≠0) w w4:=(Mod.of_ext hx1).trans ((Qn ho3 (by show col p≠0;omega)).trans (Qn ho4 (by show col p≠0;omega)));have hz4:w4.heap.size=w2.heap.size:=by rw[ho4.size,ho3.size]
 have hz2:=hx1.size;clear h1 h3 h4 ho3 ho4 hb1 hg1 hx1 hn1 h hg
 conv=>whnf
 refine Dr .same [0,1,2,3,4,5,6,7,8] [9] ?_;conv=>whnf
 replace h5:=h5.ext (Ext.refl w4).drew;replace hg5:=hg5.ext (Ext.refl w4).drew;replace hb5:At w4.drew b1 _ _:=hb5;replace hM5:=hM5.trans (Mod.of_ext (Ext.refl w4).drew);replace hz4:w4.drew.heap.size=w2.heap.size:=hz4;generalize w4.drew=w5 at h5 hg5 hb5 hM5 hz4 ⊢;refine⟨_,h5.head.one rfl,?_⟩;conv=>whnf
 refine⟨_,hb5.one rfl,?_⟩;conv=>whnf
 refine⟨_,hb5.one rfl,?_⟩;conv=>whnf
 refine Xh Q9b Q58 h5.added (Q57 e) _ fun w6 hm6 ho6 => ?_
 replace hm6:MapAt w6 q.ba idV (Xn (Qav Value.bool s.ad) (Q57 e) (.bool true)):=hm6;rw[Xr] at hm6;have h6:=h5.addm ho6 hm6;have hba:col q.ba=7:=h5.cols.2.1;have hb6:=ho6.at_ hb5 (fun e'=>by rw[e'] at hc1;omega);have hg6:=hg5.only ho6 (Qj5 h5 (by decide) q.ba hba);have hM6:=hM5.trans (Qn ho6 (by show col q.ba≠0;omega));have hz6:w6.heap.size=w2.heap.size:=by rw[ho6.size,hz4]
 clear hm6 ho6 h5 hb5 hg5 hM5 hz4
 conv=>whnf
 refine Dr (.mods (fun k=>col k=9)) [0,1,2,3,4,5,6,7,8,9] [10] ?_;conv=>whnf
 replace h6:=h6.ext (Ext.refl w6).drew;replace hg6:=hg6.ext (Ext.refl w6).drew;replace hb6:At w6.drew b1 _ _:=hb6;replace hM6:=hM6.trans (Mod.of_ext (Ext.refl w6).drew);replace hz6:w6.drew.heap.size=w2.heap.size:=hz6;generalize w6.drew=w7 at h6 hg6 hb6 hM6 hz6 ⊢;refine⟨_,⟨h6.head.one rfl,by rw[add_block];show ¬ col p=9;omega⟩,?_⟩;conv=>whnf
 refine⟨evC e,⟨rfl,hb6.all,by show ¬ col b1=9;omega⟩,?_⟩;conv=>whnf
 intro b8 w8 hn8;refine⟨Mod.of_ext hn8.ext,?_⟩;conv=>whnf
 refine Qnu (l:=s.es) (news := [e]) (h6.evs.ext hn8.ext) (Qej Qaq hn8) (by simp;omega) (by omega) fun A9 c9 w9 hown9 hg9 hA9 => ?_
 have hAc:∀ k,A.map (·.block)=some k→col k=9:=fun k hk=>by
  cases A with
  | none=>simp at hk
  | some a=>have:=h6.cols.2.2.2 a rfl;simp at hk;rw[hk] at this;exact this
 refine⟨Qr hg9 hAc,?_⟩;conv=>whnf
 have hp7:=h6.head.lt;have s8:=hn8.size;have hp9:At w9 p _ _:=(h6.head.ext hn8.ext).mod (Qr (S:=fun k=>col k=9) hg9 hAc) (by omega);refine Qh Qa (e:=ty24) rfl hp9 rfl rfl rfl (by simp[Qq,Value.oneCell']) fun w10 h10 ho10 => ?_
 have hz7:∀ k,w7.heap.size≤k→col k=0:=fun k hk=>hz k (by omega)
 obtain⟨col',h11,hz11,hc11⟩:=h6.push hz7 hn8.ext hg9 ho10 hown9 hA9 h10;have hb7:=hb6.lt;have hb11:At w10 b1 _ _:=ho10.at_ ((hb6.ext hn8.ext).mod (Qr (S:=fun k=>col k=9) hg9 hAc) (by omega)) hbp;have hM11:Mod (fun k=>col k≠0) w w10:=((hM6.trans (Mod.of_ext hn8.ext)).trans (Qr hg9 fun k hk=>by have:=hAc k hk;omega)).trans (Qn ho10 (by show col p≠0;omega));have hg11:=(((hg6.ext hn8.ext).mod (Qr (S:=fun k=>col k=9) hg9 hAc) (Qj5 h6 (by decide))).only ho10 (Qj5 h6 (by decide) p hp6));have hcw:∀ k,k<w.heap.size→col' k=col k:=fun k hk=>hc11 k (by omega)
 clear h6 hg6 hb6 hM6 hn8 hg9 hp9 h10 ho10 hown9 hA9 hAc hz7 hc11
 conv=>whnf
 refine⟨evC e,⟨rfl,hb11.all⟩,?_⟩;conv=>whnf
 refine(Qn1 w10 base p c hcf _ col' ⟨⟨q,A9,c9,h11⟩,hz11⟩ hg11 s.es hs hml e hm hr hl).mono ?_;rintro _ w12 ⟨rfl,col12,h12,hc12,hM12⟩
 conv=>whnf
 have hsz:=hM11.size;refine⟨rfl,col12,h12,fun k hk=>(hc12 k (by omega)).trans (hcw k hk),?_⟩
 exact⟨hM12.os.trans hM11.os,hM12.tape.trans hM11.tape,hM12.output.trans hM11.output,by have:=hM12.size;omega,fun k hk hc=>(hM12.block k (by omega) (by rw[hcw k hk];exact fun h=>hc (by show col k≠0;omega))).trans (hM11.block k hk hc)⟩
def Qcc (out:List Ev) (p:ByteArray):Bool:=out.any fun x=>decide (x.kind=14)&&decide (x.person=p)
def Qff (out:List Ev) (e:Ev):Bool := !Qcc out e.person||decide (e.kind=14)
def Qen (out:List Ev):List Ev:=out.filter (Qff out)
theorem Q03 (z:List Ev) (e:Ev) (p:ByteArray):Qcc (z ++ [e]) p=(Qcc z p||(decide (e.kind=14)&&decide (e.person=p))):=by
 simp[Qcc,List.any_append]
theorem Xg {α:Type} (z:List α) (k:Nat) (h:k<z.length):z.take (k+1)=z.take k ++ [z[k]]:=by rw[List.take_succ_eq_append_getElem h]
theorem Q2l {z:List Ev} (h:Rise z) (k:Nat):Rise (z.take k):=h.sublist (List.take_sublist k z)
end Go.Proofs.YtdahooejkjcjiaaGreatDoor
