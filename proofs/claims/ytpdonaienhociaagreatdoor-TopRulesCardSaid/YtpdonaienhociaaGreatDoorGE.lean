import Derived.Test.YtpdonaienhociaaGreatDoorGD
set_option linter.all false
namespace Go.Proofs.YtpdonaienhociaaGreatDoor
open Go.Se Go.RowKit
def Q51 (w:World) (S:Nat->Prop) (b:Nat) (m:List (Int×Int)):Prop:=S b/\MapAt w b vi (Xj vi m)
theorem Qaj:Local Q51 where
 keep h hk:=⟨(hk _ h.2.lt h.1).2,h.2.keep (hk _ h.2.lt h.1).1⟩
 lt h:=⟨h.2.lt,h.1⟩
abbrev Qld:=List (Bj×List (Int×Int))
def Qq2 (s:Qld) (key:Bj) (t n:Int):Qld:=if n=0 then s else Xc s key (Xc ((Qe s key).getD []) t ((Qe ((Qe s key).getD []) t).getD 0+n))
def Qec (s:Qld) (N:Int):Prop:=∀ k t,0<=(Qe ((Qe s k).getD []) t).getD 0/\(Qe ((Qe s k).getD []) t).getD 0<=N
theorem Q4e {s:Qld} {N:Int} (h:Qec s N) (key:Bj) (t n:Int) (h0:0<=n):Qec (Qq2 s key t n) (N+n):=by
 intro k t';unfold Qq2;have hk:=h k t';have hkey:=h key t
 by_cases hn:n=0
 . rw[if_pos hn];omega
 . rw[if_neg hn,Xn]
   by_cases e:k=key
   . subst e;rw[if_pos rfl];simp only[Zaj,Xn]
     by_cases e2:t'=t
     . rw[if_pos e2];simp only[Zaj];omega
     . rw[if_neg e2];omega
   . rw[if_neg e];omega
structure CtL (w:World) (S:Nat->Prop) (p:Nat) (half n:Int) (s:Qld) (bm:Nat):Prop where
 mine:S p
 head:At w p 281 [vi half,vi n,.map (some bm)]
 sums:MapOf Value.string Q51 w (fun k=>S k/\k≠p) bm s
def Qpm (w:World) (S:Nat->Prop) (p:Nat) (half n:Int) (s:Qld):Prop:=∃ bm,CtL w S p half n s bm
theorem Qpm.keep {w w1:World} {S S':Nat->Prop} {p:Nat} {half n:Int} {s:Qld} (h:Qpm w S p half n s) (hk:∀ k,k<w.heap.size->S k->w1.heap[k]? = w.heap[k]? /\ S' k):Qpm w1 S' p half n s:=by
 obtain⟨bm,h⟩:=h;refine⟨bm,(hk p h.head.lt h.mine).2,(hk p h.head.lt h.mine).1.trans h.head,h.sums.keep Qaj fun k hk1 hk2 => ?_⟩;obtain⟨q1,q2⟩:=hk k hk1 hk2.1;exact⟨q1,q2,hk2.2⟩
theorem Qxr (half:Int) (w:World):Cal Tryz.prog 104 [Vj half] w fun r w'=>∃ p,r = Pj p/\Qpm w' (fun k=>w.heap.size<=k) p (Xd half) 0 []/\Ext w w':=by
 refine Fi Tryz.func104 rfl _ rfl rfl (Hh ?_);intro b1 w1 hn1;refine Hh ?_;intro b2 w2 hn2;refine Hh ?_;have e1:=hn1.block;have e2:=hn2.block;have s1:=hn1.size;refine⟨b2,rfl,⟨b1,Om,hn2.At,?_⟩,hn1.ext.trans hn2.ext⟩;exact(MapOf.new (S:=fun k=>w.heap.size<=k/\k≠b2) hn1 ⟨Om,Om⟩).keep Qaj fun k hk hs=>⟨hn2.ext.block k hk,hs⟩
theorem Xd0:Tryz.prog.underlying 279=some (.map 9 367):=by kernel_rfl
theorem Q5l:Tryz.prog.underlying 367=some (.map 3 2):=by kernel_rfl
theorem Xhf:Tryz.prog.underlying 3=some (.int .i64):=by kernel_rfl
theorem Qxs (w:World) (S:Nat->Prop) (p:Nat) (half n:Int) (s:Qld) (h:Qpm w S p half n s) (key:Bj) (t x N:Int) (hN:Qec s N) (hNb:N<1000000000000000) (hx0:0<=x/\x<1000000000000000) :
 Cal Tryz.prog 184 [Pj p,.string key,Vj t,Vj x] w fun r w'=>r = .tuple #[]/\Qpm w' (Grow S w) p half n (Qq2 s key t x)/\Mod S w w':=by
 obtain⟨bm,h⟩:=h;have hplt:=h.head.lt;refine Fi Tryz.func184 rfl _ rfl rfl (Hh ?_);constructor
 . intro hz;have hz:x=0:=Su hz;refine Hh ?_;refine⟨rfl,?_,Mod.refl _ _⟩;unfold Qq2;rw[if_pos hz];exact Qpm.keep ⟨bm,h⟩ fun k _ hs=>⟨rfl,.inl hs⟩
 intro hz;have hz:¬ x=0:=Su hz;refine Hh ?_
 refine Xl Qb (ι:=Qld) (fun _ => [(0,Pj p),(1,.string key),(2,Vj t),(3,Vj x)])
  (fun s1 w'=>(∃ m1,Qe s1 key=some m1/\m1=(Qe s key).getD [])/\(∀ v,Xc s1 key v=Xc s key v)/\MapOf Value.string Q51 w' (fun k=>Grow S w k/\k≠p) bm s1/\At w' p 281 [vi half,vi n,.map (some bm)]/\Mod S w w') ?_ ?_
 . (conv=>whnf)
   refine⟨.map (some bm),h.head.one rfl,Hh ?_⟩;rcases h.sums.look Qaj Xd0 (Qo Xb) (e:=ty367) ty367_ok rfl key with⟨hno,hrd⟩ | ⟨b,v,Sk,hsome,hrd,hIv,hSk,_⟩
   . refine⟨_,hrd .same Qp,Hh ?_⟩;refine⟨_,Qau Q5l none _ _,Hh ?_⟩;constructor
     . intro _;refine Hh ?_;refine⟨.map (some bm),h.head.one rfl,Hh ?_⟩;intro b1 w1 hn1;refine Hh ?_;have e1:=hn1.block;refine h.sums.insert Qaj Xd0 (Qo Xb) key hno hn1.ext (v := []) ⟨Om,MapAt.new hn1⟩ fun w2 hm2 ho2 => ?_
       refine Hh ?_;have hbp:bm≠p:=h.sums.lt.2.2;refine⟨Xc s key [],⟨⟨[],Q9 _ _ _,by rw[hno];rfl⟩,fun v=>Qdf key [] v s,?_,?_,?_⟩,Rr⟩
       . refine hm2.keep Qaj fun k _ hk2=>⟨rfl,?_⟩
         rcases hk2 with hk2 | hk2
         . exact⟨.inl hk2.1,hk2.2⟩
         . exact⟨.inr hk2,Om⟩
       . exact ho2.at_ (h.head.ext hn1.ext) (Ne.symm hbp)
       . exact(Mod.of_ext hn1.ext).trans (Qj ho2 h.sums.lt.2.1)
     . intro q;cases q
   . refine⟨_,hrd .same Qp,Hh ?_⟩;refine⟨_,Qau Q5l (some b) _ _,Hh ?_⟩;constructor
     . intro q;cases q
     . intro _;refine Hh ?_;refine⟨s,⟨⟨v,hsome,by rw[hsome];rfl⟩,fun v=>rfl,h.sums.keep Qaj fun k _ hk2=>⟨rfl,.inl hk2.1,hk2.2⟩,h.head,Mod.refl _ _⟩,Rr⟩
 rintro s1 w1 ⟨⟨m1,hm1,hm1e⟩,hset,hs1,hp1,hmod1⟩;refine Hh ?_;refine⟨.map (some bm),hp1.one rfl,Hh ?_⟩;rcases hs1.look Qaj Xd0 (Qo Xb) (e:=ty367) ty367_ok rfl key with⟨hno,hrd⟩ | ⟨b,v,Sk,hsome,hrd,hIv,hSk,hback⟩
 . rw[hm1] at hno;cases hno
 obtain rfl:m1=v:=by rw[hm1] at hsome;simpa using hsome
 refine⟨_,hrd .same Qp,Hh ?_⟩
 refine⟨vi ((Qe m1 t).getD 0),(by
  have:=Xz Q5l (Qkr Xhf) (e:=ty2) ty2_ok (cl := .same) Qp hIv.2 t;rw[show (Qe (Xj vi m1) t).getD ty2.zero=vi ((Qe m1 t).getD 0) from Xo vi _ _ 0] at this;exact this),Hh ?_⟩
 have hsm:=hN key t;rw[<- hm1e] at hsm;refine⟨(Qe m1 t).getD 0+x,wrap_eq rfl ⟨Om,Om⟩,Hh ?_⟩;refine Qx Q5l (Qkr Xhf) hIv.2 t (vi ((Qe m1 t).getD 0+x)) fun w2 hm2 ho2 => ?_
 rw[Xa] at hm2;refine Hh ?_;have hbS:=hSk b hIv.1;have hfin:=hback w2 (Xc m1 t ((Qe m1 t).getD 0+x)) ⟨.inl hIv.1,hm2⟩ (Qj ho2 hIv.1);rw[hset] at hfin;have hp1lt:=hp1.lt;refine⟨rfl,⟨bm,.inl h.mine,ho2.at_ hp1 (fun q=>hbS.1.2 q.symm),?_⟩,Qn hmod1 (Qj ho2 hbS.1.1)⟩;unfold Qq2;rw[if_neg hz,<- hm1e];refine hfin.keep Qaj fun k _ hk2=>⟨rfl,?_⟩
 rcases hk2 with hk2 | hk2
 . exact hk2
 . exact⟨.inr (by have:=hmod1.size;omega),Om⟩
theorem Qxq (w:World) (S:Nat->Prop) (p:Nat) (half n:Int) (s:Qld) (h:Qpm w S p half n s) (key:Bj) (t x N:Int) (hN:Qec s N) (hNb:N<1000000000000000) (hx0:0<=x/\x<=1048576) (hk:1<=key.size/\key.size<=24) (ht:0<=t/\t<=1099511627776) (hn:0<=n/\n<1048576) :
 Cal Tryz.prog 119 [Pj p,.string key,Vj t,Vj x] w fun r w'=>r = .bool true/\Qpm w' (Grow S w) p half (n+1) (Qq2 s key t x)/\Mod S w w':=by
 obtain⟨bm,h⟩:=h;refine Fi Tryz.func119 rfl _ rfl rfl (Hh ?_);have hc1:(((decide ((key.size:Int)<1)||decide ((24:Int)<key.size))||decide (t<0))||decide (1099511627776<t))=false:=(by rw[decide_eq_false Om,decide_eq_false Om,decide_eq_false Om,decide_eq_false Om];rfl);constructor
 . intro q;have q:=hc1.symm.trans q;cases q
 intro _;refine Hh ?_;refine⟨_,fun _=>h.head.one rfl,Hh ?_⟩;have hc2:((decide (x<0)||decide (1048576<x))||decide (1048576<=n))=false:=(by rw[decide_eq_false Om,decide_eq_false Om,decide_eq_false Om];rfl);constructor
 . intro q;have q:=hc2.symm.trans q;cases q
 intro _;refine Hh ?_;refine⟨_,h.head.one rfl,Hh ?_⟩;refine⟨n+1,wrap_eq rfl ⟨Om,Om⟩,Hh ?_⟩;refine Qc Qb (e:=ty3) rfl h.head rfl rfl rfl Oj fun w1 h1 ho1 => ?_
 have hc:Qpm w1 S p half (n+1) s:=⟨bm,h.mine,h1,h.sums.keep Qaj fun k _ hk2=>⟨ho1.block k hk2.2,hk2⟩⟩;refine Hh ?_;refine(Qxs w1 S p half (n+1) s hc key t x N hN hNb ⟨hx0.1,Om⟩).mono ?_;rintro _ w2 ⟨rfl,hc2,hm2⟩;refine Hh ?_;refine⟨rfl,hc2.keep fun k _ hk2=>⟨rfl,?_⟩,(Qj ho1 h.mine).trans hm2⟩;rcases hk2 with hk2 | hk2
 . exact .inl hk2
 . exact .inr (by rw[ho1.size] at hk2;exact hk2)
abbrev PK:=Bj×Int
def Xfd (k:PK):List Value := [.string k.1,Vj k.2]
def cel (k:PK):Value := .agg (Xfd k).toArray
theorem Qxk:Qtw Tryz.prog 302 cel :=
 Qhw (encl:=Xfd) Qb st302 (fun k=>rfl)
  (fun a b=>by
   show some (decide (a.1=b.1)&&(decide (a.2=b.2)&&true))=some (decide (a=b))
   rw[Zc7];congr 1
   by_cases h1:a.1=b.1 <;> by_cases h2:a.2=b.2 <;> simp[Prod.ext_iff,h1,h2])
  (fun k=>by simp[Instr.sameBits,Xfd,Go.MapKept.bytes_beq])
abbrev Qal:=List (PK×Int)
def Qq1 (s:Qal) (c:PK) (n:Int):Qal:=if n=0 then s else Xc s c ((Qe s c).getD 0+n)
def Qa2 (s:Qal) (key:Bj):List Int:=(s.filter fun x=>decide (x.1.1=key)).map (·.1.2)
theorem Q9s {c:PK} {v:Int}:∀ {s:Qal},Qe s c=none->Qa2 (Xc s c v)=Ql4 (Qa2 s) c.1 (Qa2 s c.1 ++ [c.2])
 | s,h=>by
   have:∀ s:Qal,Qe s c=none->Xc s c v=s ++ [(c,v)]:=by
    intro s
    induction s with
    | nil=>intro _;rfl
    | cons x s ih =>
      intro h;simp only[Qe] at h
      by_cases e:c=x.1
      . rw[if_pos e] at h;cases h
      . rw[if_neg e] at h;simp only[Xc,if_neg e,ih h,Zay]
   rw[this s h];funext k;unfold Ql4 Qa2;rw[Zq,Zp]
   by_cases e:k=c.1
   . subst e;simp
   . have e':¬ c.1=k:=fun q=>e q.symm
     simp[e,e']
theorem Q9t {c:PK} {v v0:Int}:∀ {s:Qal},Qe s c=some v0->Qa2 (Xc s c v)=Qa2 s:=by
 intro s h;have:∀ s:Qal,Qe s c=some v0->(Xc s c v).map (·.1)=s.map (·.1):=(by intro s h;rw[Qed,if_pos];exact Zh.2 ⟨_,Qbi h,rfl⟩);have h1:=this s h;funext k;unfold Qa2;have key:∀ l:Qal,(l.filter fun x=>decide (x.1.1=k)).map (·.1.2)=((l.map (·.1)).filter fun x=>decide (x.1=k)).map (·.2):=(by intro l;rw[List.filter_map,Zy];rfl);rw[key,key,h1]
def Qg3 (s:Qal) (N:Int):Prop:=∀ x∈s,0<x.2/\x.2<=N
theorem Qgc {s:Qal} {N:Int} (h:Qg3 s N) (hN:0<=N) (c:PK):0<=(Qe s c).getD 0/\(Qe s c).getD 0<=N/\(Qe s c=none↔(Qe s c).getD 0=0):=by
 cases hc:Qe s c with
 | none=>simp;exact hN
 | some v =>
   have:=h _ (Qbi hc);simp at this ⊢;omega
theorem Q4d {s:Qal} {N:Int} (h:Qg3 s N) (hN:0<=N) (c:PK) {n:Int} (hn:0<=n):Qg3 (Qq1 s c n) (N+n):=by
 unfold Qq1;have hs:=Qgc h hN c;intro x hx
 by_cases hz:n=0
 . rw[if_pos hz] at hx;have:=h x hx;omega
 . rw[if_neg hz] at hx;rcases Qbp hx with rfl | hx
   . simp only;omega
   . have:=h x hx;omega
structure PaL (w:World) (S:Nat->Prop) (p:Nat) (width n:Int) (s:Qal) (bs br:Nat) (L:List (Bj×(Option Addr×Nat))) (R:Nat->Prop):Prop where
 mine:S p/\S bs/\bs≠p
 head:At w p 285 [vi width,vi n,.map (some bs),.map (some br)]
 sums:MapAt w bs cel (Xj vi s)
 rows:Qbm Qfu 1 3 w R br (Qa2 s) L
 rset:∀ k,R k->S k/\k≠p/\k≠bs
def Qm5 (w:World) (S:Nat->Prop) (p:Nat) (width n:Int) (s:Qal):Prop:=∃ bs br L R,PaL w S p width n s bs br L R
theorem Qm5.keep {w w1:World} {S S':Nat->Prop} {p:Nat} {width n:Int} {s:Qal} (h:Qm5 w S p width n s) (hk:∀ k,k<w.heap.size->S k->w1.heap[k]? = w.heap[k]? /\ S' k):Qm5 w1 S' p width n s:=by
 obtain⟨bs,br,L,R,h⟩:=h;refine⟨bs,br,L,fun k=>R k/\k<w.heap.size,⟨(hk p h.head.lt h.mine.1).2,(hk bs h.sums.lt h.mine.2.1).2,h.mine.2.2⟩,(hk p h.head.lt h.mine.1).1.trans h.head,h.sums.keep (hk bs h.sums.lt h.mine.2.1).1,h.rows.keep fun k hk1 hk2=>⟨(hk k hk1 (h.rset k hk2).1).1,hk2,hk1⟩,fun k hk2=>⟨(hk k hk2.2 (h.rset k hk2.1).1).2,(h.rset k hk2.1).2⟩⟩
theorem Q4b (width:Int) (w:World):Cal Tryz.prog 105 [Vj width] w fun r w'=>∃ p,r = Pj p/\Qm5 w' (fun k=>w.heap.size<=k) p (Xd width) 0 []/\Ext w w':=by
 refine Fi Tryz.func105 rfl _ rfl rfl (Hh ?_);intro b1 w1 hn1;refine Hh ?_;intro b2 w2 hn2;refine Hh ?_;intro b3 w3 hn3;refine Hh ?_;have e1:=hn1.block;have e2:=hn2.block;have e3:=hn3.block;have s1:=hn1.size;have s2:=hn2.size;refine⟨b3,rfl,⟨b1,b2,[],fun k=>k=b2,⟨Om,Om,Om⟩,hn3.At,(MapAt.new hn1).ext (hn2.ext.trans hn3.ext),?_,?_⟩,(hn1.ext.trans hn2.ext).trans hn3.ext⟩
 . exact(Qbm.new (S:=fun k=>k=b2) hn2 rfl).keep fun k hk hs=>⟨hn3.ext.block k hk,hs⟩
 . rintro k rfl;omega
theorem Xgv:Tryz.prog.underlying 282=some (.map 302 2):=by kernel_rfl
theorem Xdy:Tryz.prog.underlying 283=some (.map 9 289):=by kernel_rfl
theorem Xbb:Tryz.prog.underlying 289=some (.slice 3):=by kernel_rfl
theorem Q80 (w:World) (p:Nat) (width n:Int) (bs br:Nat) (hp:At w p 285 [vi width,vi n,.map (some bs),.map (some br)]) (hw:1<=width/\width<=1099511627776) (t:Int) (ht:0<=t/\t<=1099511627776) :
 Cal Tryz.prog 186 [Pj p,Vj t] w fun r w'=>r = Vj (t/width)/\w'=w:=by
 have h1:t.tdiv width=t/width:=Zcn ht.1;have h2:0<=t.tmod width:=Int.tmod_nonneg _ ht.1;have h3:0<=t/width:=Zc5 ht.1 Om;have h4:t/width<=t:=Zcq _ ht.1;refine Fi Tryz.func186 rfl _ rfl rfl (Hh ?_);refine⟨_,hp.one0,Hh ?_⟩;refine⟨t/width,⟨Om,wrap_eq h1.symm ⟨Om,Om⟩⟩,Hh ?_⟩;refine Qa Qb (Hh ?_);refine⟨_,hp.one0,Hh ?_⟩;refine⟨t.tmod width,⟨Om,rfl⟩,Hh ?_⟩;constructor
 . intro q;have q:t.tmod width<0:=Su q;omega
 . intro _;refine Hh ?_;exact⟨rfl,rfl⟩
theorem Q4c (w:World) (S:Nat->Prop) (p:Nat) (width n:Int) (s:Qal) (h:Qm5 w S p width n s) (c:PK) (x N:Int) (hN:Qg3 s N) (hN0:0<=N) (hNb:N<1000000000000000) (hx0:0<=x/\x<1000000000000000) (hlen:s.length<100000000) :
 Cal Tryz.prog 185 [Pj p,cel c,Vj x] w fun r w'=>r = .tuple #[]/\Qm5 w' (Grow S w) p width n (Qq1 s c x)/\Mod S w w':=by
 obtain⟨bs,br,L,R0,h0⟩:=h
 obtain⟨R,h,hRlt⟩:∃ R,PaL w S p width n s bs br L R/\∀ k,R k->k<w.heap.size :=
  ⟨fun k=>R0 k/\k<w.heap.size,⟨h0.mine,h0.head,h0.sums,h0.rows.keep fun k hk1 hk2=>⟨rfl,hk2,hk1⟩,fun k hk=>h0.rset k hk.1⟩,fun k hk=>hk.2⟩
 clear h0;have hplt:=h.head.lt;have hbslt:=h.sums.lt;have hsm:=Qgc hN hN0 c;refine Fi Tryz.func185 rfl _ rfl rfl (Hh ?_);intro b1 w1 hn1;have e1:=hn1.block;have hb1:At w1 b1 302 (Xfd c):=hn1.At;refine Hh ?_;constructor
 . intro hz;have hz:x=0:=Su hz;refine Hh ?_;refine⟨rfl,?_,Mod.of_ext hn1.ext⟩;unfold Qq1;rw[if_pos hz];exact Qm5.keep ⟨bs,br,L,R,h⟩ fun k hk hs=>⟨hn1.ext.block k hk,.inl hs⟩
 intro hz;have hz:¬ x=0:=Su hz;refine Hh ?_;refine Dr .same [0,1,2,3,4,5,6] [] (Hh ?_);have hx2:Ext w w1.drew:=hn1.ext.drew;have hb2:At w1.drew b1 _ _:=hb1;generalize w1.drew=w2 at hx2 hb2 ⊢;have hp2:=h.head.ext hx2;have hs2:=h.sums.ext hx2;have hr2:Qbm Qfu 1 3 w2 R br (Qa2 s) L:=h.rows.keep fun k hk1 hk2=>⟨hx2.block k hk1,hk2⟩
 refine⟨.map (some bs),hp2.one rfl,Hh ?_⟩;refine⟨Xfd c,⟨rfl,hb2.all⟩,Hh ?_⟩
 refine⟨vi ((Qe s c).getD 0),(by
  have:=Xz Xgv Qxk (e:=ty2) ty2_ok (cl := .same) Qp hs2 c;rw[show (Qe (Xj vi s) c).getD ty2.zero=vi ((Qe s c).getD 0) from Xo vi _ _ 0] at this;exact this),Hh ?_⟩
 refine Xl Qb (ι:=List (Bj×(Option Addr×Nat))×(Nat->Prop)) (fun _ => [(0,Pj p),(4,Pj b1),(2,Vj x),(6,Vj ((Qe s c).getD 0))])
  (fun q w'=>At w' p 285 [vi width,vi n,.map (some bs),.map (some br)]/\At w' b1 302 (Xfd c)/\MapAt w' bs cel (Xj vi s)/\Qbm Qfu 1 3 w' q.2 br (Qa2 (Xc s c ((Qe s c).getD 0+x))) q.1/\(∀ k,q.2 k->Grow S w k/\k≠p/\k≠bs/\k≠b1)/\Mod S w w') ?_ ?_
 . (conv=>whnf)
   constructor
   . intro h0;have h0:Qe s c=none:=hsm.2.2.2 (Su h0);have hrl:=hr2.own c.1;generalize hA0:(rowAt L c.1).1=A0 at hrl;generalize hc0:(rowAt L c.1).2=c0 at hrl;have hA0w:∀ a,A0=some a->R a.block/\a.block≠br/\a.block<w.heap.size:=fun a ha=>(by have h1:=h.rows.own c.1;rw[hA0] at h1;exact⟨(hrl.2 a ha).1,(hrl.2 a ha).2,(h1.1.block ha).2⟩)
     have hnb:∀ k,k=p\/k=br\/k=b1\/k=bs->¬ ∃ a,A0=some a/\k=a.block:=by
      rintro k hk' ⟨a,ha,rfl⟩;obtain⟨q1,q2,q3⟩:=hA0w a ha;have:=h.rset _ q1;rcases hk' with q | q | q | q
      . exact this.2.1 q
      . exact q2 q
      . omega
      . exact this.2.2 q
     have hrlen:(Qa2 s c.1).length<=s.length:=(by unfold Qa2;rw[Zf];exact Zc _ _);refine Hh ?_;refine Dr (.mods (fun k=>∃ a,A0=some a/\k=a.block)) [0,1,2,3,4,5,6,7,8,9,10,11,12,13,14,15,16] [17] (Hh ?_);replace hp2:At w2.drew p _ _:=hp2;replace hb2:At w2.drew b1 _ _:=hb2;replace hs2:MapAt w2.drew bs cel (Xj vi s):=hs2.keep rfl;replace hr2:Qbm Qfu 1 3 w2.drew R br (Qa2 s) L:=hr2.keep fun k _ hk2=>⟨rfl,hk2⟩
     replace hx2:Ext w w2.drew:=hx2.drew;generalize w2.drew=w3 at hp2 hb2 hs2 hr2 hx2 ⊢;refine⟨.map (some br),⟨hp2.one rfl,by rw[add_block];exact hnb p (.inl rfl)⟩,Hh ?_⟩;refine⟨_,⟨hb2.one rfl,by rw[add_block];exact hnb b1 (.inr (.inr (.inl rfl)))⟩,Hh ?_⟩;refine⟨.map (some br),⟨hp2.one rfl,by rw[add_block];exact hnb p (.inl rfl)⟩,Hh ?_⟩;refine⟨_,⟨hb2.one rfl,by rw[add_block];exact hnb b1 (.inr (.inr (.inl rfl)))⟩,Hh ?_⟩
     refine⟨.slice A0 (Qa2 s c.1).length c0,(by
      have:=hr2.look Xdy Xb (e:=ty289) ty289_ok rfl c.1 (Qve (S:=fun k=>∃ a,A0=some a/\k=a.block) hr2.map.lt (hnb br (.inr (.inl rfl))));rw[hA0,hc0] at this;exact this),Hh ?_⟩
     refine⟨_,⟨hb2.one rfl,by rw[add_block];exact hnb b1 (.inr (.inr (.inl rfl)))⟩,Hh ?_⟩;intro b4 w4 hn4;refine⟨Mod.of_ext hn4.ext,Hh ?_⟩;have hown4:Own Qfu 1 3 0 w4 A0 c0 (Qa2 s c.1):=(by have:=(hr2.own c.1).1;rw[hA0,hc0] at this;exact this.ext hn4.ext);refine Qd7 (news := [c.2]) ty3_ok Xbb by3 rfl rfl (by decide) X4 Q0y hown4 (Qak X4 hn4) (by simp;omega) (by simp;omega) (Zu _) ?_;intro A2 c2 w5 hown5 hg5 hA5
     have hrow5:∀ k,A0.map (·.block)=some k->∃ a,A0=some a/\k=a.block:=by
      intro k hk'
      cases A0 with
      | none=>simp at hk'
      | some a=>exact⟨a,rfl,Su hk'.symm⟩
     refine⟨Xx hg5 hrow5,?_⟩;refine Hh ?_
     have hbm5:MapAt w5 br Value.string (toV (Qa2 s) L) :=
      (hr2.map.ext hn4.ext).keep (hg5.block br (hr2.map.ext hn4.ext).lt (fun e'=>hnb br (.inr (.inl rfl)) (hrow5 br e'.symm)))
     refine Qx Xdy (Qo Xb) hbm5 c.1 _ fun w6 hm6 ho6 => ?_
     have hpush:=hr2.push (k:=c.1) (r:=Qa2 s c.1 ++ [c.2]) (by simp) hn4.ext (by rw[hA0];exact hg5) (by rw[hA0];exact hA5) hown5 hm6 ho6;have hbr:=h.rset br h.rows.mine;have hbrlt:=h.rows.map.lt
     have hstay:∀ k,k<w3.heap.size->k≠br->¬ (∃ a,A0=some a/\k=a.block)->w6.heap[k]? = w3.heap[k]? := by
      intro k hk1 hk2 hk3;rw[ho6.block k hk2,hg5.block k (by have:=hn4.ext.size;omega) (fun q=>hk3 (hrow5 k q.symm)),hn4.ext.block k hk1]
     have hs3:=hx2.size;have hb1lt:=hb2.lt;refine Hh ?_;refine⟨(Xc L c.1 (A2,c2),Grow R w3),⟨?_,?_,?_,?_,?_,?_⟩,Rr⟩
     . exact(hstay p hp2.lt (fun q=>hbr.2.1 q.symm) (hnb p (.inl rfl))).trans hp2
     . exact(hstay b1 hb2.lt Om (hnb b1 (.inr (.inr (.inl rfl))))).trans hb2
     . exact hs2.keep (hstay bs hs2.lt (fun q=>hbr.2.2 q.symm) (hnb bs (.inr (.inr (.inr rfl)))))
     . rw[Q9s h0];exact hpush
     . rintro k (hk1 | hk1)
       . have:=h.rset k hk1;have hq:=hRlt k hk1;exact⟨.inl this.1,this.2.1,this.2.2,Om⟩
       . exact⟨.inr Om,Om,Om,Om⟩
     . refine Qn (Mod.of_ext hx2) ((Mod.of_ext hn4.ext).trans ((Xx hg5 fun k hk' => ?_).trans (Qj ho6 (.inl hbr.1))));obtain⟨a,ha,q⟩:=hrow5 k hk';rw[q];exact .inl (h.rset _ (hA0w a ha).1).1
   . intro h0;have h0':¬ (Qe s c).getD 0=0:=Su h0
     obtain⟨v0,hv0⟩:∃ v0,Qe s c=some v0:=by
      cases hq:Qe s c with
      | none=>rw[hq] at h0';simp at h0'
      | some v=>exact⟨v,rfl⟩
     refine Hh ?_;refine⟨(L,fun k=>R k/\k<w.heap.size),⟨hp2,hb2,hs2,?_,?_,Mod.of_ext hx2⟩,Rr⟩
     . rw[Q9t hv0];exact h.rows.keep fun k hk1 hk2=>⟨hx2.block k hk1,hk2,hk1⟩
     . rintro k ⟨hk1,hk2⟩;have:=h.rset k hk1;exact⟨.inl this.1,this.2.1,this.2.2,Om⟩
 rintro ⟨L3,R3⟩ w3 ⟨hp3,hb3,hs3,hr3,hrs3,hm3⟩;simp only at hr3 hrs3;refine Hh ?_;refine Dr .same [0,1,2,3,4,5,6,7] [8] (Hh ?_);refine⟨.map (some bs),show w3.drew.cell? _=_ from hp3.one rfl,Hh ?_⟩;refine⟨Xfd c,⟨rfl,show Xp w3.drew _ _ from hb3.all⟩,Hh ?_⟩;refine⟨(Qe s c).getD 0+x,wrap_eq rfl ⟨Om,Om⟩,Hh ?_⟩;refine Qx (w:=w3.drew) Xgv Qxk (hs3.keep rfl) c (vi ((Qe s c).getD 0+x)) fun w4 hm4 ho4 => ?_
 rw[Xa] at hm4;refine Hh ?_;refine⟨rfl,⟨bs,br,L3,R3,⟨.inl h.mine.1,.inl h.mine.2.1,h.mine.2.2⟩,ho4.at_ hp3 (Ne.symm h.mine.2.2),?_,?_,fun k hk=>⟨(hrs3 k hk).1,(hrs3 k hk).2.1,(hrs3 k hk).2.2.1⟩⟩,hm3.trans ((Mod.drew _).trans (Qj ho4 h.mine.2.1))⟩
 . unfold Qq1;rw[if_neg hz];exact hm4
 . unfold Qq1;rw[if_neg hz];exact hr3.keep fun k _ hk2=>⟨ho4.block k (hrs3 k hk2).2.2.1,hk2⟩
theorem Q4a (w:World) (S:Nat->Prop) (p:Nat) (width n:Int) (s:Qal) (h:Qm5 w S p width n s) (hw:1<=width/\width<=1099511627776) (key:Bj) (t x N:Int) (hN:Qg3 s N) (hN0:0<=N) (hNb:N<1000000000000000) (hx0:0<=x/\x<=1048576) (hlen:s.length<100000000) (hk:1<=key.size/\key.size<=24) (ht:0<=t/\t<=1099511627776) (hn:0<=n/\n<1048576) :
 Cal Tryz.prog 120 [Pj p,.string key,Vj t,Vj x] w fun r w'=>r = .bool true/\Qm5 w' (Grow S w) p width (n+1) (Qq1 s (key,t/width) x)/\Mod S w w':=by
 obtain⟨bs,br,L,R,h⟩:=h;refine Fi Tryz.func120 rfl _ rfl rfl (Hh ?_);have hc1:(((decide ((key.size:Int)<1)||decide ((24:Int)<key.size))||decide (t<0))||decide (1099511627776<t))=false:=(by rw[decide_eq_false Om,decide_eq_false Om,decide_eq_false Om,decide_eq_false Om];rfl);constructor
 . intro q;have q:=hc1.symm.trans q;cases q
 intro _;refine Hh ?_;refine⟨_,fun _=>h.head.one rfl,Hh ?_⟩;have hc2:((decide (x<0)||decide (1048576<x))||decide (1048576<=n))=false:=(by rw[decide_eq_false Om,decide_eq_false Om,decide_eq_false Om];rfl);constructor
 . intro q;have q:=hc2.symm.trans q;cases q
 intro _;refine Hh ?_;refine⟨_,h.head.one rfl,Hh ?_⟩;refine⟨n+1,wrap_eq rfl ⟨Om,Om⟩,Hh ?_⟩;refine Qc Qb (e:=ty3) rfl h.head rfl rfl rfl Oj fun w1 h1 ho1 => ?_
 have hc:Qm5 w1 S p width (n+1) s:=⟨bs,br,L,R,h.mine,h1,h.sums.only ho1 h.mine.2.2,h.rows.keep fun k _ hk2=>⟨ho1.block k (h.rset k hk2).2.1,hk2⟩,h.rset⟩;refine Hh ?_;refine(Q80 w1 p width (n+1) bs br h1 hw t ht).mono ?_;rintro _ w2 ⟨rfl,rfl⟩;refine Hh ?_;refine(Q4c w2 S p width (n+1) s hc (key,t/width) x N hN hN0 hNb ⟨hx0.1,Om⟩ hlen).mono ?_;rintro _ w3 ⟨rfl,hc3,hm3⟩;refine Hh ?_;refine⟨rfl,hc3.keep fun k _ hk2=>⟨rfl,?_⟩,(Qj ho1 h.mine.1).trans hm3⟩;rcases hk2 with hk2 | hk2
 . exact .inl hk2
 . exact .inr (by rw[ho1.size] at hk2;exact hk2)
def Qri (w:World) (S:Nat->Prop) (b:Nat) (m:List (Bj×Bool)):Prop:=S b/\MapAt w b Value.string (Xj Value.bool m)
theorem Qat:Local Qri where
 keep h hk:=⟨(hk _ h.2.lt h.1).2,h.2.keep (hk _ h.2.lt h.1).1⟩
 lt h:=⟨h.2.lt,h.1⟩
def Qxd (w:World) (S:Nat->Prop) (b:Nat) (m:List (Int×List (Bj×Bool))):Prop:=MapOf vi Qri w S b m
theorem Qai:Local Qxd:=Qyk Qat
abbrev Ses:=List (Bj×List (Int×List (Bj×Bool)))
def Xbj (s:Ses) (person:Bj) (t:Int) (item:Bj):Ses :=
 Xc s person (Xc ((Qe s person).getD []) t (Xc ((Qe ((Qe s person).getD []) t).getD []) item true))
structure SeL (w:World) (S:Nat->Prop) (p:Nat) (gap:Int) (s:Ses) (bm:Nat):Prop where
 mine:S p
 head:At w p 288 [vi gap,.map (some bm)]
 sums:MapOf Value.string Qxd w (fun k=>S k/\k≠p) bm s
def Qz8 (w:World) (S:Nat->Prop) (p:Nat) (gap:Int) (s:Ses):Prop:=∃ bm,SeL w S p gap s bm
theorem Qz8.keep {w w1:World} {S S':Nat->Prop} {p:Nat} {gap:Int} {s:Ses} (h:Qz8 w S p gap s) (hk:∀ k,k<w.heap.size->S k->w1.heap[k]? = w.heap[k]? /\ S' k):Qz8 w1 S' p gap s:=by
 obtain⟨bm,h⟩:=h;refine⟨bm,(hk p h.head.lt h.mine).2,(hk p h.head.lt h.mine).1.trans h.head,h.sums.keep Qai fun k hk1 hk2 => ?_⟩;obtain⟨q1,q2⟩:=hk k hk1 hk2.1;exact⟨q1,q2,hk2.2⟩
def Q7d (h:Int):Int:=min (max h 0) 1099511627776
theorem Q4u (gap:Int) (w:World):Cal Tryz.prog 106 [Vj gap] w fun r w'=>∃ p,r = Pj p/\Qz8 w' (fun k=>w.heap.size<=k) p (Q7d gap) []/\Ext w w':=by
 refine Fi Tryz.func106 rfl _ rfl rfl (Hh ?_);intro b1 w1 hn1;refine Hh ?_;intro b2 w2 hn2;refine Hh ?_;have e1:=hn1.block;have e2:=hn2.block;have s1:=hn1.size;refine⟨b2,rfl,⟨b1,Om,hn2.At,?_⟩,hn1.ext.trans hn2.ext⟩;exact(MapOf.new (S:=fun k=>w.heap.size<=k/\k≠b2) hn1 ⟨Om,Om⟩).keep Qai fun k hk hs=>⟨hn2.ext.block k hk,hs⟩
theorem Xdz:Tryz.prog.underlying 286=some (.map 9 303):=by kernel_rfl
theorem Q5m:Tryz.prog.underlying 303=some (.map 3 90):=by kernel_rfl
theorem Qpf:Tryz.prog.underlying 90=some (.map 9 4):=by kernel_rfl
theorem Qoy (t:Bj) (w:World):Cal Tryz.prog 187 [.string t] w fun r w'=>r = .bool (decide ((1:Int)<=t.size)&&decide ((t.size:Int)<=24))/\w'=w:=by
 refine Fi Tryz.func187 rfl _ rfl rfl (Hh ?_);exact⟨rfl,rfl⟩
set_option maxHeartbeats 1000000 in
theorem Q4r (w:World) (S:Nat->Prop) (p:Nat) (gap:Int) (s:Ses) (h:Qz8 w S p gap s) (person item:Bj) (t:Int) (hp:1<=person.size/\person.size<=24) (hi:1<=item.size/\item.size<=24) (ht:0<=t/\t<=1099511627776) :
 Cal Tryz.prog 121 [Pj p,.string person,Vj t,.string item] w fun r w'=>r = .bool true/\Qz8 w' (Grow S w) p gap (Xbj s person t item)/\Mod S w w':=by
 obtain⟨bm,h⟩:=h;have hplt:=h.head.lt;refine Fi Tryz.func121 rfl _ rfl rfl (Hh ?_);refine(Qoy person w).mono ?_;rintro _ w0 ⟨rfl,hw0⟩;replace hw0:=hw0.symm;subst hw0;refine Hh ?_;refine⟨Unit,fun _ => .bool (decide ((1:Int)<=item.size)&&decide ((item.size:Int)<=24)),fun _ w'=>w'=w,(),fun _=>(Qoy item w).mono (fun r w' h=>⟨(),h.1,h.2⟩),fun _ w0 h0 => ?_⟩;have hw0:w=w0:=(by rcases h0 with⟨_,h⟩ | ⟨_,h⟩ <;> exact h.symm);clear h0;subst hw0;refine Hh ?_;have hc1:((((!(decide ((1:Int)<=person.size)&&decide ((person.size:Int)<=24)))||(!(decide ((1:Int)<=item.size)&&decide ((item.size:Int)<=24))))||decide (t<0))||decide (1099511627776<t))=false:=(by rw[decide_eq_true Om,decide_eq_true Om,decide_eq_true Om,decide_eq_true Om,decide_eq_false Om,decide_eq_false Om];rfl);constructor
 . intro q;have q:=hc1.symm.trans q;cases q
 intro _;clear hc1;refine Hh ?_
 refine Xl Qb (ι:=Ses) (fun _ => [(0,Pj p),(1,.string person),(2,Vj t),(3,.string item)])
  (fun s1 w'=>(∃ m1,Qe s1 person=some m1/\m1=(Qe s person).getD [])/\(∀ v,Xc s1 person v=Xc s person v)/\MapOf Value.string Qxd w' (fun k=>Grow S w k/\k≠p) bm s1/\At w' p 288 [vi gap,.map (some bm)]/\Mod S w w') ?_ ?_
 . (conv=>whnf)
   refine⟨.map (some bm),h.head.one rfl,Hh ?_⟩;rcases h.sums.look Qai Xdz (Qo Xb) (e:=ty303) ty303_ok rfl person with⟨hno,hrd⟩ | ⟨b,v,Sk,hsome,hrd,hIv,hSk,_⟩
   . refine⟨_,hrd .same Qp,Hh ?_⟩;refine⟨_,Qau Q5m none _ _,Hh ?_⟩;constructor
     . intro _;refine Hh ?_;refine⟨.map (some bm),h.head.one rfl,Hh ?_⟩;intro b1 w1 hn1;refine Hh ?_;have e1:=hn1.block;refine h.sums.insert Qai Xdz (Qo Xb) person hno hn1.ext (v := []) (MapOf.new hn1 Om) fun w2 hm2 ho2 => ?_
       refine Hh ?_;have hbp:bm≠p:=h.sums.lt.2.2;refine⟨Xc s person [],⟨⟨[],Q9 _ _ _,by rw[hno];rfl⟩,fun v=>Qdf person [] v s,?_,?_,?_⟩,Rr⟩
       . refine hm2.keep Qai fun k _ hk2=>⟨rfl,?_⟩
         rcases hk2 with hk2 | hk2
         . exact⟨.inl hk2.1,hk2.2⟩
         . exact⟨.inr hk2,Om⟩
       . exact ho2.at_ (h.head.ext hn1.ext) (Ne.symm hbp)
       . exact(Mod.of_ext hn1.ext).trans (Qj ho2 h.sums.lt.2.1)
     . intro q;cases q
   . refine⟨_,hrd .same Qp,Hh ?_⟩;refine⟨_,Qau Q5m (some b) _ _,Hh ?_⟩;constructor
     . intro q;cases q
     . intro _;refine Hh ?_;refine⟨s,⟨⟨v,hsome,by rw[hsome];rfl⟩,fun v=>rfl,h.sums.keep Qai fun k _ hk2=>⟨rfl,.inl hk2.1,hk2.2⟩,h.head,Mod.refl _ _⟩,Rr⟩
 rintro s1 w1 ⟨⟨m1,hm1,hm1e⟩,hset,hs1,hp1,hmod1⟩;refine Hh ?_;refine⟨.map (some bm),hp1.one rfl,Hh ?_⟩;rcases hs1.look Qai Xdz (Qo Xb) (e:=ty303) ty303_ok rfl person with⟨hno,hrd⟩ | ⟨b,v,Sk,hsome,hrd,hIv,hSk,hback⟩
 . rw[hm1] at hno;cases hno
 obtain rfl:m1=v:=by rw[hm1] at hsome;simpa using hsome
 refine⟨_,hrd .same Qp,Hh ?_⟩;have hIv':MapOf vi Qri w1 Sk b m1:=hIv
 refine Xl Qb (ι:=List (Int×List (Bj×Bool))) (fun _ => [(2,Vj t),(3,.string item),(10,.map (some b))])
  (fun m2 w'=>(∃ z,Qe m2 t=some z/\z=(Qe m1 t).getD [])/\(∀ v,Xc m2 t v=Xc m1 t v)/\MapOf vi Qri w' (Grow Sk w1) b m2/\Mod Sk w1 w') ?_ ?_
 . (conv=>whnf)
   rcases hIv'.look Qat Q5m (Qkr Xhf) (e:=ty90) ty90_ok rfl t with⟨hno,hrd⟩ | ⟨b2,v,Sk2,hsome2,hrd,hIv2,hSk2,_⟩
   . refine⟨_,hrd .same Qp,Hh ?_⟩;refine⟨_,Qau Qpf none _ _,Hh ?_⟩;constructor
     . intro _;refine Hh ?_;intro b3 w3 hn3;refine Hh ?_;have e3:=hn3.block;refine hIv'.insert Qat Q5m (Qkr Xhf) t hno hn3.ext (v := []) ⟨Om,MapAt.new hn3⟩ fun w4 hm4 ho4 => ?_
       refine Hh ?_;exact⟨Xc m1 t [],⟨⟨[],Q9 _ _ _,by rw[hno];rfl⟩,fun v=>Qdf t [] v m1,hm4,(Mod.of_ext hn3.ext).trans (Qj ho4 hIv'.lt.2)⟩,Rr⟩
     . intro q;cases q
   . refine⟨_,hrd .same Qp,Hh ?_⟩;refine⟨_,Qau Qpf (some b2) _ _,Hh ?_⟩;constructor
     . intro q;cases q
     . intro _;refine Hh ?_;exact⟨m1,⟨⟨v,hsome2,by rw[hsome2];rfl⟩,fun v=>rfl,hIv'.keep Qat fun k _ hk2=>⟨rfl,.inl hk2⟩,Mod.refl _ _⟩,Rr⟩
 rintro m2 w2 ⟨⟨z,hz,hze⟩,hset2,hI2,hmod2⟩;refine Hh ?_;rcases hI2.look Qat Q5m (Qkr Xhf) (e:=ty90) ty90_ok rfl t with⟨hno,hrd2⟩ | ⟨b2,v,Sk2,hsome2,hrd2,hIv2,hSk2,hback2⟩
 . rw[hz] at hno;cases hno
 obtain rfl:z=v:=by rw[hz] at hsome2;simpa using hsome2
 refine⟨_,hrd2 .same Qp,Hh ?_⟩;refine Qx Qpf (Qo Xb) hIv2.2 item (.bool true) fun w3 hm3 ho3 => ?_
 rw[Xa] at hm3;refine Hh ?_;have hb2S:=hSk2 b2 hIv2.1;have hin:=hback2 w3 (Xc z item true) ⟨.inl hIv2.1,hm3⟩ (Qj ho3 hIv2.1);rw[hset2,hze] at hin;have hmod3:Mod Sk w1 w3:=Qn hmod2 (Qj ho3 hb2S.1)
 have hfin:=hback w3 _ (MapOf.keep Qat hin (S':=Grow Sk w1) fun k _ hk2=>⟨rfl,by
  rcases hk2 with hk2 | hk2
  . exact hk2
  . exact .inr (by have:=hmod2.size;omega)⟩) hmod3
 rw[hset] at hfin;have hp1lt:=hp1.lt;have hpn:¬ Sk p:=fun q=>(hSk p q).1.2 rfl
 refine⟨rfl,⟨bm,.inl h.mine,hp1.mod hmod3 hpn,?_⟩,Qn hmod1 (hmod3.mono fun k _ hk=>(hSk k hk).1.1)⟩;unfold Xbj;rw[<- hm1e];refine hfin.keep Qai fun k _ hk2=>⟨rfl,?_⟩
 rcases hk2 with hk2 | hk2
 . exact hk2
 . exact⟨.inr (by have:=hmod1.size;omega),Om⟩
structure Cfg where
 half:Int
 width:Int
 gap:Int
 span:Int
 floor:Int
 crowd:Int
def Qrp (c:Cfg):List Value := [vi c.half,vi c.width,vi c.gap,vi c.span,vi c.floor,vi c.crowd]
def Xec (c:Cfg):Value := .agg (Qrp c).toArray
def Qw6 (c:Cfg):Bool:=inB c.half 1 1099511627776&&inB c.width 1 1099511627776&&inB c.span 1 1099511627776&&decide (c.span.tmod c.width=0)&&inB c.gap 0 1099511627776&&inB c.floor 0 1048576&&inB c.crowd 0 1048576
theorem Qdb (n lo hi:Int) (w:World):Cal Tryz.prog 101 [Vj n,Vj lo,Vj hi] w fun r w'=>r = .bool (inB n lo hi)/\w'=w:=by
 refine Fi Tryz.func101 rfl _ rfl rfl (Hh ?_);exact⟨rfl,rfl⟩
theorem Qw5 (c:Cfg) (w:World):Cal Tryz.prog 62 [Xec c] w fun r w'=>r = .bool (Qw6 c)/\Ext w w':=by
 refine Fi Tryz.func62 rfl _ rfl rfl (Hh ?_);intro b w1 hn;have hb:At w1 b 25 (Qrp c):=hn.At;refine Hh ?_;refine⟨_,hb.one0,Hh ?_⟩;refine(Qdb c.half 1 1099511627776 w1).mono ?_;rintro _ w2 ⟨rfl,hw2⟩;replace hw2:=hw2.symm;subst hw2;refine Hh ?_;refine⟨_,fun _=>hb.one rfl,Hh ?_⟩;refine⟨Unit,fun _ => .bool (inB c.width 1 1099511627776),fun _ w'=>w'=w1,(),fun _=>(Qdb c.width 1 1099511627776 w1).mono fun r w' h=>⟨(),h.1,h.2⟩,?_⟩;intro _ w3 h3;have hw3:w1=w3:=(by rcases h3 with⟨_,h⟩ | ⟨_,h⟩ <;> exact h.symm);clear h3;subst hw3;refine Hh ?_;refine⟨_,fun _=>hb.one rfl,Hh ?_⟩;refine⟨Unit,fun _ => .bool (inB c.span 1 1099511627776),fun _ w'=>w'=w1,(),fun _=>(Qdb c.span 1 1099511627776 w1).mono fun r w' h=>⟨(),h.1,h.2⟩,?_⟩;intro _ w4 h4;have hw4:w1=w4:=(by rcases h4 with⟨_,h⟩ | ⟨_,h⟩ <;> exact h.symm);clear h4;subst hw4;refine Hh ?_;refine⟨_,fun _=>hb.one rfl,Hh ?_⟩;refine⟨_,fun _=>hb.one rfl,Hh ?_⟩;refine⟨c.span.tmod c.width,fun hg=>⟨?_,rfl⟩,?_⟩
 . have hg:(inB c.half 1 1099511627776&&inB c.width 1 1099511627776&&inB c.span 1 1099511627776)=true:=hg;simp only[Zl,Qc4] at hg;omega
 refine Hh ?_;refine⟨_,fun _=>hb.one rfl,Hh ?_⟩;refine⟨Unit,fun _ => .bool (inB c.gap 0 1099511627776),fun _ w'=>w'=w1,(),fun _=>(Qdb c.gap 0 1099511627776 w1).mono fun r w' h=>⟨(),h.1,h.2⟩,?_⟩;intro _ w5 h5;have hw5:w1=w5:=(by rcases h5 with⟨_,h⟩ | ⟨_,h⟩ <;> exact h.symm);clear h5;subst hw5;refine Hh ?_;refine⟨_,fun _=>hb.one rfl,Hh ?_⟩;refine⟨Unit,fun _ => .bool (inB c.floor 0 1048576),fun _ w'=>w'=w1,(),fun _=>(Qdb c.floor 0 1048576 w1).mono fun r w' h=>⟨(),h.1,h.2⟩,?_⟩;intro _ w6 h6;have hw6:w1=w6:=(by rcases h6 with⟨_,h⟩ | ⟨_,h⟩ <;> exact h.symm);clear h6;subst hw6;refine Hh ?_;refine⟨_,fun _=>hb.one rfl,Hh ?_⟩;refine⟨Unit,fun _ => .bool (inB c.crowd 0 1048576),fun _ w'=>w'=w1,(),fun _=>(Qdb c.crowd 0 1048576 w1).mono fun r w' h=>⟨(),h.1,h.2⟩,?_⟩;intro _ w7 h7;have hw7:w1=w7:=(by rcases h7 with⟨_,h⟩ | ⟨_,h⟩ <;> exact h.symm);clear h7;subst hw7;refine Hh ?_;exact⟨rfl,hn.ext⟩
abbrev IK:=Bj×Int
def idC (k:IK):List Value := [.string k.1,Vj k.2]
def idV (k:IK):Value := .agg (idC k).toArray
def Xi7 (e:Ev):IK:=(e.src,e.num)
theorem Q7p:Qtw Tryz.prog 160 idV :=
 Qhw (encl:=idC) Qb st160 (fun k=>rfl)
  (fun a b=>by
   show some (decide (a.1=b.1)&&(decide (a.2=b.2)&&true))=some (decide (a=b))
   rw[Zc7];congr 1
   by_cases h1:a.1=b.1 <;> by_cases h2:a.2=b.2 <;> simp[Prod.ext_iff,h1,h2])
  (fun k=>by simp[Instr.sameBits,idC,Go.MapKept.bytes_beq])
structure Cts where
 cs:List Ev
 rs:List Row
 dn:Int
 ds:Qld
 pn:Int
 ps:Qal
 ss:Ses
def Q5s:Cts:=⟨[],[],0,[],0,[],[]⟩
def Qgr (s:Bj):Bj:=(⟨#[59]⟩:Bj)++s
def Qbd (cs:List Ev) (e:Ev):List Bj:=if(Xw cs e.item e.at_).2=true then Xg (Qgr (Xw cs e.item e.at_).1.tags) else []
def Qdw (width:Int) (c:Cts) (e:Ev):Cts :=
 if e.kind=11\/e.kind=12\/e.kind=13 then { c with cs:=c.cs ++ [e] }
 else if e.kind=14 then c
 else if 0<Qy e then⟨c.cs,c.rs ++ [(e,Qbo (Qbd c.cs e))],c.dn+1,Qq2 c.ds e.item e.at_ (Qy e),c.pn+1,Qq1 c.ps (e.item,e.at_/Xd width) (Qy e),Xbj c.ss e.person e.at_ e.item⟩
 else { c with rs:=c.rs ++ [(e,Qbo (Qbd c.cs e))] }
structure WS where
 es:List Ev
 any:Bool
 last:Ev
 ad:List (IK×Bool)
 fg:List (Bj×Bool)
 ct:Cts
structure WP where
 ba:Nat
 bf:Nat
 pc:Nat
 pw:Nat
 pd:Nat
 pp:Nat
 ps:Nat
def wC (c:Cfg) (A:Option Addr) (n cap:Nat) (any:Bool) (last:Ev) (q:WP):List Value :=
 [vi c.half,vi c.width,vi c.gap,vi c.span,vi c.floor,vi c.crowd,.slice A n cap,.bool any,
  .string last.src,Vj last.num,Vj last.at_,Vj last.kind,.string last.person,.string last.item,Vj last.val,.string last.text,
  .map (some q.ba),.map (some q.bf),Pj q.pc,Pj q.pw,Pj q.pd,Pj q.pp,Pj q.ps,.pointer none]
structure Qpn (w:World) (col:Nat->Nat) (c:Cfg) (q:WP) (t:Cts):Prop where
 cat:Qgb w (fun k=>col k=1) q.pc t.cs
 crowd:X3 w (fun k=>col k=2) q.pw (Xd c.half) t.rs
 dec:Qpm w (fun k=>col k=3) q.pd (Xd c.half) t.dn t.ds
 pane:Qm5 w (fun k=>col k=4) q.pp (Xd c.width) t.pn t.ps
 ses:Qz8 w (fun k=>col k=5) q.ps (Q7d c.gap) t.ss
theorem Qpn.keep {w w1:World} {col col':Nat->Nat} {c:Cfg} {q:WP} {t:Cts} (h:Qpn w col c q t) (hk:∀ k,k<w.heap.size->1<=col k/\col k<=5->w1.heap[k]? = w.heap[k]? /\ col' k=col k):Qpn w1 col' c q t :=
 ⟨h.cat.keep fun k h1 h2=>⟨(hk k h1 Om).1,by rw[(hk k h1 Om).2];exact h2⟩,
  h.crowd.keep fun k h1 h2=>⟨(hk k h1 Om).1,by rw[(hk k h1 Om).2];exact h2⟩,
  h.dec.keep fun k h1 h2=>⟨(hk k h1 Om).1,by rw[(hk k h1 Om).2];exact h2⟩,
  h.pane.keep fun k h1 h2=>⟨(hk k h1 Om).1,by rw[(hk k h1 Om).2];exact h2⟩,
  h.ses.keep fun k h1 h2=>⟨(hk k h1 Om).1,by rw[(hk k h1 Om).2];exact h2⟩⟩
structure Qb7 (w:World) (base:Nat) (p:Nat) (c:Cfg) (s:WS) (col:Nat->Nat) (q:WP) (A:Option Addr) (cap:Nat):Prop where
 low:10<=base/\∀ k,col k≠0->base<=k
 head:At w p 97 (wC c A s.es.length cap s.any s.last q)
 cols:col p=6/\col q.ba=7/\col q.bf=8/\∀ a,A=some a->col a.block=9
 added:MapAt w q.ba idV (Xj Value.bool s.ad)
 forg:MapAt w q.bf Value.string (Xj Value.bool s.fg)
 evs:Own evC 8 77 0 w A cap s.es
 cts:Qpn w col c q s.ct
def Qm9 (w:World) (base:Nat) (p:Nat) (c:Cfg) (s:WS):Prop:=∃ col q A cap,Qb7 w base p c s col q A cap
theorem Xjf:Tryz.prog.underlying 89=some (.map 160 4):=by kernel_rfl
def Xfk (n0 n1 n2 n3 n4 n5 k:Nat):Nat:=if k<n0 then 0 else if k<n1 then 1 else if k<n2 then 2 else if k<n3 then 3 else if k<n4 then 4 else if k<n5 then 5 else 0
set_option maxHeartbeats 2000000 in
theorem Q2o (w:World) (p:Nat) (c:Cfg) (v6 v7 v8 v9 v10 v11 v12 v13 v14 v15 v16 v17 x0 x1 x2 x3 x4 x5:Value)
 (hp:At w p 97 [vi c.half,vi c.width,vi c.gap,vi c.span,vi c.floor,vi c.crowd,v6,v7,v8,v9,v10,v11,v12,v13,v14,v15,v16,v17,x0,x1,x2,x3,x4,x5]) :
 Cal Tryz.prog 63 [Pj p] w fun r w'=>r = .tuple #[]/\∃ (pc pw pd pp ps:Nat) (col:Nat->Nat),At w' p 97 [vi c.half,vi c.width,vi c.gap,vi c.span,vi c.floor,vi c.crowd,v6,v7,v8,v9,v10,v11,v12,v13,v14,v15,v16,v17,Pj pc,Pj pw,Pj pd,Pj pp,Pj ps,.pointer none] /\
  (∀ ba bf,Qpn w' col c ⟨ba,bf,pc,pw,pd,pp,ps⟩ Q5s)/\(∀ k,col k≠0->w.heap.size<=k/\k<w'.heap.size/\col k<=5)/\Mod (fun k=>k=p) w w':=by
 have hplt:=hp.lt;refine Fi Tryz.func63 rfl _ rfl rfl (Hh ?_);refine(Qnj w).mono ?_;rintro _ w1 ⟨pc,rfl,hc1,hx1⟩;have s1:=hx1.size;refine Hh ?_;refine Qc Qb (e:=ty61) rfl (hp.ext hx1) rfl rfl rfl Oj fun w2 h2 ho2 => ?_
 have z2:=ho2.size;refine Hh ?_;refine⟨_,h2.one rfl,Hh ?_⟩;refine(Qrz c.half w2).mono ?_;rintro _ w3 ⟨pw,rfl,hc3,hx3⟩;have s3:=hx3.size;refine Hh ?_;refine Qc Qb (e:=ty91) rfl (h2.ext hx3) rfl rfl rfl Oj fun w4 h4 ho4 => ?_
 have z4:=ho4.size;refine Hh ?_;refine⟨_,h4.one rfl,Hh ?_⟩;refine(Qxr c.half w4).mono ?_;rintro _ w5 ⟨pd,rfl,hc5,hx5⟩;have s5:=hx5.size;refine Hh ?_;refine Qc Qb (e:=ty92) rfl (h4.ext hx5) rfl rfl rfl Oj fun w6 h6 ho6 => ?_
 have z6:=ho6.size;refine Hh ?_;refine⟨_,h6.one rfl,Hh ?_⟩;refine(Q4b c.width w6).mono ?_;rintro _ w7 ⟨pp,rfl,hc7,hx7⟩;have s7:=hx7.size;refine Hh ?_;refine Qc Qb (e:=ty93) rfl (h6.ext hx7) rfl rfl rfl Oj fun w8 h8 ho8 => ?_
 have z8:=ho8.size;refine Hh ?_;refine⟨_,h8.one rfl,Hh ?_⟩;refine(Q4u c.gap w8).mono ?_;rintro _ w9 ⟨ps,rfl,hc9,hx9⟩;have s9:=hx9.size;refine Hh ?_;refine Qc Qb (e:=ty94) rfl (h8.ext hx9) rfl rfl rfl Oj fun w10 h10 ho10 => ?_
 have z10:=ho10.size;refine Hh ?_;refine Qc Qb (e:=ty95) rfl h10 rfl rfl rfl Oj fun w11 h11 ho11 => ?_
 have z11:=ho11.size;refine Hh ?_;have hm1:Mod (fun k=>k=p) w w2:=(Mod.of_ext hx1).trans ho2.mod;have hm3:Mod (fun k=>k=p) w2 w4:=(Mod.of_ext hx3).trans ho4.mod;have hm5:Mod (fun k=>k=p) w4 w6:=(Mod.of_ext hx5).trans ho6.mod;have hm7:Mod (fun k=>k=p) w6 w8:=(Mod.of_ext hx7).trans ho8.mod;have hm9:Mod (fun k=>k=p) w8 w11:=(Mod.of_ext hx9).trans (ho10.mod.trans ho11.mod);have k9:Mod (fun k=>k=p) w9 w11:=ho10.mod.trans ho11.mod;have k7:Mod (fun k=>k=p) w7 w11:=ho8.mod.trans hm9;have k5:Mod (fun k=>k=p) w5 w11:=ho6.mod.trans (hm7.trans hm9);have k3:Mod (fun k=>k=p) w3 w11:=ho4.mod.trans (hm5.trans (hm7.trans hm9));have k1:Mod (fun k=>k=p) w1 w11:=ho2.mod.trans (hm3.trans (hm5.trans (hm7.trans hm9)));refine⟨rfl,pc,pw,pd,pp,ps,Xfk w.heap.size w1.heap.size w3.heap.size w5.heap.size w7.heap.size w9.heap.size,h11,fun ba bf=>⟨?_,?_,?_,?_,?_⟩,?_,hm1.trans (hm3.trans (hm5.trans (hm7.trans hm9)))⟩
 . refine hc1.keep fun k h1 h2=>⟨k1.block k h1 Om,?_⟩
   unfold Xfk;rw[if_neg Om,if_pos h1]
 . refine hc3.keep fun k h1 h2=>⟨k3.block k h1 Om,?_⟩
   unfold Xfk;rw[if_neg Om,if_neg Om,if_pos h1]
 . refine hc5.keep fun k h1 h2=>⟨k5.block k h1 Om,?_⟩
   unfold Xfk;rw[if_neg Om,if_neg Om,if_neg Om,if_pos h1]
 . refine hc7.keep fun k h1 h2=>⟨k7.block k h1 Om,?_⟩
   unfold Xfk;rw[if_neg Om,if_neg Om,if_neg Om,if_neg Om,if_pos h1]
 . refine hc9.keep fun k h1 h2=>⟨k9.block k h1 Om,?_⟩
   unfold Xfk;rw[if_neg Om,if_neg Om,if_neg Om,if_neg Om,if_neg Om,if_pos h1]
 . intro k hk;unfold Xfk at hk ⊢
   repeat' split at hk
   all_goals first
    | exact absurd rfl hk
    | (refine⟨Om,Om,?_⟩;repeat' split;all_goals omega)
def WS0:WS:=⟨[],false,Xe0,[],[],Q5s⟩
theorem Qts (c:Cfg) (w:World) (hg:10<=w.heap.size) (hc:Qw6 c=true):Cal Tryz.prog 20 [Xec c] w fun r w'=>∃ p,r = .tuple #[Pj p,Vj 0]/\Qm9 w' w.heap.size p c WS0/\Ext w w':=by
 refine Fi Tryz.func20 rfl _ rfl rfl (Hh ?_);intro b1 w1 hn1;have hb1:At w1 b1 25 (Qrp c):=hn1.At;refine Hh ?_;refine⟨Qrp c,⟨rfl,hb1.all⟩,Hh ?_⟩;refine(Qw5 c w1).mono ?_;rintro _ w2 ⟨rfl,hx2⟩;rw[hc];have hb2:=hb1.ext hx2;refine Hh ?_;constructor
 . intro q;cases q
 intro _;refine Hh ?_;refine⟨Qrp c,⟨rfl,hb2.all⟩,Hh ?_⟩;intro b3 w3 hn3;refine Hh ?_;intro b4 w4 hn4;refine Hh ?_;intro b5 w5 hn5;refine Hh ?_;have e3:=hn3.block;have e4:=hn4.block;have e5:=hn5.block;have s1:=hn1.size;have s2:=hx2.size;have s3:=hn3.size;have s4:=hn4.size;have s5:=hn5.size;have e1:=hn1.block;refine(Q2o w5 b5 c _ _ _ _ _ _ _ _ _ _ _ _ _ _ _ _ _ _ hn5.At).mono ?_;rintro _ w6 ⟨rfl,pc,pw,pd,pp,ps,col,h6,hcts,hcol,hm6⟩;refine Hh ?_;have hx5:Ext w w5:=(((hn1.ext.trans hx2).trans hn3.ext).trans hn4.ext).trans hn5.ext
 have hz:∀ k,k<w5.heap.size->col k=0:=fun k hk=>by
  cases hq:decide (col k=0) with
  | true=>simpa using hq
  | false=>have:=hcol k (Su hq);omega
 refine⟨b5,rfl,⟨fun k=>if k=b5 then 6 else if k=b3 then 7 else if k=b4 then 8 else col k,⟨b3,b4,pc,pw,pd,pp,ps⟩,none,0,⟨hg,fun k hk => ?_⟩,h6,⟨by simp,?_,?_,by simp⟩,?_,?_,Own.nil,(hcts b3 b4).keep fun k _ hk=>⟨rfl,?_⟩⟩,Qgf hx5 hm6 Om⟩
 . by_cases q:col k=0
   . by_cases q1:k=b5
     . omega
     . by_cases q2:k=b3
       . omega
       . by_cases q3:k=b4
         . omega
         . simp[q1,q2,q3,q] at hk
   . have:=hcol k q;omega
 . have:b3≠b5:=Om;simp[this]
 . have h1:b4≠b5:=Om;have h2:b4≠b3:=Om;simp[h1,h2]
 . exact((MapAt.new hn3).ext (hn4.ext.trans hn5.ext)).mod hm6 Om
 . exact((MapAt.new hn4).ext hn5.ext).mod hm6 Om
 . have hk5:w5.heap.size<=k:=(by have:=hcol k Om;exact this.1);rw[if_neg Om,if_neg Om,if_neg Om]
theorem X8:∀ cs:List Ev,(∀ e∈cs,X0 e=true)->∀ name,(Qz cs name).length<=cs.length/\∀ s∈Qz cs name,s.item.tags.size<1000:=by
 refine Qv (fun _ name=>by simp[Qz]) fun l e ih h name => ?_
 have ih:=ih (fun x hx=>h x (by simp[hx]));rw[Qba];unfold Qff Ql4;split
 . next hn =>
   have hi:=ih e.item;refine⟨by simp;omega,fun s hs => ?_⟩;rcases Zj.1 hs with hs | hs
   . exact hi.2 s hs
   . rw[Zk] at hs;subst hs
     have h0:((Qz l e.item).getLast?.getD (Qid e.item)).item.tags.size<1000:=by
      cases hq:(Qz l e.item).getLast? with
      | none=>simp[Qid,Qbt,ByteArray.size]
      | some s=>exact hi.2 s (Zbn hq)
     have ht:=Qdc (h e (by simp));have hr:=Qj4 e.text;unfold Qfb Qb8;split
     . show (Qa7 e.text).size<1000;omega
     . split
       . exact h0
       . exact h0
 . have:=ih name;exact⟨by simp;omega,this.2⟩
theorem Qfm (cs:List Ev) (h:∀ e∈cs,X0 e=true) (name:Bj) (t:Int):(Xw cs name t).1.tags.size<1000:=by
 unfold Xw;split
 . next s hs =>
   split
   . simp[Qbt,ByteArray.size]
   . exact(X8 cs h name).2 s (Zax hs)
 . simp[Qbt,ByteArray.size]
def Qi (width:Int) (l:List Ev):Cts:=l.foldl (Qdw width) Q5s
theorem Qcz (width:Int) (l:List Ev) (e:Ev):Qi width (l ++ [e])=Qdw width (Qi width l) e:=by unfold Qi;rw[Zt];rfl
structure Xhg (t:Cts) (l:List Ev):Prop where
 cs:t.cs.Sublist l
 rs:(evs t.rs).Sublist l
 dn:0<=t.dn/\t.dn<=l.length
 pn:0<=t.pn/\t.pn<=l.length
 ds:Qec t.ds (l.length*5)
 ps:Qg3 t.ps (l.length*5)
 pl:t.ps.length<=l.length
theorem Qb3 {κ β:Type} [DecidableEq κ] (k:κ) (v:β):∀ l:List (κ×β),(Xc l k v).length<=l.length+1
 | []=>by simp[Xc]
 | x :: l=>by
   have:=Qb3 k v l;unfold Xc;split <;> simp <;> omega
theorem Qj9 {s:Qld} {N M:Int} (h:Qec s N) (hl:N<=M):Qec s M:=fun k t=>⟨(h k t).1,by have:=(h k t).2;omega⟩
theorem Qfy {s:Qal} {N M:Int} (h:Qg3 s N) (hl:N<=M):Qg3 s M:=fun x hx=>⟨(h x hx).1,by have:=(h x hx).2;omega⟩
theorem Qr3 (rs:List Row) (r:Row):evs (rs ++ [r])=evs rs ++ [r.1]:=by simp[evs]
theorem Qh7 (width:Int):∀ l:List Ev,(∀ e∈l,X0 e=true)->Xhg (Qi width l) l:=by
 refine Qv (fun _=>⟨by simp[Qi,Q5s],by simp[Qi,Q5s,evs],by simp[Qi,Q5s],by simp[Qi,Q5s],?_,?_,by simp[Qi,Q5s]⟩) fun l e ih h => ?_
 . intro k t;simp[Qi,Q5s,Qe]
 . intro x hx;simp[Qi,Q5s] at hx
 have ih:=ih fun x hx=>h x (by simp[hx])
 have hw:=Qkg (h e (by simp));have hN:((l ++ [e]).length:Int)=l.length+1:=by simp
 rw[Qcz];generalize Qi width l=t at ih;unfold Qdw;have hle:l.Sublist (l ++ [e]):=List.sublist_append_left l [e];split
 . exact⟨List.Sublist.append ih.cs (List.Sublist.refl _),ih.rs.trans hle,by have:=ih.dn;rw[hN];simp;omega,by have:=ih.pn;rw[hN];simp;omega,Qj9 ih.ds Om,Qfy ih.ps Om,by have:=ih.pl;simp;omega⟩
 split
 . exact⟨ih.cs.trans hle,ih.rs.trans hle,by have:=ih.dn;omega,by have:=ih.pn;omega,Qj9 ih.ds Om,Qfy ih.ps Om,by have:=ih.pl;simp;omega⟩
 split
 . refine⟨ih.cs.trans hle,?_,by have:=ih.dn;rw[hN];simp;omega,by have:=ih.pn;rw[hN];simp;omega,Qj9 (Q4e ih.ds _ _ _ hw.1) Om,Qfy (Q4d ih.ps Om _ hw.1) Om,?_⟩
   . show (evs (t.rs ++ [_])).Sublist _
     rw[Qr3];exact List.Sublist.append ih.rs (List.Sublist.refl _)
   . have:=ih.pl;show (Qq1 _ _ _).length<=_
     unfold Qq1;split
     . simp;omega
     . have:=Qb3 (e.item,e.at_/Xd width) ((Qe t.ps (e.item,e.at_/Xd width)).getD 0+Qy e) t.ps;simp;omega
 . refine⟨ih.cs.trans hle,?_,by have:=ih.dn;rw[hN];simp;omega,by have:=ih.pn;rw[hN];simp;omega,Qj9 ih.ds Om,Qfy ih.ps Om,by have:=ih.pl;simp;omega⟩;show (evs (t.rs ++ [_])).Sublist _
   rw[Qr3];exact List.Sublist.append ih.rs (List.Sublist.refl _)
theorem Q1u {l cs:List Ev} {e:Ev} (h:cs.Sublist l) (hr:Rise (l ++ [e])):cs = []\/Q5 (Qes cs) e=true:=by
 have:Rise (cs ++ [e]):=List.Pairwise.sublist (List.Sublist.append h (List.Sublist.refl [e])) hr;exact Q9h this
def Qcw (col:Nat->Nat) (w w1:World) (i k:Nat):Nat:=if k<w.heap.size then col k else if k<w1.heap.size then i else 0
theorem Qa4 {col:Nat->Nat} {w w1:World} {i k:Nat} (h:k<w.heap.size):Qcw col w w1 i k=col k:=if_pos h
theorem Qfz {col:Nat->Nat} {w w1:World} {i k:Nat} (h1:k<w1.heap.size) (h:Grow (fun k=>col k=i) w k):Qcw col w w1 i k=i:=by
 unfold Qcw
 by_cases hk:k<w.heap.size
 . rw[if_pos hk];rcases h with h | h
   . exact h
   . omega
 . rw[if_neg hk,if_pos h1]
theorem Qdn {col:Nat->Nat} {w w1:World} {i k:Nat} (hs:w.heap.size<=w1.heap.size) (h:w1.heap.size<=k):Qcw col w w1 i k=0:=by
 unfold Qcw;rw[if_neg Om,if_neg Om]
theorem Qpn.one {w w1:World} {col:Nat->Nat} {i:Nat} {c:Cfg} {q:WP} {t t':Cts} (h:Qpn w col c q t) (hm:Mod (fun k=>col k=i) w w1) (hi:1<=i/\i<=5)
 (h1:if i=1 then Qgb w1 (Grow (fun k=>col k=i) w) q.pc t'.cs else t'.cs=t.cs)
 (h2:if i=2 then X3 w1 (Grow (fun k=>col k=i) w) q.pw (Xd c.half) t'.rs else t'.rs=t.rs)
 (h3:if i=3 then Qpm w1 (Grow (fun k=>col k=i) w) q.pd (Xd c.half) t'.dn t'.ds else t'.dn=t.dn/\t'.ds=t.ds)
 (h4:if i=4 then Qm5 w1 (Grow (fun k=>col k=i) w) q.pp (Xd c.width) t'.pn t'.ps else t'.pn=t.pn/\t'.ps=t.ps)
 (h5:if i=5 then Qz8 w1 (Grow (fun k=>col k=i) w) q.ps (Q7d c.gap) t'.ss else t'.ss=t.ss):Qpn w1 (Qcw col w w1 i) c q t' where
 cat:=by
  split at h1
  . next e=>exact h1.keep fun k hk hg=>⟨rfl,by rw[Qfz hk hg,e]⟩
  . next e=>rw[h1];exact h.cat.keep fun k hk hg=>⟨hm.block k hk Om,by rw[Qa4 hk,hg]⟩
 crowd:=by
  split at h2
  . next e=>exact h2.keep fun k hk hg=>⟨rfl,by rw[Qfz hk hg,e]⟩
  . next e=>rw[h2];exact h.crowd.keep fun k hk hg=>⟨hm.block k hk Om,by rw[Qa4 hk,hg]⟩
 dec:=by
  split at h3
  . next e=>exact h3.keep fun k hk hg=>⟨rfl,by rw[Qfz hk hg,e]⟩
  . next e=>rw[h3.1,h3.2];exact h.dec.keep fun k hk hg=>⟨hm.block k hk Om,by rw[Qa4 hk,hg]⟩
 pane:=by
  split at h4
  . next e=>exact h4.keep fun k hk hg=>⟨rfl,by rw[Qfz hk hg,e]⟩
  . next e=>rw[h4.1,h4.2];exact h.pane.keep fun k hk hg=>⟨hm.block k hk Om,by rw[Qa4 hk,hg]⟩
 ses:=by
  split at h5
  . next e=>exact h5.keep fun k hk hg=>⟨rfl,by rw[Qfz hk hg,e]⟩
  . next e=>rw[h5];exact h.ses.keep fun k hk hg=>⟨hm.block k hk Om,by rw[Qa4 hk,hg]⟩
def Qi5 (w:World) (base p:Nat) (c:Cfg) (s:WS) (col:Nat->Nat):Prop:=(∃ q A cap,Qb7 w base p c s col q A cap)/\∀ k,w.heap.size<=k->col k=0
theorem Qm9.col {w:World} {base p:Nat} {c:Cfg} {s:WS} (h:Qm9 w base p c s):∃ col,Qi5 w base p c s col:=by
 obtain⟨col,q,A,cap,h⟩:=h;have hr:∀ {k},k<w.heap.size->Qcw col w w 0 k=col k:=fun hk=>Qa4 hk
 refine⟨Qcw col w w 0,⟨q,A,cap,⟨h.low.1,fun k hk => ?_⟩,h.head,⟨(hr h.head.lt).trans h.cols.1,(hr h.added.lt).trans h.cols.2.1,(hr h.forg.lt).trans h.cols.2.2.1,fun a ha=>(hr (h.evs.block ha).2).trans (h.cols.2.2.2 a ha)⟩,h.added,h.forg,h.evs,h.cts.keep fun k hk _=>⟨rfl,hr hk⟩⟩,fun k hk=>Qdn (Zg _) hk⟩
 by_cases hlt:k<w.heap.size
 . rw[hr hlt] at hk;exact h.low.2 k hk
 . exact absurd (Qdn (Zg _) Om) hk
theorem Qb7.ext {w w1:World} {base p:Nat} {c:Cfg} {s:WS} {col:Nat->Nat} {q:WP} {A:Option Addr} {cap:Nat} (h:Qb7 w base p c s col q A cap) (hx:Ext w w1):Qb7 w1 base p c s col q A cap :=
 ⟨h.low,h.head.ext hx,h.cols,h.added.ext hx,h.forg.ext hx,h.evs.ext hx,h.cts.keep fun k hk _=>⟨hx.block k hk,rfl⟩⟩
theorem Qi5.ext {w w1:World} {base p:Nat} {c:Cfg} {s:WS} {col:Nat->Nat} (h:Qi5 w base p c s col) (hx:Ext w w1):Qi5 w1 base p c s col:=by
 obtain⟨⟨q,A,cap,h⟩,hz⟩:=h;exact⟨⟨q,A,cap,h.ext hx⟩,fun k hk=>hz k (by have:=hx.size;omega)⟩
theorem Qb7.one {w w1:World} {base p:Nat} {c:Cfg} {s:WS} {col:Nat->Nat} {q:WP} {A:Option Addr} {cap i:Nat} {t:Cts} (h:Qb7 w base p c s col q A cap) (hi:1<=i/\i<=5) (hm:Mod (fun k=>col k=i) w w1) (hc:Qpn w1 (Qcw col w w1 i) c q t) :
 Qb7 w1 base p c { s with ct:=t } (Qcw col w w1 i) q A cap:=by
 have hr:∀ {k},k<w.heap.size->Qcw col w w1 i k=col k:=fun hk=>Qa4 hk
 have hb:base<=w.heap.size:=(by have:=h.low.2 p (by rw[h.cols.1];decide);have:=h.head.lt;omega);refine⟨⟨h.low.1,fun k hk => ?_⟩,h.head.mod hm (by rw[h.cols.1];omega),⟨(hr h.head.lt).trans h.cols.1,(hr h.added.lt).trans h.cols.2.1,(hr h.forg.lt).trans h.cols.2.2.1,fun a ha=>(hr (h.evs.block ha).2).trans (h.cols.2.2.2 a ha)⟩,h.added.mod hm (by rw[h.cols.2.1];omega),h.forg.mod hm (by rw[h.cols.2.2.1];omega),h.evs.keep fun a ha=>hm.block _ (h.evs.block ha).2 (by rw[h.cols.2.2.2 a ha];omega),hc⟩
 by_cases hlt:k<w.heap.size
 . rw[hr hlt] at hk;exact h.low.2 k hk
 . omega
theorem Qll {w:World} {base p:Nat} {c:Cfg} {s:WS} {col:Nat->Nat} {q:WP} {A:Option Addr} {cap:Nat} (h:Qb7 w base p c s col q A cap) {i:Nat} (hi:i≠0):∀ k,col k=i->10<=k:=fun k hk=>by
 have:=h.low.2 k Om;have:=h.low.1;omega
theorem Qo6 (s:Bj) (w:World) (hg:Gl w) (hs:s.size<4000000000) :
 Cal Tryz.prog 131 [.string s,.string ⟨#[44]⟩] w fun r w'=>∃ A c,r = .slice A (Qbs 44 s).length c/\SlT w' A (Qbs 44 s)/\(∀ a,A=some a->w.heap.size<=a.block)/\Ext w w':=by
 obtain⟨m,hm⟩:=hg.maxLen;refine Qa9 Q1d (Tryz.strings_Split s ⟨#[44]⟩ m w Om hm (by decide)) ?_;rintro w' rfl;have hlen:=Lib.splitB_all ⟨#[44]⟩ (by decide) 0 _ s rfl;have hsp:=Qo7 s.size s (Zg _);rw[hsp] at hlen;have hn:New w (w.alloc (.cells ((Qbs 44 s).flatMap Qab).toArray 9)) w.heap.size (.cells ((Qbs 44 s).flatMap Qab).toArray 9):=⟨rfl,rfl⟩;refine⟨some ⟨w.heap.size,0,none⟩,Lib.countB s ⟨#[44]⟩+1,by rw[hlen],?_,fun a ha=>by injection ha with ha;subst ha;exact Zg _,?_⟩
 . rw[hsp,<- Qmo];exact Qak Qw hn
 . rw[hsp,<- Qmo];exact hn.ext
theorem Qc7 (s:Bj) (w:World) (hg:Gl w) (hs:s.size<4000000000) :
 Cal Tryz.prog 108 [.string s] w fun r w'=>∃ A c,r = .slice A (Xg s).length c/\SlT w' A (Xg s)/\(∀ a,A=some a->w.heap.size<=a.block)/\Ext w w':=by
 have hrs:=Qj4 s;refine Fi Tryz.func108 rfl _ rfl rfl (Hh ?_);refine(Qmn s w hg hs).mono ?_;rintro _ w1 ⟨rfl,hx1⟩;refine Hh ?_;constructor
 . intro h;have h:Qa7 s=⟨#[]⟩:=Su h;refine Hh ?_;have ht:Xg s = []:=by rw[Qeo,if_pos h]
   exact⟨none,0,by rw[ht];rfl,by rw[ht];exact Sl.nil,fun a ha=>(by cases ha),hx1⟩
 . intro h;have h:¬ Qa7 s=⟨#[]⟩:=Su h;refine Hh ?_;refine(Qo6 (Qa7 s) w1 (hg.ext hx1) Om).mono ?_;rintro _ w2 ⟨A,c,rfl,hsl,hnew,hx2⟩;refine Hh ?_;have ht:Xg s=Qbs 44 (Qa7 s):=by rw[Qeo,if_neg h]
   exact⟨A,c,by rw[ht],by rw[ht];exact hsl,fun a ha=>Zv hx1.size (hnew a ha),hx1.trans hx2⟩
theorem Qb7.reh {w w1:World} {base p:Nat} {c:Cfg} {s:WS} {col:Nat->Nat} {q:WP} {A:Option Addr} {cap:Nat} (h:Qb7 w base p c s col q A cap) (ho:Only w w1 p) {any:Bool} {last:Ev} (h1:At w1 p 97 (wC c A s.es.length cap any last q)) :
 Qb7 w1 base p c { s with any:=any,last:=last } col q A cap:=by
 have hp:=h.cols.1;refine⟨h.low,h1,h.cols,h.added.keep (ho.block _ fun e => ?_),h.forg.keep (ho.block _ fun e => ?_),h.evs.keep fun a ha=>ho.block _ fun e => ?_,h.cts.keep fun k _ hk=>⟨ho.block _ fun e => ?_,rfl⟩⟩
 . have:=h.cols.2.1;rw[e] at this;omega
 . have:=h.cols.2.2.1;rw[e] at this;omega
 . have:=h.cols.2.2.2 a ha;rw[e] at this;omega
 . rw[e] at hk;omega
theorem Qms {w w1 w2:World} {col col8:Nat->Nat} {i:Nat} (hi:1<=i/\i<=6) (h:Mod (fun k=>1<=col k/\col k<=6) w w1) (hr:∀ k,k<w.heap.size->col8 k=col k) (hm:Mod (fun k=>col8 k=i) w1 w2):Mod (fun k=>1<=col k/\col k<=6) w w2:=by
 refine Qn h (hm.mono fun k _ hk => ?_)
 by_cases hlt:k<w.heap.size
 . exact .inl (by show 1<=col k/\col k<=6;rw[<- hr k hlt,hk];exact hi)
 . exact .inr Om
theorem Q2z (w:World) (base p:Nat) (c:Cfg) (hcf:Qw6 c=true) (s:WS) (col:Nat->Nat) (h:Qi5 w base p c s col) (hg:Gl w) (l:List Ev) (hs:s.ct=Qi c.width l) (hml:∀ x∈l,X0 x=true) (e:Ev) (hm:X0 e=true) (hr:Rise (l ++ [e])) (hl:l.length<1000000) :
 Cal Tryz.prog 68 [Pj p,evV e] w fun r w'=>r = .tuple #[]/\∃ col',Qi5 w' base p c { s with ct:=Qdw c.width s.ct e } col'/\(∀ k,k<w.heap.size->col' k=col k)/\Mod (fun k=>1<=col k/\col k<=6) w w':=by
 obtain⟨⟨q,A,cap,h⟩,hz⟩:=h;have hB:=Qh7 c.width l hml;rw[<- hs] at hB;have hlt:=Qdc hm;have hmk:=Qsl hm;have hmcs:∀ x∈s.ct.cs,X0 x=true:=fun x hx=>hml x (hB.cs.subset hx)
 have hlcs:=hB.cs.length_le;have hlrs:s.ct.rs.length<=l.length:=by have:=hB.rs.length_le;simpa [evs] using this
 have hat:=(Qb9.1 hm).at_;refine Fi Tryz.func68 rfl _ rfl rfl (Hh ?_);intro b1 w1 hn1;have hb1:=hn1.At;have e1:=hn1.block;have s1:=hn1.size;have hg1:=hg.ext hn1.ext;have h1:=h.ext hn1.ext;have hc1:col b1=0:=hz b1 Om;refine Hh ?_;refine Xl Qb (ι:=Unit) (fun _ => [(0,Pj p),(3,Pj b1)]) (fun _ w'=>w'=w1/\e.kind<11) ?_ ?_
 . (conv=>whnf)
   refine⟨_,hb1.one rfl,Hh ?_⟩;refine Xl Qb (ι:=Bool) (fun i => [(0,Pj p),(3,Pj b1),(9,Vj e.kind),(10,.bool i)]) (fun i w'=>i=decide (e.kind=11\/e.kind=12\/e.kind=13)/\w'=w1) ?_ ?_
   . (conv=>whnf)
     refine⟨fun k => ?_,fun k => ?_⟩
     . have k:e.kind=11:=Su k;refine Hh ?_;exact⟨_,⟨by simp[k],rfl⟩,⟨rfl,rfl,rfl,rfl,trivial⟩⟩
     have k1:¬ e.kind=11:=Su k;refine Hh ?_;refine⟨fun k => ?_,fun k => ?_⟩
     . have k:e.kind=12:=Su k;refine Hh ?_;exact⟨_,⟨by simp[k],rfl⟩,⟨rfl,rfl,rfl,rfl,trivial⟩⟩
     have k2:¬ e.kind=12:=Su k;refine Hh ?_;exact⟨_,⟨by simp[k1,k2],rfl⟩,⟨rfl,rfl,rfl,rfl,trivial⟩⟩
   rintro i w3 ⟨hi,hw⟩;replace hw:=hw.symm;subst hw hi;refine Hh ?_;refine⟨fun k => ?_,fun k => ?_⟩
   . have k:e.kind=11\/e.kind=12\/e.kind=13:=Su k;refine Hh ?_;refine Dr .same [0,1,2,3,4] [5] (Hh ?_);have h1d:=h1.ext (Ext.refl w1).drew;have hbd:At w1.drew b1 _ _:=hb1;have hgd:=hg1.ext (Ext.refl w1).drew;have hx1d:=hn1.ext.drew;generalize w1.drew=w2 at h1d hbd hgd hx1d ⊢;refine⟨_,h1d.head.one rfl,Hh ?_⟩;refine⟨evC e,⟨rfl,hbd.all⟩,Hh ?_⟩;refine(Qjb w2 _ q.pc s.ct.cs h1d.cts.cat hgd (Qll h1d (by decide)) e hm k Om (Q1u hB.cs hr) (by have:=(X8 s.ct.cs hmcs e.item).1;omega)).mono ?_;rintro _ w4 ⟨rfl,hc4,hm4⟩;refine Hh ?_;have hW:Qb7 w4 base p c { s with ct:={ s.ct with cs:=s.ct.cs ++ [e] } } _ q A cap:=h1d.one (i:=1) Om hm4 (h1d.cts.one (t':={ s.ct with cs:=s.ct.cs ++ [e] }) hm4 Om hc4 rfl ⟨rfl,rfl⟩ ⟨rfl,rfl⟩ rfl);have hct:Qdw c.width s.ct e={ s.ct with cs:=s.ct.cs ++ [e] }:=by unfold Qdw;rw[if_pos k]
     rw[hct];refine⟨rfl,_,⟨⟨q,A,cap,hW⟩,fun j hj=>Qdn hm4.size hj⟩,fun j hj=>Qa4 (by have:=hx1d.size;omega),(Mod.of_ext hx1d).trans (hm4.mono fun j _ hj=>by rw[hj];decide)⟩
   have k:¬ (e.kind=11\/e.kind=12\/e.kind=13):=Su k;refine Hh ?_;refine⟨fun k4 => ?_,fun k4 => ?_⟩
   . have k4:e.kind=14:=Su k4;refine Hh ?_;have hct:Qdw c.width s.ct e=s.ct:=by unfold Qdw;rw[if_neg k,if_pos k4]
     rw[hct];exact⟨rfl,col,⟨⟨q,A,cap,h1⟩,fun j hj=>hz j Om⟩,fun j _=>rfl,Mod.of_ext hn1.ext⟩
   have k4:¬ e.kind=14:=Su k4;refine Hh ?_;exact⟨(),⟨rfl,Om⟩,Rr⟩
 rintro _ w3 ⟨hw,hk⟩;replace hw:=hw.symm;subst hw;refine Hh ?_;refine Xl Qb (ι:=Option Addr×Nat) (fun x => [(0,Pj p),(3,Pj b1),(4,.slice x.1 (Qbd s.ct.cs e).length x.2)]) (fun x w'=>Ext w1 w'/\SlT w' x.1 (Qbd s.ct.cs e)/\∀ a,x.1=some a->w1.heap.size<=a.block) ?_ ?_
 . (conv=>whnf)
   refine Qiy (ι:=Nat) (fun b5 => [(0,Pj p),(3,Pj b1),(4,.slice none 0 0),(5,Pj b5),(6,.bool (Xw s.ct.cs e.item e.at_).2)])
    (fun b5 w'=>Ext w1 w'/\At w' b5 59 (itC (Xw s.ct.cs e.item e.at_).1)) ?_ ?_
   . refine Qfr (.mods (fun k=>w1.heap.size<=k)) (Pl.seq [0,1,2,3,4,5,6,7] (Pl.two 8 (Pl.seq [9,10,11,12,13,14] Pl.done) 12 (Pl.seq [8,9,10,11,13,14] Pl.done))) (by intro h;cases h) Qb mixed Kr (Hh ?_);have h1d:=h1.ext (Ext.refl w1).drew;have hbd:At w1.drew b1 _ _:=hb1;have hx1d:=(Ext.refl w1).drew;have hnb1:¬ (w1.heap.size<=b1):=Om;have hplt:=h1.head.lt;have hnp:¬ (w1.heap.size<=p):=Om;generalize w1.drew=w2 at h1d hbd hx1d ⊢;have hs2:=hx1d.size;have hcl:(Qz s.ct.cs e.item).length<1000000000000:=by have:=(X8 s.ct.cs hmcs e.item).1;omega
     refine⟨_,⟨h1d.head.one rfl,by rw[add_block];exact hnp⟩,Hh ?_⟩;refine⟨_,⟨hbd.one rfl,by rw[add_block];exact hnb1⟩,Hh ?_⟩;refine⟨_,⟨hbd.one rfl,by rw[add_block];exact hnb1⟩,Hh ?_⟩;refine⟨?_,?_⟩
     . refine(Q7 w2 _ q.pc s.ct.cs h1d.cts.cat e.item e.at_ hcl).mono ?_;rintro _ w4 ⟨rfl,hx4⟩;refine⟨Mod.of_ext hx4,Hh ?_⟩;intro b5 w5 hn5;refine⟨Mod.of_ext hn5.ext,Hh ?_⟩;have e5:=hn5.block;have z4:=hx4.size;refine Qc Qb (e:=ty59) rfl hn5.At rfl rfl rfl (by simp[Qg,itC,Value.oneCell']) fun w6 h6 ho6 => ?_
       refine⟨Qj ho6 Om,Hh ?_⟩;exact⟨b5,⟨ho6.ext ((hx1d.trans hx4).trans hn5.ext) Om,h6⟩,Rr⟩
     . intro b5 w5 hn5;refine⟨Mod.of_ext hn5.ext,Hh ?_⟩;have e5:=hn5.block;refine(Q7 w5 _ q.pc s.ct.cs (h1d.cts.cat.ext hn5.ext) e.item e.at_ hcl).mono ?_;rintro _ w4 ⟨rfl,hx4⟩;refine⟨Mod.of_ext hx4,Hh ?_⟩;refine Qc Qb (e:=ty59) rfl (hn5.At.ext hx4) rfl rfl rfl (by simp[Qg,itC,Value.oneCell']) fun w6 h6 ho6 => ?_
       refine⟨Qj ho6 Om,Hh ?_⟩;exact⟨b5,⟨ho6.ext ((hx1d.trans hn5.ext).trans hx4) Om,h6⟩,Rr⟩
   rintro b5 w5 ⟨hx5,h5⟩;have hb5:=hb1.ext hx5;have hg5:=hg1.ext hx5;have z5:=hx5.size;refine Hh ?_;refine⟨fun kk => ?_,fun kk => ?_⟩
   . have kk:(Xw s.ct.cs e.item e.at_).2=true:=kk;have hta:Qbd s.ct.cs e=Xg (Qgr (Xw s.ct.cs e.item e.at_).1.tags):=by unfold Qbd;rw[if_pos kk]
     have hts:=Qfm s.ct.cs hmcs e.item e.at_;rw[hta];refine Hh ?_;refine⟨_,h5.one rfl,Hh ?_⟩;have hsm:(Qgr (Xw s.ct.cs e.item e.at_).1.tags).size<1001:=by unfold Qgr;rw[Za5];have:(⟨#[59]⟩:Bj).size=1:=rfl;omega
     refine⟨sz2 (by decide) (Nat.le_of_lt (Nat.lt_trans hts (by decide))),Hh ?_⟩;refine(Qc7 (Qgr (Xw s.ct.cs e.item e.at_).1.tags) w5 hg5 Om).mono ?_;rintro _ w6 ⟨TA,tc,rfl,ht6,hnew6,hx6⟩;refine Hh ?_;exact⟨(TA,tc),⟨hx5.trans hx6,ht6,fun a ha=>Zv z5 (hnew6 a ha)⟩,Rr⟩
   . have kk:(Xw s.ct.cs e.item e.at_).2=false:=kk;have hta:Qbd s.ct.cs e = []:=by unfold Qbd;rw[kk];rfl
     rw[hta];refine Hh ?_;exact⟨(none,0),⟨hx5,Sl.nil,fun a ha=>by cases ha⟩,Rr⟩
 rintro ⟨TA,tc⟩ w6 ⟨hx6,hts6,hta6⟩;have hb6:=hb1.ext hx6;have h6:=h1.ext hx6;have hg6:=hg1.ext hx6;have z6:=hx6.size
 have htl:(Qbd s.ct.cs e).length<1000000:=by
  unfold Qbd;split
  . have hts:=Qfm s.ct.cs hmcs e.item e.at_;have:=Q1x (Qgr (Xw s.ct.cs e.item e.at_).1.tags);unfold Qgr at this ⊢;rw[Za5] at this;have h1:(⟨#[59]⟩:Bj).size=1:=rfl;omega
  . simp
 refine Hh ?_;refine Dr .same [0,1,2,3,4,5] [6] (Hh ?_);replace hb6:At w6.drew b1 _ _:=hb6;replace h6:=h6.ext (Ext.refl w6).drew;replace hg6:=hg6.ext (Ext.refl w6).drew;replace hx6:=hx6.drew;replace hts6:=hts6.ext (Ext.refl w6).drew;have hxw:Ext w w6.drew:=hn1.ext.trans hx6;clear z6;generalize w6.drew=w7 at hb6 h6 hg6 hx6 hts6 hxw ⊢;have z7:=hxw.size;refine⟨_,h6.head.one rfl,Hh ?_⟩;refine⟨evC e,⟨rfl,hb6.all⟩,Hh ?_⟩
 refine(Qnp w7 _ q.pw (Xd c.half) s.ct.rs h6.cts.crowd hg6 (Qll h6 (by decide)) e hm hk Om (by
  rcases Q1u hB.rs hr with h | h
  . exact .inl (by simpa [evs] using h)
  . exact .inr h) Om (Qbd s.ct.cs e) TA tc hts6 (fun a ha hc=>by have:=hz a.block (by have:=hta6 a ha;omega);omega) htl).mono ?_
 rintro _ w8 ⟨rfl,hc8,hm8⟩;have h8:=h6.one (i:=2) (t:={ s.ct with rs:=s.ct.rs ++ [(e,Qbo (Qbd s.ct.cs e))] }) Om hm8 (h6.cts.one (t':={ s.ct with rs:=s.ct.rs ++ [(e,Qbo (Qbd s.ct.cs e))] }) hm8 Om rfl hc8 ⟨rfl,rfl⟩ ⟨rfl,rfl⟩ rfl);have hb8:=hb6.mod hm8 Om;have hr8:∀ k,k<w.heap.size->Qcw col w7 w8 2 k=col k:=fun k hk=>Qa4 Om
 have hb8c:Qcw col w7 w8 2 b1=0:=by rw[Qa4 (by have:=hb6.lt;omega)];exact hc1
 have ht8:∀ k,w8.heap.size<=k->Qcw col w7 w8 2 k=0:=fun k hk=>Qdn hm8.size hk
 have hM8:Mod (fun k=>1<=col k/\col k<=6) w w8:=(Mod.of_ext hxw).trans (hm8.mono fun j _ hj=>by rw[hj];decide);have hg8:=hg6.mod hm8 (Qll h6 (by decide));generalize Qcw col w7 w8 2=col8 at h8 hr8 hb8c ht8;clear hm8 hc8 h6 hb6 hg6 hx6 hxw hts6 hta6 z7 hn1 hg1 hb1 h1;refine Hh ?_;refine⟨evC e,⟨rfl,hb8.all⟩,Hh ?_⟩;refine(Qcu e w8).mono ?_;rintro _ w9 ⟨rfl,hx9⟩;have hwl:=Qkg hm;have h9:=h8.ext hx9;have hb9:=hb8.ext hx9;have z9:=hx9.size;have hM9:=hM8.trans (Mod.of_ext hx9);have ht9:∀ k,w9.heap.size<=k->col8 k=0:=fun k hk=>ht8 k Om
 have z8:w.heap.size<=w8.heap.size:=hM8.size;clear h8 hb8 hx9 hM8 ht8 hg8 hg hz h;have kn:¬ (e.kind=11\/e.kind=12\/e.kind=13):=Om;have k14:¬ e.kind=14:=Om;refine Hh ?_;refine⟨fun kw => ?_,fun kw => ?_⟩
 case refine_2 =>
  have kw:¬ 0<Qy e:=Su kw;refine Hh ?_;have hct:Qdw c.width s.ct e={ s.ct with rs:=s.ct.rs ++ [(e,Qbo (Qbd s.ct.cs e))] }:=by unfold Qdw;rw[if_neg kn,if_neg k14,if_neg kw]
  rw[hct];exact⟨rfl,col8,⟨⟨q,A,cap,h9⟩,ht9⟩,hr8,hM9⟩
 have kw:0<Qy e:=Su kw;have hnm:=Qeq hm kw;have hsz1:=Qel hnm.1;have hsz2:=Qel hnm.2;have hct:Qdw c.width s.ct e=⟨s.ct.cs,s.ct.rs ++ [(e,Qbo (Qbd s.ct.cs e))],s.ct.dn+1,Qq2 s.ct.ds e.item e.at_ (Qy e),s.ct.pn+1,Qq1 s.ct.ps (e.item,e.at_/Xd c.width) (Qy e),Xbj s.ct.ss e.person e.at_ e.item⟩:=by unfold Qdw;rw[if_neg kn,if_neg k14,if_pos kw]
 rw[hct];clear hct;have hdn:=hB.dn;have hpn:=hB.pn;have hpl:=hB.pl;have hwd:1<=Xd c.width/\Xd c.width<=1099511627776:=by unfold Xd;omega
 refine Hh ?_;refine Dr .same [0,1,2,3,4,5,6,7,8] [9] (Hh ?_);replace hb9:At w9.drew b1 _ _:=hb9;replace h9:=h9.ext (Ext.refl w9).drew;replace hM9:=hM9.trans (Mod.of_ext (Ext.refl w9).drew);have hz9:w9.drew.heap.size=w9.heap.size:=rfl;generalize w9.drew=w10 at hb9 h9 hM9 hz9 ⊢;refine⟨_,h9.head.one rfl,Hh ?_⟩;refine⟨_,hb9.one rfl,Hh ?_⟩;refine⟨_,hb9.one rfl,Hh ?_⟩;refine(Qxq w10 _ q.pd (Xd c.half) s.ct.dn s.ct.ds h9.cts.dec e.item e.at_ (Qy e) (l.length*5) hB.ds Om Om hsz2 hat Om).mono ?_;rintro _ w11 ⟨rfl,hc11,hm11⟩;refine Hh ?_;have h11:=h9.one (i:=3) (t:=⟨s.ct.cs,s.ct.rs ++ [(e,Qbo (Qbd s.ct.cs e))],s.ct.dn+1,Qq2 s.ct.ds e.item e.at_ (Qy e),s.ct.pn,s.ct.ps,s.ct.ss⟩) Om hm11 (h9.cts.one (t':=⟨s.ct.cs,s.ct.rs ++ [(e,Qbo (Qbd s.ct.cs e))],s.ct.dn+1,Qq2 s.ct.ds e.item e.at_ (Qy e),s.ct.pn,s.ct.ps,s.ct.ss⟩) hm11 Om rfl rfl hc11 ⟨rfl,rfl⟩ rfl);have hb11:=hb9.mod hm11 Om;have hr11:∀ k,k<w.heap.size->Qcw col8 w10 w11 3 k=col k:=fun k hk=>(Qa4 Om).trans (hr8 k hk)
 have hb11c:Qcw col8 w10 w11 3 b1=0:=(Qa4 hb9.lt).trans hb8c;have ht11:∀ k,w11.heap.size<=k->Qcw col8 w10 w11 3 k=0:=fun k hk=>Qdn hm11.size hk
 have hM11:=Qms (by decide) hM9 hr8 hm11;have z11:w.heap.size<=w11.heap.size:=hM11.size;generalize Qcw col8 w10 w11 3=col11 at h11 hr11 hb11c ht11;clear hm11 hc11 h9 hb9 hM9 hr8 hb8c ht9;refine Dr .same [0,1,2,3,4,5,6,7,8] [9] (Hh ?_);replace hb11:At w11.drew b1 _ _:=hb11;replace h11:=h11.ext (Ext.refl w11).drew;replace hM11:=hM11.trans (Mod.of_ext (Ext.refl w11).drew);have hz11:w11.drew.heap.size=w11.heap.size:=rfl;generalize w11.drew=w12 at hb11 h11 hM11 hz11 ⊢;refine⟨_,h11.head.one rfl,Hh ?_⟩;refine⟨_,hb11.one rfl,Hh ?_⟩;refine⟨_,hb11.one rfl,Hh ?_⟩;refine(Q4a w12 _ q.pp (Xd c.width) s.ct.pn s.ct.ps h11.cts.pane hwd e.item e.at_ (Qy e) (l.length*5) hB.ps Om Om Om Om hsz2 hat Om).mono ?_;rintro _ w13 ⟨rfl,hc13,hm13⟩;refine Hh ?_;have h13:=h11.one (i:=4) (t:=⟨s.ct.cs,s.ct.rs ++ [(e,Qbo (Qbd s.ct.cs e))],s.ct.dn+1,Qq2 s.ct.ds e.item e.at_ (Qy e),s.ct.pn+1,Qq1 s.ct.ps (e.item,e.at_/Xd c.width) (Qy e),s.ct.ss⟩) Om hm13 (h11.cts.one (t':=⟨s.ct.cs,s.ct.rs ++ [(e,Qbo (Qbd s.ct.cs e))],s.ct.dn+1,Qq2 s.ct.ds e.item e.at_ (Qy e),s.ct.pn+1,Qq1 s.ct.ps (e.item,e.at_/Xd c.width) (Qy e),s.ct.ss⟩) hm13 Om rfl rfl ⟨rfl,rfl⟩ hc13 rfl);have hb13:=hb11.mod hm13 Om;have hr13:∀ k,k<w.heap.size->Qcw col11 w12 w13 4 k=col k:=fun k hk=>(Qa4 Om).trans (hr11 k hk)
 have hb13c:Qcw col11 w12 w13 4 b1=0:=(Qa4 hb11.lt).trans hb11c;have ht13:∀ k,w13.heap.size<=k->Qcw col11 w12 w13 4 k=0:=fun k hk=>Qdn hm13.size hk
 have hM13:=Qms (by decide) hM11 hr11 hm13;have z13:w.heap.size<=w13.heap.size:=hM13.size;generalize Qcw col11 w12 w13 4=col13 at h13 hr13 hb13c ht13;clear hm13 hc13 h11 hb11 hM11 hr11 hb11c ht11;refine Dr .same [0,1,2,3,4,5,6,7,8,9] [10] (Hh ?_);replace hb13:At w13.drew b1 _ _:=hb13;replace h13:=h13.ext (Ext.refl w13).drew;replace hM13:=hM13.trans (Mod.of_ext (Ext.refl w13).drew);have hz13:w13.drew.heap.size=w13.heap.size:=rfl;generalize w13.drew=w14 at hb13 h13 hM13 hz13 ⊢;refine⟨_,h13.head.one rfl,Hh ?_⟩;refine⟨_,hb13.one rfl,Hh ?_⟩;refine⟨_,hb13.one rfl,Hh ?_⟩;refine⟨_,hb13.one rfl,Hh ?_⟩;refine(Q4r w14 _ q.ps (Q7d c.gap) s.ct.ss h13.cts.ses e.person e.item e.at_ hsz1 hsz2 hat).mono ?_;rintro _ w15 ⟨rfl,hc15,hm15⟩;refine Hh ?_;have h15:=h13.one (i:=5) (t:=⟨s.ct.cs,s.ct.rs ++ [(e,Qbo (Qbd s.ct.cs e))],s.ct.dn+1,Qq2 s.ct.ds e.item e.at_ (Qy e),s.ct.pn+1,Qq1 s.ct.ps (e.item,e.at_/Xd c.width) (Qy e),Xbj s.ct.ss e.person e.at_ e.item⟩) Om hm15 (h13.cts.one (t':=⟨s.ct.cs,s.ct.rs ++ [(e,Qbo (Qbd s.ct.cs e))],s.ct.dn+1,Qq2 s.ct.ds e.item e.at_ (Qy e),s.ct.pn+1,Qq1 s.ct.ps (e.item,e.at_/Xd c.width) (Qy e),Xbj s.ct.ss e.person e.at_ e.item⟩) hm15 Om rfl rfl ⟨rfl,rfl⟩ ⟨rfl,rfl⟩ hc15);have hr15:∀ k,k<w.heap.size->Qcw col13 w14 w15 5 k=col k:=fun k hk=>(Qa4 Om).trans (hr13 k hk)
 have ht15:∀ k,w15.heap.size<=k->Qcw col13 w14 w15 5 k=0:=fun k hk=>Qdn hm15.size hk
 have hM15:=Qms (by decide) hM13 hr13 hm15;generalize Qcw col13 w14 w15 5=col15 at h15 hr15 ht15;clear hm15 hc15 h13 hb13 hM13 hr13 hb13c ht13;refine Qc Qb (e:=ty95) rfl h15.head rfl rfl rfl Oj fun w16 h16 ho16 => ?_
 refine Hh ?_;have h17:=h15.reh ho16 h16;refine⟨rfl,col15,⟨⟨q,A,cap,h17⟩,fun k hk=>ht15 k (by rw[ho16.size] at hk;exact hk)⟩,hr15,Qms (i:=6) (by decide) hM15 hr15 (Qj ho16 h15.cols.1)⟩
def Xhd (width:Int) (s:WS) (e:Ev):WS:=⟨s.es ++ [e],true,e,Xc s.ad (Xi7 e) true,s.fg,Qdw width s.ct e⟩
section
variable {w w1:World} {base p:Nat} {c:Cfg} {s:WS} {col:Nat->Nat} {q:WP} {A:Option Addr} {cap:Nat}
theorem Qb7.addm (h:Qb7 w base p c s col q A cap) (ho:Only w w1 q.ba) {ad:List (IK×Bool)} (hm:MapAt w1 q.ba idV (Xj Value.bool ad)):Qb7 w1 base p c { s with ad:=ad } col q A cap:=by
 have hp:=h.cols.2.1;refine⟨h.low,ho.at_ h.head fun e => ?_,h.cols,hm,h.forg.keep (ho.block _ fun e => ?_),h.evs.keep fun a ha=>ho.block _ fun e => ?_,h.cts.keep fun k _ hk=>⟨ho.block _ fun e => ?_,rfl⟩⟩
 . have:=h.cols.1;rw[e] at this;omega
 . have:=h.cols.2.2.1;rw[e] at this;omega
 . have:=h.cols.2.2.2 a ha;rw[e] at this;omega
 . rw[e] at hk;omega
theorem Qb7.forgm (h:Qb7 w base p c s col q A cap) (ho:Only w w1 q.bf) {fg:List (Bj×Bool)} (hm:MapAt w1 q.bf Value.string (Xj Value.bool fg)):Qb7 w1 base p c { s with fg:=fg } col q A cap:=by
 have hp:=h.cols.2.2.1;refine⟨h.low,ho.at_ h.head fun e => ?_,h.cols,h.added.keep (ho.block _ fun e => ?_),hm,h.evs.keep fun a ha=>ho.block _ fun e => ?_,h.cts.keep fun k _ hk=>⟨ho.block _ fun e => ?_,rfl⟩⟩
 . have:=h.cols.1;rw[e] at this;omega
 . have:=h.cols.2.1;rw[e] at this;omega
 . have:=h.cols.2.2.2 a ha;rw[e] at this;omega
 . rw[e] at hk;omega
theorem Qb7.push (h:Qb7 w base p c s col q A cap) {w2 w3:World} {A':Option Addr} {c':Nat} {es:List Ev} (hz:∀ k,w.heap.size<=k->col k=0) (hn:Ext w w1)
 (hg:w1.grownBy w2 (A.map (·.block))) (ho:Only w2 w3 p) (hown:Own evC 8 77 0 w2 A' c' es) (hA:A'=A\/A'.map (·.block)=A.map (·.block)\/A'.map (·.block)=some w1.heap.size)
 (hh:At w3 p 97 (wC c A' es.length c' s.any s.last q)):∃ col',Qb7 w3 base p c { s with es:=es } col' q A' c'/\(∀ k,w3.heap.size<=k->col' k=0)/\∀ k,k<w.heap.size->col' k=col k:=by
 have s1:=hn.size
 have hm2:Mod (fun k=>col k=9) w1 w2:=Xx hg fun k hk=>by
  cases A with
  | none=>simp at hk
  | some a=>have:=h.cols.2.2.2 a rfl;simp at hk;rw[hk] at this;exact this
 have s2:=hm2.size;have s3:=ho.size;have hp:=h.cols.1;have hplt:=h.head.lt;have hbp:=h.low.2 p Om;have hblk:∀ k,k<w.heap.size->col k≠9->k≠p->w3.heap[k]? = w.heap[k]? := fun k h1 h2 h3=>(by rw[ho.block k h3,hm2.block k Om h2,hn.block k h1])
 have hr:∀ {k},k<w.heap.size->Qcw col w w3 9 k=col k:=fun hk=>Qa4 hk
 have hA9:∀ a,A'=some a->Qcw col w w3 9 a.block=9:=fun a ha=>by
  have hlt:=(hown.block ha).2
  by_cases hk:a.block<w.heap.size
  . rw[hr hk]
    have hAA:A.map (·.block)=some a.block:=by
     rcases hA with hA | hA | hA
     . rw[<- hA,ha];rfl
     . rw[<- hA,ha];rfl
     . rw[ha] at hA;simp at hA;omega
    cases A with
    | none=>simp at hAA
    | some a0=>simp at hAA;rw[<- hAA];exact h.cols.2.2.2 a0 rfl
  . unfold Qcw;rw[if_neg hk,if_pos Om]
 refine⟨Qcw col w w3 9,⟨⟨h.low.1,fun k hk => ?_⟩,hh,⟨(hr hplt).trans hp,(hr h.added.lt).trans h.cols.2.1,(hr h.forg.lt).trans h.cols.2.2.1,hA9⟩,h.added.keep (hblk _ h.added.lt (by rw[h.cols.2.1];decide) fun e => ?_),h.forg.keep (hblk _ h.forg.lt (by rw[h.cols.2.2.1];decide) fun e => ?_),hown.keep fun a ha=>ho.block _ fun e => ?_,h.cts.keep fun k h1 hk=>⟨hblk k h1 Om fun e => ?_,hr h1⟩⟩,fun k hk=>Qdn Om hk,fun k hk=>hr hk⟩
 . by_cases hlt:k<w.heap.size
   . rw[hr hlt] at hk;exact h.low.2 k hk
   . omega
 . have:=h.cols.2.1;rw[e] at this;omega
 . have:=h.cols.2.2.1;rw[e] at this;omega
 . have:=hA9 a ha;rw[e,hr hplt] at this;omega
 . rw[e] at hk;omega
end
set_option maxHeartbeats 1000000 in
theorem Xc5 (w:World) (base p:Nat) (c:Cfg) (hcf:Qw6 c=true) (s:WS) (col:Nat->Nat) (h:Qi5 w base p c s col) (hg:Gl w) (hs:s.ct=Qi c.width s.es) (hml:∀ x∈s.es,X0 x=true) (e:Ev) (hm:X0 e=true) (hr:Rise (s.es ++ [e])) (hl:s.es.length<1000000) :
 Cal Tryz.prog 23 [Pj p,evV e] w fun r w'=>r = .tuple #[]/\∃ col',Qi5 w' base p c (Xhd c.width s e) col'/\(∀ k,k<w.heap.size->col' k=col k)/\Mod (fun k=>col k≠0) w w':=by
 obtain⟨⟨q,A,cap,h⟩,hz⟩:=h;refine Fi Tryz.func23 rfl _ rfl rfl (Hh ?_);intro b1 w1 hn1;have hb1:=hn1.At;have e1:=hn1.block;have s1:=hn1.size;have hg1:=hg.ext hn1.ext;have h1:=h.ext hn1.ext;have hc1:col b1=0:=hz b1 Om;have hp6:=h.cols.1;have hbp:b1≠p:=fun e=>by rw[e] at hc1;omega
 refine Hh ?_;refine Dr (.mods (fun k=>k=p)) [0,1,2,3,4,5,6,7] [8] (Hh ?_);replace h1:=h1.ext (Ext.refl w1).drew;replace hg1:=hg1.ext (Ext.refl w1).drew;replace hb1:At w1.drew b1 _ _:=hb1;have hx1:=hn1.ext.drew;generalize w1.drew=w2 at h1 hg1 hb1 hx1 ⊢;refine⟨evC e,⟨rfl,hb1.all,hbp⟩,Hh ?_⟩;refine Qc Qb (e:=ty4) rfl h1.head rfl rfl rfl Oj fun w3 h3 ho3 => ?_
 refine⟨Qj ho3 rfl,Hh ?_⟩;refine Qc Qb (e:=ty77) rfl h3 rfl rfl rfl (by simp[Qg,evC,Value.oneCell']) fun w4 h4 ho4 => ?_
 have h5:=(h1.reh ho3 (any:=true) (last:=s.last) h3).reh ho4 (any:=true) (last:=e) h4;have hb5:=ho4.at_ (ho3.at_ hb1 hbp) hbp;have hg5:=(hg1.only ho3 (Qll h1 (by decide) p hp6)).only ho4 (Qll h1 (by decide) p hp6);have hM5:Mod (fun k=>col k≠0) w w4:=(Mod.of_ext hx1).trans ((Qj ho3 (by show col p≠0;omega)).trans (Qj ho4 (by show col p≠0;omega)));have hz4:w4.heap.size=w2.heap.size:=by rw[ho4.size,ho3.size]
 have hz2:=hx1.size;clear h1 h3 h4 ho3 ho4 hb1 hg1 hx1 hn1 h hg;refine Hh ?_;refine Dr .same [0,1,2,3,4,5,6,7,8] [9] (Hh ?_);replace h5:=h5.ext (Ext.refl w4).drew;replace hg5:=hg5.ext (Ext.refl w4).drew;replace hb5:At w4.drew b1 _ _:=hb5;replace hM5:=hM5.trans (Mod.of_ext (Ext.refl w4).drew);replace hz4:w4.drew.heap.size=w2.heap.size:=hz4;generalize w4.drew=w5 at h5 hg5 hb5 hM5 hz4 ⊢;refine⟨_,h5.head.one rfl,Hh ?_⟩;refine⟨_,hb5.one rfl,Hh ?_⟩;refine⟨_,hb5.one rfl,Hh ?_⟩;refine Qx Xjf Q7p h5.added (Xi7 e) _ fun w6 hm6 ho6 => ?_
 replace hm6:MapAt w6 q.ba idV (Xc (Xj Value.bool s.ad) (Xi7 e) (.bool true)):=hm6;rw[Xa] at hm6;have h6:=h5.addm ho6 hm6;have hba:col q.ba=7:=h5.cols.2.1;have hb6:=ho6.at_ hb5 (fun e'=>by rw[e'] at hc1;omega);have hg6:=hg5.only ho6 (Qll h5 (by decide) q.ba hba);have hM6:=hM5.trans (Qj ho6 (by show col q.ba≠0;omega));have hz6:w6.heap.size=w2.heap.size:=by rw[ho6.size,hz4]
 clear hm6 ho6 h5 hb5 hg5 hM5 hz4;refine Hh ?_;refine Dr (.mods (fun k=>col k=9)) [0,1,2,3,4,5,6,7,8,9] [10] (Hh ?_);replace h6:=h6.ext (Ext.refl w6).drew;replace hg6:=hg6.ext (Ext.refl w6).drew;replace hb6:At w6.drew b1 _ _:=hb6;replace hM6:=hM6.trans (Mod.of_ext (Ext.refl w6).drew);replace hz6:w6.drew.heap.size=w2.heap.size:=hz6;generalize w6.drew=w7 at h6 hg6 hb6 hM6 hz6 ⊢;refine⟨_,⟨h6.head.one rfl,by rw[add_block];show ¬ col p=9;omega⟩,Hh ?_⟩;refine⟨evC e,⟨rfl,hb6.all,by show ¬ col b1=9;omega⟩,Hh ?_⟩;intro b8 w8 hn8;refine⟨Mod.of_ext hn8.ext,Hh ?_⟩;refine Qhp (l:=s.es) (news := [e]) (h6.evs.ext hn8.ext) (Qak Qag hn8) (by simp;omega) Om fun A9 c9 w9 hown9 hg9 hA9 => ?_
 have hAc:∀ k,A.map (·.block)=some k->col k=9:=fun k hk=>by
  cases A with
  | none=>simp at hk
  | some a=>have:=h6.cols.2.2.2 a rfl;simp at hk;rw[hk] at this;exact this
 refine⟨Xx hg9 hAc,Hh ?_⟩;have hp7:=h6.head.lt;have s8:=hn8.size;have hp9:At w9 p _ _:=(h6.head.ext hn8.ext).mod (Xx (S:=fun k=>col k=9) hg9 hAc) Om;refine Qc Qb (e:=ty23) rfl hp9 rfl rfl rfl Oj fun w10 h10 ho10 => ?_
 have hz7:∀ k,w7.heap.size<=k->col k=0:=fun k hk=>hz k Om
 obtain⟨col',h11,hz11,hc11⟩:=h6.push hz7 hn8.ext hg9 ho10 hown9 hA9 h10;have hb7:=hb6.lt;have hb11:At w10 b1 _ _:=ho10.at_ ((hb6.ext hn8.ext).mod (Xx (S:=fun k=>col k=9) hg9 hAc) Om) hbp;have hM11:Mod (fun k=>col k≠0) w w10:=((hM6.trans (Mod.of_ext hn8.ext)).trans (Xx hg9 fun k hk=>by have:=hAc k hk;omega)).trans (Qj ho10 (by show col p≠0;omega));have hg11:=(((hg6.ext hn8.ext).mod (Xx (S:=fun k=>col k=9) hg9 hAc) (Qll h6 (by decide))).only ho10 (Qll h6 (by decide) p hp6));have hcw:∀ k,k<w.heap.size->col' k=col k:=fun k hk=>hc11 k Om
 clear h6 hg6 hb6 hM6 hn8 hg9 hp9 h10 ho10 hown9 hA9 hAc hz7 hc11;refine Hh ?_;refine⟨evC e,⟨rfl,hb11.all⟩,Hh ?_⟩;refine(Q2z w10 base p c hcf _ col' ⟨⟨q,A9,c9,h11⟩,hz11⟩ hg11 s.es hs hml e hm hr hl).mono ?_;rintro _ w12 ⟨rfl,col12,h12,hc12,hM12⟩;refine Hh ?_;have hsz:=hM11.size;refine⟨rfl,col12,h12,fun k hk=>(hc12 k Om).trans (hcw k hk),?_⟩;exact⟨hM12.os.trans hM11.os,hM12.tape.trans hM11.tape,hM12.output.trans hM11.output,by have:=hM12.size;omega,fun k hk hc=>(hM12.block k Om (by rw[hcw k hk];exact fun h=>hc (by show col k≠0;omega))).trans (hM11.block k hk hc)⟩
def Qpu (out:List Ev) (p:Bj):Bool:=out.any fun x=>decide (x.kind=14)&&decide (x.person=p)
def Qme (out:List Ev) (e:Ev):Bool := !Qpu out e.person||decide (e.kind=14)
def Qye (out:List Ev):List Ev:=out.filter (Qme out)
theorem Q7g {z out:List Ev} (h:z.Perm out) (p:Bj):Qpu z p=Qpu out p:=by
 unfold Qpu;rw[Zbx,Zcb,Zcb];exact⟨fun⟨x,hx,h1⟩=>⟨x,h.mem_iff.1 hx,h1⟩,fun⟨x,hx,h1⟩=>⟨x,h.mem_iff.2 hx,h1⟩⟩
theorem Qu9 (z:List Ev) (e:Ev) (p:Bj):Qpu (z ++ [e]) p=(Qpu z p||(decide (e.kind=14)&&decide (e.person=p))):=by
 simp[Qpu,List.any_append]
theorem Xd3:Tryz.prog.underlying 158=some (.map 160 77):=by kernel_rfl
theorem Qud (a b:Ev):(decide (Qjc a b<0)||(decide (Qjc a b=0)&&bLt (Qkh a) (Qkh b)))=Qbf a b:=by
 rw[Q2i]
 by_cases h:Qjc a b=0
 . simp[h]
 . simp[h]
theorem Qxv (x:List Ev) (A:Option Addr) (c:Nat) (w:World) (hs:SlE w A x) (hl:x.length<100000000000) :
 Cal Tryz.prog 67 [.slice A x.length c] w fun r w'=>∃ A' z,r = .slice A' z.length z.length/\z.Perm x/\Srt Q5 z/\SlE w' A' z/\Ext w w'/\∀ a,A'=some a->w.heap.size<=a.block/\a.block<w'.heap.size:=by
 refine Fi Tryz.func67 rfl _ rfl rfl (Hh ?_);refine(Q2p x A c w hs Om).mono ?_;rintro _ w1 ⟨A1,c1,rfl,hown1,hx1⟩;refine Hh ?_;refine(Qo4 x A1 c1 w.heap.size w1 x.length rfl hl hown1).mono ?_;rintro _ w2 ⟨rfl,z,hp,hz,hown2,hm2⟩;refine Hh ?_;have hzl:=hp.length_eq;have hle:=hown1.le;refine(Q6v A1 x.length c1 w2 hle).mono ?_;rintro _ _ ⟨rfl,rfl⟩;refine Hh ?_;refine⟨A1,z,by rw[hzl],hp,hz,hown2.sl Qag,Q3b hx1 hm2 fun a ha=>(hown1.block ha).1,fun a ha=>hown2.block ha⟩
set_option maxHeartbeats 1000000 in
theorem Q6d (l:List Ev) (A:Option Addr) (c:Nat) (w:World) (hg0:Gl w) (hs:SlE w A l) (hl:l.length<1000000) (hm:∀ e∈l,X0 e=true) :
 Cal Tryz.prog 22 [.slice A l.length c] w fun r w'=>∃ A' z,r = .slice A' z.length z.length/\z.Perm (Qye (Qet l))/\Srt Q5 z/\SlE w' A' z/\Ext w w'/\∀ a,A'=some a->w.heap.size<=a.block/\a.block<w'.heap.size:=by
 refine Fi Tryz.func22 rfl _ rfl rfl (Hh ?_);intro b1 w1 hn1;refine Hh ?_;have e1:=hn1.block
 refine Qh Qb (fun(j:Nat) w'=>j<=l.length/\Ext w w'/\MapAt w' b1 idV (Qad (Qet (l.take j))))
  (fun j => [(3,.map (some b1)),(19,.slice A l.length c),(20,Vj l.length),(21,Vj j)]) (fun j=>l.length-j) 0 ⟨Om,hn1.ext,by simpa [Qad,Qet] using MapAt.new hn1⟩ Rr ?_
 rintro j w3 ⟨hj,hx3,hm3⟩;refine Hh ?_;constructor
 . intro hc2;have hc2:j<l.length:=Su hc2;obtain⟨a2,rfl,hce⟩:=hs.get hc2;have hme:=hm l[j] (Zx hc2);have htk:l.take (j+1)=l.take j ++ [l[j]]:=by rw[Za hc2]
   generalize hel:l[j]=e at hce hme htk;have hfe:FOk e:=Q8i hme (Nat.lt_trans (Qdc hme) (by decide));have hmo:∀ x∈Qet (l.take j),X0 x=true:=fun x hx=>hm x (Zbo (Q1f hx))
   have hnext:=Xcv (l.take j) e;rw[<- htk] at hnext;generalize Qet (l.take j)=out at hm3 hmo hnext;have hstep:=Q3s (out:=out) (e:=e);rw[<- hnext] at hstep
   obtain⟨old,hit,hlk,hold,hnone⟩:∃ old hit,(∀ w',MapAt w' b1 idV (Qad out)->RdS Tryz.prog .same w' (Instr.lookup 158 (.map (some b1)) (idV (idE e)) true) (.tuple #[evV old,.bool hit])) /\
    (hit=true->out.find? (Qcr e)=some old)/\(hit=false->out.find? (Qcr e)=none):=by
    have hr:∀ w',MapAt w' b1 idV (Qad out)->_:=fun w' hm'=>Qvm (cl := .same) Xd3 Q7p (e:=ty77) ty77_ok Qp hm' (idE e)
    rw[Q3r] at hr
    cases hf:out.find? (Qcr e) with
    | none=>rw[hf] at hr;exact⟨evZ,false,hr,fun h=>(by cases h),fun _=>rfl⟩
    | some old=>rw[hf] at hr;exact⟨old,true,hr,fun _=>rfl,fun h=>(by cases h)⟩
   have hmold:(!hit||decide (Qjc e old<0))=false->X0 old=true:=fun h=>hmo old (List.mem_of_find?_eq_some (hold (by simp at h;exact h.1)))
   have b1lt:=hm3.lt;refine Hh ?_
   repeat(refine Sg ?_;(conv=>whnf))
   refine⟨a2,Ix,Hh ?_⟩;refine⟨evC e,⟨rfl,hx3.cells hce⟩,Hh ?_⟩;intro b4 w4 hn4;refine Hh ?_;have e4:=hn4.block;have s4:=hn4.size;refine Qc Qb (e:=ty77) rfl hn4.At rfl rfl rfl (by simp[Qg,evC,Value.oneCell']) fun w5 h5 ho5 => ?_
   have h5:At w5 b4 _ (evC e):=h5;have hm5:=(hm3.ext hn4.ext).only ho5 Om;have hx5:=ho5.ext (hx3.trans hn4.ext) (by have:=hx3.size;omega);have s5:=ho5.size;refine Hh ?_
   repeat (first | (refine⟨_,h5.one rfl,?_⟩;(conv=>whnf)) | (refine⟨_,And.symm ⟨h5.all,rfl⟩,?_⟩;(conv=>whnf)) | (refine⟨_,fun _=>h5.one rfl,?_⟩;(conv=>whnf)) | (refine⟨_,fun _=>And.symm ⟨h5.all,rfl⟩,?_⟩;(conv=>whnf)) | (refine⟨_,fun _ _=>h5.one rfl,?_⟩;(conv=>whnf)) | (refine⟨_,fun _ _=>And.symm ⟨h5.all,rfl⟩,?_⟩;(conv=>whnf)))
   intro b6 w6 hn6;refine Hh ?_;have e6:=hn6.block;have s6:=hn6.size;refine Qc Qb (e:=ty160) rfl hn6.At rfl rfl rfl Oj fun w7 h7 ho7 => ?_
   have h7:At w7 b6 _ (idC (idE e)):=h7;have hm7:=(hm5.ext hn6.ext).only ho7 Om;have hx7:=ho7.ext (hx5.trans hn6.ext) (by have:=hx5.size;omega);have h57:=ho7.at_ (h5.ext hn6.ext) Om;have s7:=ho7.size;refine Hh ?_;refine⟨idC (idE e),⟨rfl,h7.all⟩,Hh ?_⟩;refine⟨_,hlk w7 hm7,Hh ?_⟩;intro b8 w8 hn8;refine Hh ?_;have e8:=hn8.block;have s8:=hn8.size;refine Qc Qb (e:=ty77) rfl hn8.At rfl rfl rfl (by simp[Qg,evV,evC,Value.oneCell']) fun w9 h9 ho9 => ?_
   have h9:At w9 b8 _ (evC old):=h9;have hm9:=(hm7.ext hn8.ext).only ho9 Om;have hx9:=ho9.ext (hx7.trans hn8.ext) (by have:=hx7.size;omega);have h59:=ho9.at_ (h57.ext hn8.ext) Om;have h79:=ho9.at_ (h7.ext hn8.ext) Om;refine Hh ?_;refine⟨evC e,⟨rfl,h59.all⟩,Hh ?_⟩;refine⟨evC old,⟨rfl,h9.all⟩,Hh ?_⟩;refine(Qbb e old w9).mono ?_;rintro _ w10 ⟨rfl,hx10⟩;refine Hh ?_;refine Dr .ext [0,1,2,3,4,5,6,7,8,9,10,12,11] [13,14,15,16] (Hh ?_);replace hx10:=hx10.drew;generalize w10.drew=w11 at hx10 ⊢;replace hm9:=hm9.ext hx10;replace hx9:=hx9.trans hx10;replace h59:=h59.ext hx10;replace h79:=h79.ext hx10;replace h9:=h9.ext hx10;have hg11:=hg0.ext hx9;refine⟨evC e,fun _ _=>⟨rfl,h59.all⟩,Hh ?_⟩;refine⟨evC old,fun _ _=>⟨rfl,h9.all⟩,Hh ?_⟩;refine⟨Unit,fun _=>(.string (Qkh e)),fun _ w'=>Ext w11 w',(),fun hg hg1=>((Qnx e w11 hg11 hme hfe)).mono fun r w' h=>⟨(),h.1,h.2⟩,?_⟩;intro _ w12 h2
   have hx12:Ext w11 w12:=by
    rcases h2 with⟨_,h⟩ | ⟨_,h⟩
    . exact h
    . rw[h];exact Ext.refl _
   clear h2;refine⟨hx12,?_⟩;refine Hh ?_;refine⟨Unit,fun _=>(.string (Qkh old)),fun _ w'=>Ext w12 w',(),fun hg hg1=>((Qnx old w12 (hg11.ext hx12) (hmold hg1) (Q8i (hmold hg1) (Nat.lt_trans (Qdc (hmold hg1)) (by decide))))).mono fun r w' h=>⟨(),h.1,h.2⟩,?_⟩;intro _ w13 h2
   have hx13:Ext w12 w13:=by
    rcases h2 with⟨_,h⟩ | ⟨_,h⟩
    . exact h
    . rw[h];exact Ext.refl _
   clear h2;refine Hh ?_;have hm13:=(hm9.ext hx12).ext hx13;have hx13':=(hx9.trans hx12).trans hx13;constructor
   . intro hc3;have hc3:((!hit||decide (Qjc e old<0))||(decide (Qjc e old=0)&&bLt (Qkh e) (Qkh old)))=true:=hc3;rw[Bool.or_assoc,Qud] at hc3;refine Hh ?_;refine⟨idC (idE e),⟨rfl,((h79.ext hx12).ext hx13).all⟩,Hh ?_⟩;refine⟨evC e,⟨rfl,((h59.ext hx12).ext hx13).all⟩,Hh ?_⟩;refine Qx Xd3 Q7p hm13 (idE e) _ fun w14 hm14 ho14 => ?_
     refine Hh ?_;have hm14:MapAt w14 b1 idV (Xc (Qad out) (idE e) (evV e)):=hm14
     have hL:Xc (Qad out) (idE e) (evV e)=Qad (Qet (l.take (j+1))):=by
      cases hh:hit
      . exact hstep.1 (hnone hh)
      . rw[hh] at hc3;exact hstep.2.1 old (hold hh) (Su hc3)
     rw[hL] at hm14;refine⟨_,wrap_succ Om,Hh ?_⟩;exact⟨j+1,Om,⟨Om,ho14.ext hx13' Om,hm14⟩,Rr⟩
   . intro hc3;have hc3:((!hit||decide (Qjc e old<0))||(decide (Qjc e old=0)&&bLt (Qkh e) (Qkh old)))=false:=hc3;rw[Bool.or_assoc,Qud] at hc3;refine Hh ?_
     have hL:Qad out=Qad (Qet (l.take (j+1))):=by
      cases hh:hit
      . rw[hh] at hc3;simp at hc3
      . rw[hh] at hc3;exact hstep.2.2 old (hold hh) (Su hc3)
     rw[hL] at hm13;refine⟨_,wrap_succ Om,Hh ?_⟩;exact⟨j+1,Om,⟨Om,hx13',hm13⟩,Rr⟩
 . intro hc;have hc:l.length<=j:=Su hc;rw[Zb hc] at hm3;generalize hou:Qet l=out at hm3;have hol:out.length<1000000:=by have:=Q1e l;rw[hou] at this;omega
   clear hs hm hc hj;refine Hh ?_;intro b4 w4 hn4;refine Hh ?_;have e4:=hn4.block;have b1lt:=hm3.lt;have hx4:=hx3.trans hn4.ext;have hm4:=hm3.ext hn4.ext;have hb4:MapAt w4 b4 Value.string []:=MapAt.new hn4;have h14:b1≠b4:=Om;have hb4w:w.heap.size<=b4:=by have:=hx3.size;omega
   clear hx3 hm3 hn4 hn1;refine map_range Xd3 hm4 fun w5 hi5 hx5 => ?_
   generalize hr:w4.heap.size=r at hi5;have hrw:w.heap.size<=r:=by rw[<- hr];exact hx4.size
   have hb4r:b4<r:=by rw[<- hr];exact hb4.lt
   refine Hh ?_
   refine Qh Qb (fun(i:List Ev×List (Bj×Bool)) w'=>Ext w w'/\Iter w' r b1 idV (Qad out) (Qad i.1)/\MapAt w' b4 Value.string (Xj Value.bool i.2)/\∀ p,(Qe i.2 p).getD false=Qpu i.1 p)
    (fun i => [(3,.map (some b1)),(62,Pj r),(10,.map (some b4))]) (fun i=>out.length-i.1.length) ([],[]) ⟨hx4.trans hx5,hi5,hb4.ext hx5,fun p=>rfl⟩ Rr ?_
   rintro ⟨z,G⟩ w6 ⟨hx6,hi6,hG6,hgo⟩;simp only at hi6 hG6 hgo;refine Hh ?_;refine Qe9 hi6 (fun hp => ?_) (fun x w7 hin hnew hlt hi7 ho7 hen => ?_)
   . have hp:=Qqz hp;refine Hh ?_;constructor
     . intro h;cases h
     intro _;have hgo:∀ p,(Qe G p).getD false=Qpu out p:=fun p=>(hgo p).trans (Q7g hp p)
     have hm6:=hi6.map;clear hi6 hp hm4 hb4 hi5 hx5 hx4;clear hr hrw hb4r;refine Hh ?_;refine map_range Xd3 hm6 fun w7 hi7 hx7 => ?_
     generalize hr:w6.heap.size=r2 at hi7;have hrw:w.heap.size<=r2:=by rw[<- hr];exact hx6.size
     have hb4r:b4<r2:=by rw[<- hr];exact hG6.lt
     refine Hh ?_
     refine Qh Qb (fun(i:List Ev×Option Addr×Nat) w'=>Ext w w'/\Iter w' r2 b1 idV (Qad out) (Qad i.1)/\MapAt w' b4 Value.string (Xj Value.bool G)/\Own evC 8 77 w.heap.size w' i.2.1 i.2.2 (i.1.filter (Qme out))/\(∀ a,i.2.1=some a->a.block≠r2/\a.block≠b1/\a.block≠b4))
      (fun i => [(74,Pj r2),(10,.map (some b4)),(13,.slice i.2.1 (i.1.filter (Qme out)).length i.2.2)]) (fun i=>out.length-i.1.length) ([],none,0) ⟨hx6.trans hx7,hi7,hG6.ext hx7,Own.nil,by simp⟩ Rr ?_
     clear hi7 hx7 hx6 hm6 hG6 hr;rintro ⟨z,A3,c3⟩ w4 ⟨hx4,hi4,hG4,hown4,hne4⟩;simp only at hi4 hown4 hne4;refine Hh ?_;refine Qe9 hi4 (fun hp => ?_) (fun x w5 hin hnew hlt hi5 ho5 hen => ?_)
     . have hp:=Qqz hp;refine Hh ?_;constructor
       . intro h;cases h
       . intro _;refine Hh ?_;refine(Qxv (z.filter (Qme out)) A3 c3 w4 (hown4.sl Qag) (by have:=hp.length_eq;have:=Zc (Qme out) z;omega)).mono ?_;rintro _ w5 ⟨A5,z5,rfl,hp5,hs5,hsl5,hx5,hn5⟩;refine Hh ?_;exact⟨A5,z5,rfl,hp5.trans (hp.filter _),hs5,hsl5,hx4.trans hx5,fun a ha=>⟨Zv hx4.size (hn5 a ha).1,(hn5 a ha).2⟩⟩
     . obtain⟨e,he,rfl⟩:=Zh.1 hin;have hlt:z.length<out.length:=by simpa [Qad] using hlt
       have r5:=hi5.lt;have b5:=hi5.map.lt;have hx5:=ho5.ext hx4 hrw;have hG5:=hG4.only ho5 Om;have g5:=hG5.lt;have hown5:=hown4.keep fun a ha=>ho5.block _ (hne4 a ha).1
       have hsn:(z ++ [e]).filter (Qme out)=z.filter (Qme out)++if Qme out e then [e] else []:=by rw[Zq];simp[Zar]
       have hfl:=Zc (Qme out) z;refine Hh ?_
       repeat(refine Sg ?_;(conv=>whnf))
       constructor
       . intro _;refine Hh ?_
         repeat(refine Sg ?_;(conv=>whnf))
         refine Qaw (hen w5 rfl rfl) ?_;refine Hh ?_;intro b6 w6 hn6;refine Hh ?_;have e6:=hn6.block;have s6:=hn6.size;refine Qc Qb (e:=ty77) rfl hn6.At rfl rfl rfl (by simp[Qg,evV,evC,Value.oneCell']) fun w7 h7 ho7 => ?_
         have h7:At w7 b6 _ (evC e):=h7;have hi7:=(hi5.ext hn6.ext).keep (ho7.block b1 Om) (ho7.block r2 Om);have hx7:=ho7.ext (hx5.trans hn6.ext) (by have:=hx5.size;omega);have hG7:=(hG5.ext hn6.ext).only ho7 Om;have hown7:=(hown5.ext hn6.ext).keep fun a ha=>ho7.block _ (by have:=(hown5.block ha).2;omega)
         refine Hh ?_;refine⟨_,h7.one rfl,Hh ?_⟩;have hlk:=Xz (cl := .same) Qpf (Qo Xb) (e:=ty4) ty4_ok Qp hG7 e.person;have hlv:(Qe (Xj Value.bool G) e.person).getD ty4.zero = .bool (Qpu out e.person):=(by rw[show ty4.zero=Value.bool false from rfl,Xo,hgo]);rw[hlv] at hlk;refine⟨_,hlk,Hh ?_⟩
         repeat (first | (refine⟨_,h7.one rfl,?_⟩;(conv=>whnf)) | (refine⟨_,And.symm ⟨h7.all,rfl⟩,?_⟩;(conv=>whnf)) | (refine⟨_,fun _=>h7.one rfl,?_⟩;(conv=>whnf)) | (refine⟨_,fun _=>And.symm ⟨h7.all,rfl⟩,?_⟩;(conv=>whnf)) | (refine⟨_,fun _ _=>h7.one rfl,?_⟩;(conv=>whnf)) | (refine⟨_,fun _ _=>And.symm ⟨h7.all,rfl⟩,?_⟩;(conv=>whnf)))
         constructor
         . intro hk;have hk:Qme out e=true:=hk;rw[hk] at hsn;refine Hh ?_;refine⟨evC e,⟨rfl,h7.all⟩,Hh ?_⟩;intro b8 w8 hn8;refine Hh ?_;have hx8:=hx7.trans hn8.ext;have hi8:=hi7.ext hn8.ext;have hG8:=hG7.ext hn8.ext;refine Qhp (l:=z.filter (Qme out)) (news := [e]) (hown7.ext hn8.ext) (Qak Qag hn8) (by simp;omega) hx8.size fun A9 c9 w9 hown9 hg9 hA9 => ?_
           refine Hh ?_;have r8:=hi8.lt;have m8:=hi8.map.lt;have g8:=hG8.lt
           have hA3:∀ k,A3.map (·.block)=some k->k≠r2/\k≠b1/\k≠b4:=fun k hk=>by
            cases A3 with
            | none=>simp at hk
            | some a=>have:=hne4 a rfl;simp at hk;subst hk;exact this
           have hi9:=hi8.keep (hg9.block b1 m8 (fun e'=>(hA3 _ e'.symm).2.1 rfl)) (hg9.block r2 r8 (fun e'=>(hA3 _ e'.symm).1 rfl));have hG9:=hG8.keep (hg9.block b4 g8 (fun e'=>(hA3 _ e'.symm).2.2 rfl));refine⟨(z ++ [e],A9,c9),by simp;omega,⟨Qu hx8 hg9 fun k hk=>Xeq hown4 k hk,by simpa [Qad] using hi9,hG9,by rw[hsn];exact hown9,fun a ha => ?_⟩,⟨rfl,rfl,by rw[hsn];rfl,trivial⟩⟩;have ha:A9=some a:=ha;rcases hA9 with h | h | h
           . exact hne4 a (by rw[<- h];exact ha)
           . rw[ha] at h;exact hA3 a.block h.symm
           . rw[ha] at h;simp at h;omega
         . intro hk;have hk:Qme out e=false:=hk;rw[hk] at hsn;simp only[Zag,if_false,Zw] at hsn;refine Hh ?_;exact⟨(z ++ [e],A3,c3),by simp;omega,⟨hx7,by simpa [Qad] using hi7,hG7,by rw[hsn];exact hown7,hne4⟩,⟨rfl,rfl,by rw[hsn];rfl,trivial⟩⟩
       . intro h;cases h
   . obtain⟨e,he,rfl⟩:=Zh.1 hin;have hlt:z.length<out.length:=by simpa [Qad] using hlt
     have r7:=hi7.lt;have m7:=hi7.map.lt;have hx7:=ho7.ext hx6 hrw;have hG7:=hG6.only ho7 Om;have g7:=hG7.lt;refine Hh ?_
     repeat(refine Sg ?_;(conv=>whnf))
     constructor
     . intro _;refine Hh ?_
       repeat(refine Sg ?_;(conv=>whnf))
       refine Qaw (hen w7 rfl rfl) ?_;refine Hh ?_;intro b8 w8 hn8;refine Hh ?_;have e8:=hn8.block;have s8:=hn8.size;refine Qc Qb (e:=ty77) rfl hn8.At rfl rfl rfl (by simp[Qg,evV,evC,Value.oneCell']) fun w9 h9 ho9 => ?_
       have h9:At w9 b8 _ (evC e):=h9;have hi9:=(hi7.ext hn8.ext).keep (ho9.block b1 Om) (ho9.block r Om);have hx9:=ho9.ext (hx7.trans hn8.ext) (by have:=hx7.size;omega);have hG9:=(hG7.ext hn8.ext).only ho9 Om;refine Hh ?_;refine⟨_,h9.one rfl,Hh ?_⟩;constructor
       . intro hk;have hk:e.kind=14:=Su hk;refine Hh ?_;refine⟨_,h9.one rfl,Hh ?_⟩;refine Qx Qpf (Qo Xb) hG9 e.person _ fun w10 hG10 ho10 => ?_
         rw[Xa] at hG10;refine Hh ?_;have hi10:=hi9.keep (ho10.block b1 h14) (ho10.block r Om);refine⟨(z ++ [e],Xc G e.person true),by simp;omega,⟨ho10.ext hx9 hb4w,by simpa [Qad] using hi10,hG10,fun p => ?_⟩,Rr⟩;simp only;rw[Xn,Qu9,<- hgo p,hk]
         by_cases hpe:p=e.person
         . simp[hpe]
         . rw[if_neg hpe];simp[Ne.symm hpe]
       . intro hk;have hk:¬ e.kind=14:=Su hk;refine Hh ?_;refine⟨(z ++ [e],G),by simp;omega,⟨hx9,by simpa [Qad] using hi9,hG9,fun p => ?_⟩,Rr⟩;simp only;rw[Qu9,<- hgo p];simp[hk]
     . intro h;cases h
def Qma (l:List Ev):List Ev:=(Qye (Qet l)).mergeSort fun a b => !Q5 b a
theorem Q77 (a b c:Ev) (h1:(!Q5 b a)=true) (h2:(!Q5 c b)=true):(!Q5 c a)=true:=by
 simp only[Zai] at *;exact Qbh.trans a b c h1 h2
theorem Q76 (a b:Ev):((!Q5 b a)||(!Q5 a b))=true:=by
 cases h:Q5 b a
 . rfl
 . rw[Qbh.asymm _ _ h];rfl
theorem Qi7 (l:List Ev):(Qma l).Perm (Qye (Qet l)):=Zbs _ _
theorem Q0b (l:List Ev):Srt Q5 (Qma l):=by
 have:=Za8 (le:=fun a b => !Q5 b a) Q77 Q76 (Qye (Qet l));exact this.imp fun h=>Su h
theorem Qsg (out:List Ev):(Qye out).Sublist out:=Zaw
theorem Q01 {l:List Ev} (h:∀ x∈l,X0 x=true):(Qye (Qet l)).Pairwise (fun a b=>idE a≠idE b):=(Xf4 h).ids.sublist (Qsg _)
theorem Xe5 {l z:List Ev} (h:∀ x∈l,X0 x=true) (hp:z.Perm (Qye (Qet l))) (hs:Srt Q5 z):z=Qma l :=
 Q41 (hp.trans (Qi7 l).symm) (Q0w hp (Q01 h)) hs (Q0b l)
theorem Xbr {l:List Ev} (h:∀ x∈l,X0 x=true):(Qma l).Pairwise (fun a b=>idE a≠idE b):=Q0w (Qi7 l) (Q01 h)
theorem Q0a {l:List Ev} {x:Ev} (h:x∈Qma l):x∈l:=Q1f ((Qsg _).subset ((Qi7 l).subset h))
theorem Qmj (l:List Ev):(Qma l).length<=l.length:=by
 have h1:=(Qi7 l).length_eq;have h2:=(Qsg (Qet l)).length_le;have h3:=Q1e l;omega
theorem Qt6 {l:List Ev} (h:∀ x∈l,X0 x=true):Rise (Qma l):=by
 have h1:=Q0b l;have h2:=Xbr h;unfold Rise Srt at *;refine(h1.and h2).imp fun {a b} ⟨hs,hi⟩ => ?_
 cases hl:Q5 a b
 . obtain⟨_,e2,e3⟩:=Qhy hl hs;exact absurd (by unfold idE;rw[e2,e3]) hi
 . rfl
def stepW (width:Int) (s:WS) (e:Ev):WS:=if e.kind=14 then { Xhd width s e with fg:=Xc s.fg e.person true } else Xhd width s e
def ofW (width:Int) (z:List Ev):WS:=z.foldl (stepW width) WS0
theorem Q1c (width:Int) (z:List Ev) (e:Ev):ofW width (z ++ [e])=stepW width (ofW width z) e:=by simp[ofW]
theorem Q8v (width:Int) (z:List Ev):(ofW width z).es=z/\(ofW width z).ct=Qi width z:=by
 induction z using Qv with
 | h0=>exact⟨rfl,rfl⟩
 | h1 l a ih =>
   rw[Q1c,Qcz,<- ih.2];unfold stepW;split <;> simp[Xhd,ih.1]
theorem Qc3 {α:Type} (z:List α) (k:Nat) (h:k<z.length):z.take (k+1)=z.take k ++ [z[k]]:=by rw[Za h]
theorem Q9j {z:List Ev} (h:Rise z) (k:Nat):Rise (z.take k):=h.sublist (Zcz k z)
set_option maxHeartbeats 1000000 in
theorem Xd6 (c:Cfg) (hcf:Qw6 c=true) (l:List Ev) (A:Option Addr) (cap:Nat) (w:World) (hg0:Gl w) (hs:SlE w A l) (hl:l.length<1000000) (hm:∀ e∈l,X0 e=true) :
 Cal Tryz.prog 8 [Xec c,.slice A l.length cap] w fun r w'=>∃ p,r = .tuple #[Pj p,Vj 0]/\Qm9 w' w.heap.size p c (ofW c.width (Qma l))/\Ext w w':=by
 refine Fi Tryz.func8 rfl _ rfl rfl (Hh ?_);intro b1 w1 hn1;refine Hh ?_;refine⟨Qrp c,⟨rfl,hn1.At.all⟩,Hh ?_⟩;refine(Qts c w1 (by have:=hg0.size;have:=hn1.size;omega) hcf).mono ?_;rintro _ w2 ⟨p,rfl,hW2,hx2⟩;refine Hh ?_;refine⟨fun h=>(by simp at h),fun _ => ?_⟩;have hx:=hn1.ext.trans hx2;have s1:=hn1.size;obtain⟨col2,hC2⟩:=hW2.col;clear hW2 hn1 hx2;refine Hh ?_
 refine Qh Qb (fun(j:Nat) w'=>j<=l.length/\Ext w2 w')
  (fun j => [(1,.slice A l.length cap),(6,Pj p),(21,.slice A l.length cap),(22,Vj l.length),(23,Vj j)]) (fun j=>l.length-j) 0 ⟨Om,Ext.refl _⟩ Rr ?_
 rintro j w3 ⟨hj,hx3⟩;refine Hh ?_;constructor
 . intro hc;have hc:j<l.length:=Su hc;obtain⟨a2,rfl,hce⟩:=hs.get hc;have hme:=hm l[j] (Zx hc);generalize l[j]=e at hce hme;refine Hh ?_;refine⟨a2,Ix,Hh ?_⟩;refine⟨evC e,⟨rfl,(hx.trans hx3).cells hce⟩,Hh ?_⟩;intro b4 w4 hn4;refine Hh ?_;have e4:=hn4.block;refine Qc Qb (e:=ty77) rfl hn4.At rfl rfl rfl (by simp[Qg,evC,Value.oneCell']) fun w5 h5 ho5 => ?_
   have h5:At w5 b4 _ (evC e):=h5;have hx5:=ho5.ext (hx3.trans hn4.ext) (by have:=hx3.size;omega);refine Hh ?_;refine⟨evC e,⟨rfl,h5.all⟩,Hh ?_⟩;refine(Qjs e w5 (hg0.ext (hx.trans hx5)) (Nat.lt_trans (Qdc hme) (by decide))).mono ?_;rintro _ w6 ⟨rfl,hx6⟩;rw[hme];refine Hh ?_;refine⟨fun h=>(by simp at h),fun _ => ?_⟩;refine Hh ?_;refine⟨_,wrap_succ Om,Hh ?_⟩;exact⟨j+1,Om,⟨Om,hx5.trans hx6⟩,Rr⟩
 . intro _;have hx':=hx.trans hx3;refine Hh ?_;refine(Q6d l A cap w3 (hg0.ext hx') (hs.ext hx') hl hm).mono ?_;rintro _ w4 ⟨A4,z,rfl,hp4,hs4,hsl4,hx4,hn4⟩;have hz:=Xe5 hm hp4 hs4;have hzl:=Qmj l;have hri:=Qt6 hm;have hzm:∀ x∈Qma l,X0 x=true:=fun x hx=>hm x (Q0a hx)
   rw[<- hz] at hri hzm hzl ⊢;clear hp4 hs4 hz;have hC4:=(hC2.ext hx3).ext hx4;have hcA:∀ a,A4=some a->col2 a.block=0:=fun a ha=>hC2.2 _ (by have:=(hn4 a ha).1;have:=hx3.size;omega)
   have hg4:=hg0.ext (hx'.trans hx4);have hxw:=hx'.trans hx4;have hbase:w.heap.size<=w1.heap.size:=Om;refine Hh ?_;refine⟨fun h=>(by simp at h;omega),fun _ => ?_⟩;refine Hh ?_
   refine Qh Qb (fun(i:Nat) w'=>i<=z.length/\Ext w w'/\SlE w' A4 z/\∃ col,Qi5 w' w1.heap.size p c (ofW c.width (z.take i)) col/\∀ a,A4=some a->col a.block=0/\a.block<w'.heap.size)
    (fun i => [(6,Pj p),(36,.slice A4 z.length z.length),(37,Vj z.length),(38,Vj i)]) (fun i=>z.length-i) 0
    ⟨Om,hxw,hsl4,col2,hC4,fun a ha=>⟨hcA a ha,(hn4 a ha).2⟩⟩ Rr ?_
   clear hsl4 hC4 hcA hg4 hxw hx4 hn4 hC2 hx3 hx' hx hj hs;rintro i w5 ⟨hi,hx5,hsl5,col,hC5,hA5⟩;refine Hh ?_;constructor
   . intro hc;have hc:i<z.length:=Su hc;obtain⟨a2,rfl,hce⟩:=hsl5.get hc;have hme:=hzm z[i] (Zx hc);have htk:=Qc3 z i hc;have hri1:=Q9j hri (i+1);rw[htk] at hri1;generalize z[i]=e at hce hme htk hri1;have hof:=Q8v c.width (z.take i);have hnx:=Q1c c.width (z.take i) e;rw[<- htk] at hnx;have htl:(z.take i).length=i:=by rw[Zn];omega
     generalize hss:ofW c.width (z.take i)=s at hC5 hof hnx;refine Hh ?_
     repeat(refine Sg ?_;(conv=>whnf))
     refine⟨a2,Ix,Hh ?_⟩;refine⟨evC e,⟨rfl,hce⟩,Hh ?_⟩;intro b6 w6 hn6;refine Hh ?_;have e6:=hn6.block;have s6:=hn6.size;refine Qc Qb (e:=ty77) rfl hn6.At rfl rfl rfl (by simp[Qg,evC,Value.oneCell']) fun w7 h7 ho7 => ?_
     have h7:At w7 b6 _ (evC e):=h7;have s7:=ho7.size;have hx57:Ext w5 w7:=ho7.ext hn6.ext Om;have hC7:=hC5.ext hx57;have hx7:=hx5.trans hx57;have hcb:col b6=0:=hC5.2 b6 Om;refine Hh ?_;refine⟨evC e,⟨rfl,h7.all⟩,Hh ?_⟩;refine(Xc5 w7 w1.heap.size p c hcf s col hC7 (hg0.ext hx7) (by rw[hof.2,hof.1]) (by rw[hof.1];exact fun x hx=>hzm x (Zbo hx)) e hme (by rw[hof.1];exact hri1) (by rw[hof.1,htl];omega)).mono ?_;rintro _ w8 ⟨rfl,col8,hC8,hc8,hM8⟩;have h8:=h7.mod hM8 (by simp[hcb]);have s8:=hM8.size;have hlow:∀ k,col k≠0->w.heap.size<=k:=fun k hk=>(by obtain⟨q,A',cap',hL⟩:=hC7.1;have:=hL.low.2 k hk;omega)
     have hx8:Ext w w8:=Qgf hx7 hM8 hlow;have hsl8:SlE w8 (some a2) z:=Qte (hsl5.ext hx57) fun a' ha'=>(by have:=hA5 a' ha';exact hM8.block _ Om (by simp[this.1]))
     have hA8:∀ a,some a2=some a->col8 a.block=0/\a.block<w8.heap.size:=fun a ha=>(by have:=hA5 a ha;exact⟨(hc8 _ Om).trans this.1,Om⟩)
     have hcb8:col8 b6=0:=(hc8 b6 h7.lt).trans hcb;clear hM8 hC7 hx57 h7 hn6 ho7 hce hsl5 hA5 hC5;refine Hh ?_;refine⟨_,h8.one rfl,Hh ?_⟩;constructor
     . intro hk;have hk:e.kind=14:=Su hk;have hst:stepW c.width s e={ Xhd c.width s e with fg:=Xc s.fg e.person true }:=if_pos hk;rw[hst] at hnx;obtain⟨⟨q,A',cap',hL8⟩,hz8⟩:=hC8;refine Hh ?_;refine Dr .same [0,1,2,3,4,5] [6] (Hh ?_);replace hL8:=hL8.ext (Ext.refl w8).drew;replace h8:At w8.drew b6 _ _:=h8;replace hx8:=hx8.drew;replace hsl8:=hsl8.ext (Ext.refl w8).drew;have hs9:w8.drew.heap.size=w8.heap.size:=rfl;generalize w8.drew=w9 at hL8 h8 hx8 hsl8 hs9 ⊢;refine⟨_,hL8.head.one rfl,Hh ?_⟩;refine⟨_,h8.one rfl,Hh ?_⟩;refine Qx Qpf (Qo Xb) hL8.forg e.person _ fun w10 hm10 ho10 => ?_
       rw[Xa] at hm10;have hL10:=hL8.forgm ho10 hm10;have hbf:col8 q.bf=8:=hL8.cols.2.2.1;have s10:=ho10.size;refine Hh ?_;refine⟨_,wrap_succ Om,Hh ?_⟩;refine⟨i+1,Om,⟨Om,ho10.ext hx8 (by have:=hL8.low.2 q.bf Om;omega),Qte hsl8 (fun a ha=>ho10.block _ (fun e'=>by have:=(hA8 a ha).1;rw[e'] at this;omega)),col8,?_,fun a ha=>⟨(hA8 a ha).1,by have:=(hA8 a ha).2;omega⟩⟩,Rr⟩;rw[hnx];exact⟨⟨q,A',cap',hL10⟩,fun k hk=>hz8 k Om⟩
     . intro hk;have hk:¬ e.kind=14:=Su hk;have hst:stepW c.width s e=Xhd c.width s e:=if_neg hk;rw[hst] at hnx;refine Hh ?_;refine⟨_,wrap_succ Om,Hh ?_⟩;refine⟨i+1,Om,⟨Om,hx8,hsl8,col8,?_,hA8⟩,Rr⟩;rw[hnx];exact hC8
   . intro hc;have hc:z.length<=i:=Su hc;rw[Zb hc] at hC5;refine Hh ?_;refine⟨p,rfl,?_,hx5⟩;obtain⟨q,A',cap',hL⟩:=hC5.1;exact⟨col,q,A',cap',⟨by have:=hg0.size;omega,fun k hk=>by have:=hL.low.2 k hk;omega⟩,hL.head,hL.cols,hL.added,hL.forg,hL.evs,hL.cts⟩
