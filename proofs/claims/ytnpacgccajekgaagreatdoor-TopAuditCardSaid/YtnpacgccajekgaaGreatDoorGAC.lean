import Derived.Test.YtnpacgccajekgaaGreatDoorGAB
import Derived.Test.YtnpacgccajekgaaGreatDoorGSC
set_option linter.all false
namespace Go.Proofs.YtnpacgccajekgaaGreatDoor
open Go.Se Go.RowKit
def ptV(p:Nat):Value:= Pj p
structure Wds(w:World)(base bm:Nat)(c:Cfg)(l:List Ev)(M:List (Int×Nat))(T:Int->Nat->Prop):Prop where
 map:MapAt w bm vi (M.map fun x=>(x.1,ptV x.2))
 wt:∀x∈M,WT w (T x.1) x.2 c (Qfm (l.take x.1.toNat))
 low:∀a k,T a k->base<=k/\k<w.heap.size/\k≠bm
 one:∀a b k,T a k->T b k->a=b
def WdN(b:Nat)(T:Int->Nat->Prop)(k:Nat):Prop:=k=b\/∃a,T a k
section
variable {w w1:World}{base bm:Nat}{c:Cfg}{l:List Ev}{M:List (Int×Nat)}{T:Int->Nat->Prop}
theorem Wds.keep(h:Wds w base bm c l M T)(hx:∀k,WdN bm T k->w1.heap[k]?=w.heap[k]?):Wds w1 base bm c l M T:=
 ⟨h.map.keep (hx bm (.inl rfl)),fun x d=>(h.wt x d).keep fun k b=>hx k (.inr ⟨_,b⟩),fun a k b=>⟨(h.low a k b).1,Qhs (h.low a k b).2.1 (hx k (.inr ⟨a,b⟩)),(h.low a k b).2.2⟩,h.one⟩
theorem Wds.lt(h:Wds w base bm c l M T):∀k,WdN bm T k->k<w.heap.size:=fun k b=>by
 rcases b with rfl|⟨a,b⟩
 .exact h.map.lt
 .exact(h.low a k b).2.1
theorem Wds.ext(h:Wds w base bm c l M T)(hx:Ext w w1):Wds w1 base bm c l M T:=h.keep fun k a=>hx.block k (h.lt k a)
theorem Wds.upd{n off p f}(h:Wds w base bm c l M T)(u:∀x∈n,x=(off,p)\/(x∈M/\x.1≠off))(z:MapAt w1 bm vi (n.map fun x=>(x.1,ptV x.2)))(o:WT w1 f p c (Qfm (l.take off.toNat)))(m:∀k,f k->base<=k/\k≠bm/\∀a,a≠off->¬T a k)(r:∀a k,a≠off->T a k->w1.heap[k]?=w.heap[k]?):Wds w1 base bm c l n (fun a k=>if a=off then f k else T a k):=by
 refine⟨z,fun x hx=>?_,fun a k d=>?_,fun a b k d i=>?_⟩
 .rcases u x hx with rfl|⟨y,s⟩
  .have e:(fun k=>if off=off then f k else T off k)=f:=funext fun k=>if_pos rfl
   show WT w1 (fun k=>if off=off then f k else T off k) p c _
   rw[e];exact o
  .have e:(fun k=>if x.1=off then f k else T x.1 k)=T x.1:=funext fun k=>if_neg s
   show WT w1 (fun k=>if x.1=off then f k else T x.1 k) x.2 c _
   rw[e];exact(h.wt x y).keep fun k v=>r x.1 k s v
 .by_cases g:a=off
  .have d:f k:=by simpa only[if_pos g] using d
   exact⟨(m k d).1,o.lt k d,(m k d).2.1⟩
  .have d:T a k:=by simpa only[if_neg g] using d
   exact⟨(h.low a k d).1,Qhs (h.low a k d).2.1 (r a k g d),(h.low a k d).2.2⟩
 .by_cases g:a=off<;>by_cases j:b=off
  .rw[g,j]
  .have d:f k:=by simpa only[if_pos g] using d
   have i:T b k:=by simpa only[if_neg j] using i
   exact absurd i ((m k d).2.2 b j)
  .have d:T a k:=by simpa only[if_neg g] using d
   have i:f k:=by simpa only[if_pos j] using i
   exact absurd d ((m k i).2.2 a g)
  .exact h.one a b k (by simpa only[if_neg g] using d) (by simpa only[if_neg j] using i)
end
theorem Xmf:Tryz.prog.underlying 107=some (.map 3 38):=by kernel_rfl
def Q7r(c:Cfg)(every seed:Int)(l:List Ev)(x:Nt):List Bj:=Qyp c (Qfm (l.take x.off.toNat)) every seed x.person x.now
def Qds(c:Cfg)(every seed:Int)(l:List Ev)(x:Nt):Bool:=decide (x.off<=l.length)&&decide (Q7r c every seed l x=x.items)
set_option maxHeartbeats 8000000 in
theorem Qv9{w base bm c l M T}(h:Wds w base bm c l M T)(hg:Gl w)(hb0:10<=base)(hbw:base<=w.heap.size)(hbm:10<=bm)(hcf:Qu7 c=true)(hl:l.length<1000)(hmay:∀e∈l,Xy e=true)(every seed)(hev:0<=every/\every<=3){b3 b5 b10}
 (h3:At w b3 32 (Qas c (Qbp 6) every seed)){L cl}(h5:At w b5 24 [.slice L l.length cl])(hL:SlE w L l)(hcl:l.length<=cl)(h10:At w b10 107 [.map (some bm)])
 (n3:¬WdN bm T b3)(n5:¬WdN bm T b5)(n10:¬WdN bm T b10)(nL:∀a,L=some a->¬WdN bm T a.block)
 (r x)(h1:r.off=x.off)(h2:r.now=x.now)(h4:r.person=x.person)(h6:r.n=x.items.length)(hs:SlT w r.A x.items)(nA:∀a,r.A=some a->x.items≠[]->¬WdN bm T a.block)(hm:ntB x=true) :
 Cal Tryz.prog 34 [.agg (erC r).toArray,Pj b5,Pj b10,Pj b3] w fun v w'=>v=.bool (Qds c every seed l x)/\(∃M' T',Wds w' base bm c l M' T'/\∀k,WdN bm T' k->WdN bm T k\/w.heap.size<=k)/\Mod (WdN bm T) w w':=by
 obtain⟨off,now,person,A,n,cA,sum⟩:=r;simp only at h1 h2 h4 h6 hs nA;subst h1 h2 h4 h6;obtain⟨b0,b1,b2,b3',b4,b5',b6⟩:=Qgu hm;refine Fi Tryz.func34 rfl _ rfl rfl (Hh ?_);intro p4 w1 hn1;have g4:At w1 p4 45 (erC ⟨x.off,x.now,x.person,A,x.items.length,cA,sum⟩):=hn1.At;have e4:=hn1.block;have s1:=hn1.size;have hx1:=hn1.ext;clear hn1;have hW1:=h.ext hx1;have hlt:=h.lt;replace h3:=h3.ext hx1;replace h5:=h5.ext hx1;replace h10:=h10.ext hx1;refine Gg ?_;refine⟨Vj x.off,g4.one rfl,Gg ?_⟩;refine⟨.slice L l.length cl,h5.one0,Gg ?_⟩;constructor
 .intro q;have q:(l.length:Int)<x.off:=Su q;refine Gg ?_;refine⟨?_,⟨M,T,hW1,fun k hk=>.inl hk⟩,Mod.of_ext hx1⟩;unfold Qds;rw[decide_eq_false (show ¬x.off<=l.length by omega)];rfl
 intro q;have q:x.off<=(l.length:Int):=(by have:¬(l.length:Int)<x.off:=Su q;omega);have hcb:Qds c every seed l x=decide (Q7r c every seed l x=x.items):=(by unfold Qds;rw[decide_eq_true q];rfl);rw[hcb];have hlk:=Qph Xmf (Qhq Xh5) (e:=ty38) ty38_ok (cl:= .same) Qs hW1.map x.off;rw[Qdx (fun p:Nat=>ptV p)]at hlk;refine Gg ?_;refine⟨.map (some bm),h10.one0,Gg ?_⟩;refine⟨Vj x.off,g4.one rfl,Gg ?_⟩;refine⟨_,hlk,?_⟩
 -- a world of the first events,new or not
 refine Xi Qb (ι:=Nat×(List (Int×Nat)×(Int->Nat->Prop))) (fun|(p,_)=>[(1,Pj b5),(2,Pj b10),(3,Pj b3),(4,Pj p4),(6,ptV p)]) (fun q w'=>Wds w' base bm c l q.2.1 q.2.2/\(x.off,q.1)∈q.2.1/\(∀k,WdN bm q.2.2 k->WdN bm T k\/w1.heap.size<=k)/\Mod (fun k=>k=bm) w1 w') ?_ ?_
 .cases hM:Qe M x.off with
  |some p =>
   refine Gg ?_;constructor
   .intro q;simp at q
   intro _;refine Gg ?_;exact⟨(p,(M,T)),⟨hW1,Qax hM,fun k hk=>.inl hk,Mod.refl _ _⟩,Rr⟩
  |none =>
   refine Gg ?_;constructor
   rotate_left
   .intro q;simp at q
   intro _;refine Gg ?_;refine Dr .ext [0,1,2,3,4,5,6,7,8,9,10] [] (Hh ?_);have hxd:Ext w1 w1.drew:=(Ext.refl w1).drew;refine⟨Qrg c,⟨rfl,Q1b (h3.ext hxd)⟩,Hh ?_⟩;refine⟨.slice L l.length cl,(h5.ext hxd).one0,Hh ?_⟩;refine⟨Vj x.off,(g4.ext hxd).one rfl,Hh ?_⟩;refine⟨⟨Om,Om,Om,Om⟩,Hh ?_⟩;have hlt0:(l.take x.off.toNat).length=x.off.toNat:=by rw[Zn];omega
   have hst:SlE w1.drew (if cl=0 then L else L.map (·.add (0*8))) (l.take x.off.toNat):=Qdj (Qp1 ((hL.ext hx1).ext hxd) x.off.toNat) 0 cl Om;have hmd:=fun A' hs'=>Qpf c hcf (l.take x.off.toNat) A' cl w1.drew (hg.ext (hx1.trans hxd)) hs' Om fun e he=>hmay e (Zay he)
   rw[hlt0]at hmd;refine(hmd _ hst).mono ?_;rintro _ w2 ⟨p,rfl,hWV,hx2⟩;obtain⟨Tn,hWT,hTn⟩:=hWV.t;have hTn:∀k,Tn k->w1.heap.size<=k:=hTn;refine⟨hx2,Gg ?_⟩;have hx12:=hxd.trans hx2;refine⟨.map (some bm),(h10.ext hx12).one0,Gg ?_⟩;refine⟨Vj x.off,(g4.ext hx12).one rfl,Gg ?_⟩;refine Qx Xmf (Qhq Xh5) (hW1.ext hx12).map x.off (ptV p) fun w3 hm3 ho3=>?_
   refine Gg ?_;have z12:=hx12.size;have lbm:=hW1.map.lt;have hM3:Mod (fun k=>k=bm) w1 w3:=(Mod.of_ext hx12).trans (Qj ho3 rfl);rw[<- Qec (fun p:Nat=>ptV p)]at hm3;refine⟨(p,(Xe M x.off p,fun a k=>if a=x.off then Tn k else T a k)),⟨?_,?_,fun k hk=>?_,hM3⟩,Rr⟩
   .have hkeys:M.Pairwise (fun x y=>x.1≠y.1):=(by have:=hW1.map.keys;rw[Z5]at this;exact this);refine hW1.upd (fun y hy=>Qoc hkeys hy) hm3 ?_ (fun k hk=>?_) fun a k ha hk=>?_
    .exact hWT.keep fun k hk=>ho3.block k (by have:=hTn k hk;omega)
    .have h1:=hTn k hk;exact⟨Om,Om,fun a _ hT=>by have:=(hW1.low a k hT).2.1;omega⟩
    .exact(ho3.block k (hW1.low a k hk).2.2).trans (hx12.block k (hW1.low a k hk).2.1)
   .exact Qax (Q8 ..)
   .rcases hk with hk|⟨a,hk⟩
    .exact .inl (.inl hk)
    .by_cases ha:a=x.off
     .have hk:Tn k:=by simpa only[if_pos ha] using hk
      exact .inr (hTn k hk)
     .have hk:T a k:=by simpa only[if_neg ha] using hk
      exact .inl (.inr ⟨a,hk⟩)
 rintro ⟨p,⟨M2,T2⟩⟩ w3 ⟨hW3,hin,hT3,hM3⟩;simp only at hW3 hin hT3;have z3:=hM3.size
 have nb:∀k,k<w1.heap.size->¬WdN bm T k->¬WdN bm T2 k:=fun k hk hn hk2=>by
  rcases hT3 k hk2 with q|q
  .exact hn q
  .omega
 have nbm:∀k,¬WdN bm T k->k≠bm:=fun k hn e=>hn (.inl e)
 have n4:¬WdN bm T p4:=fun hk=>by have:=hlt _ hk;omega
 have m3:=nb _ h3.lt n3;have m4:=nb _ g4.lt n4;replace h3:=h3.mod hM3 (nbm _ n3);replace g4:=g4.mod hM3 (nbm _ n4)
 have hs3:SlT w3 A x.items:=by
  by_cases h0:x.items=[]
  .exact Qh6 h0
  .exact Xp.stay (hs.ext hx1) fun a ha hl=>hM3.block _ hl (nbm _ (nA a ha h0))
 have mA:∀a,A=some a->x.items≠[]->¬WdN bm T2 a.block:=fun a ha h0=>nb _ (by
  have:=Xhy hs Q28 h0 ha;omega) (nA a ha h0)
 have hg3:Gl w3:=(hg.ext hx1).mod hM3 fun k hk=>Om
 clear hlk h5 h10 n5 n10;refine Gg ?_;refine Dr (.mods (fun k=>T2 x.off k)) [0,1,2,3,4,5,6,7,8,11,12,9,10] [13,14,15] (Hh ?_);have hxd:Ext w3 w3.drew:=(Ext.refl w3).drew;have hM4:Mod (fun k=>k=bm) w1 w3.drew:=hM3.trans (Mod.of_ext hxd);replace h3:=h3.ext hxd;replace g4:=g4.ext hxd;replace hs3:=hs3.ext hxd;replace hg3:=hg3.ext hxd;replace hW3:=hW3.ext hxd;have z34:=hxd.size;generalize w3.drew=w4 at h3 g4 hs3 hg3 hW3 hM4 z34⊢;clear hxd hM3;have t3:¬T2 x.off b3:=fun hk=>m3 (.inr ⟨_,hk⟩)
 have t4:¬T2 x.off p4:=fun hk=>m4 (.inr ⟨_,hk⟩)
 have hwt:=hW3.wt _ hin;have hzl:=Qjy (l.take x.off.toNat);have htl:(l.take x.off.toNat).length<=l.length:=by rw[Zn];omega
 have hmz:∀e∈Qfm (l.take x.off.toNat),Xy e=true:=fun e he=>hmay e (Zay (Qni he))
 have hrl:=Xbx (c:=c) hmz every seed x.person x.now;have hok:Qqm c (Qfm (l.take x.off.toNat)):=⟨hcf,Om⟩;refine⟨false,Qa4 Kr (some ⟨p,0,none⟩) _ _,Hh ?_⟩;refine⟨Qas c (Qbp 6) every seed,fun _=>⟨rfl,h3.all,t3⟩,Hh ?_⟩;refine⟨.string x.person,fun _=>⟨g4.one rfl,t4⟩,Hh ?_⟩;refine⟨Vj x.now,fun _=>⟨g4.one rfl,t4⟩,Hh ?_⟩;refine⟨.slice A x.items.length cA,fun _=>⟨g4.one rfl,t4⟩,Hh ?_⟩;refine⟨((Option Addr×Nat)×((Option Addr×Nat)×((Option Addr×Nat)×(Nat->Prop)))),(fun i=>.agg #[.slice i.1.1 (Q7r c every seed l x).length i.1.2,.slice i.2.1.1 (Q7r c every seed l x).length i.2.1.2,.slice i.2.2.1.1 (Q7r c every seed l x).length i.2.2.1.2,Vj 0]),(fun i w'=>Own Qac 1 9 w4.heap.size w' i.1.1 i.1.2 (Q7r c every seed l x)/\WT w' i.2.2.2 p c (Qfm (l.take x.off.toNat))/\(∀k,i.2.2.2 k->T2 x.off k\/w4.heap.size<=k)/\Mod (T2 x.off) w4 w'),((none,0),((none,0),((none,0),fun _=>False))),fun _=>((Qmx hwt hok hg3 (fun k hk=>by have:=(hW3.low _ k hk).1;omega) every seed hev x.person b4 x.now ⟨b2,b3'⟩).mono fun r w' ⟨AI,cI,AX,cX,X,AY,cY,T5,h1,h2,_,_,_,_,_,_,_,h3,h4,h5⟩=>⟨((AI,cI),((AX,cX),((AY,cY),T5))),h1,h2,h3,h4,h5⟩),?_⟩;rintro iw5 w5 hqw5;replace hqw5:=hqw5.elim (fun h=>h.2) fun h=>(h.1 (And.intro (by first|rfl|simp|decide) trivial)).elim
 obtain⟨⟨AI,cI⟩,⟨⟨AX,cX⟩,⟨⟨AY,cY⟩,T5⟩⟩⟩:=iw5;obtain⟨hoI,hWT5,hT5,hM5⟩:=hqw5;simp only at hoI hWT5 hT5;refine⟨hM5,Hh ?_⟩
 have hs5:SlT w5 A x.items:=by
  by_cases h0:x.items=[]
  .exact Qh6 h0
  .exact Xp.stay hs3 fun a ha hl=>hM5.block _ hl fun hk=>mA a ha h0 (.inr ⟨_,hk⟩)
 have hal:(Q7r c every seed l x).length<1000000000000:=(by unfold Q7r;omega);refine⟨Unit,fun _=>(.bool (decide (Q7r c every seed l x=x.items))),fun _ w'=>Ext w5 w',(),fun hg=>((Xex (Q7r c every seed l x) x.items AI A cI cA w5 (hoI.sl Qv) hs5 hal)).mono fun r w' h=>⟨(),h.1,h.2⟩,?_⟩;intro _ w6 h2
 have hx6:Ext w5 w6:=by
  rcases h2 with⟨_,h⟩|⟨_,h⟩
  .exact h
  .rw[h];exact Ext.refl _
 clear h2;refine Hh ?_;refine Gg ?_;have z5:=hM5.size;have hM15:Mod (WdN bm T) w w5:=Qn ((Mod.of_ext hx1).trans (hM4.mono fun k _ hk=>.inl hk)) (hM5.mono fun k _ hk=>(hT3 k (.inr ⟨_,hk⟩)).imp id fun q=>Om);refine⟨rfl,⟨M2,fun a k=>if a=x.off then T5 k else T2 a k,?_,fun k hk=>?_⟩,hM15.trans (Mod.of_ext hx6)⟩
 .refine Wds.ext (w:=w5) ?_ hx6;refine hW3.upd (p:=p) (fun y hy=>?_) (hW3.map.mod hM5 fun hk=>(hW3.low _ _ hk).2.2 rfl) hWT5 (fun k hk=>?_) fun a k ha hk=>hM5.block k (hW3.low a k hk).2.1 fun hk2=>ha (hW3.one a x.off k hk hk2)
  .by_cases hy1:y.1=x.off
   .have hkeys:M2.Pairwise (fun x y=>x.1≠y.1):=(by have:=hW3.map.keys;rw[Z5]at this;exact this);have q1:=Qcl hkeys (k:=x.off) (v:=p) hin;have q2:=Qcl hkeys (k:=y.1) (v:=y.2) hy;rw[hy1,q1]at q2;refine .inl ?_;obtain⟨y1,y2⟩:=y;simp only at hy1 q2;rw[hy1,Zbc q2]
   .exact .inr ⟨hy,hy1⟩
  .rcases hT5 k hk with q1|q1
   .have q2:=hW3.low _ k q1;exact⟨q2.1,q2.2.2,fun a ha hT=>ha (hW3.one a x.off k hT q1)⟩
   .have lbm:=hW3.map.lt;exact⟨Om,Om,fun a _ hT=>by have:=(hW3.low a k hT).2.1;omega⟩
 .rcases hk with hk|⟨a,hk⟩
  .exact .inl (.inl hk)
  .by_cases ha:a=x.off
   .have hk:T5 k:=by simpa only[if_pos ha] using hk
    rcases hT5 k hk with q1|q1
    .exact(hT3 k (.inr ⟨_,q1⟩)).imp id fun q=>Om
    .exact .inr Om
   .have hk:T2 a k:=by simpa only[if_neg ha] using hk
    exact(hT3 k (.inr ⟨_,hk⟩)).imp id fun q=>Om
def inA(i:Nat):List Value:= [Vj (i:Int)]
theorem Q94(i):(inA i).length=1:=rfl
theorem Xjb(i):∀u∈inA i,u.oneCell'=true:=by
 intro u a;obtain rfl:u=Vj (i:Int):=by simpa [inA] using a
 rfl
theorem Xhs:Qle Tryz.prog 52 3 inA 1 8:=⟨by kernel_rfl,⟨_,ty3_ok,rfl,rfl⟩,by3,by decide,by decide,Q94,Xjb⟩
def Qqn(f:Nt->Bool)(E:List En)(k:Nat):List Nat:=(List.range k).filter fun a=>match E[a]? with|some e=>!f e.nt|none=>false
theorem Xeh{f E k e}(h:E[k]?=some e):Qqn f E (k+1)=Qqn f E k++if f e.nt=true then [] else [k]:=by
 unfold Qqn;rw[Zch,Zq];congr 1;rw[Zau,h];cases a:f e.nt<;>simp[a]
theorem Xig(f E k):(Qqn f E k).length<=k:=by
 unfold Qqn;refine Zw (Zc _ _) ?_;rw[List.length_range];exact Zf _
set_option maxHeartbeats 8000000 in
theorem Qmw{lo w p b8 E A ah X}(h:Qnh lo w p b8 E A ah X)(cj:X.length<100000)(bx:∀e∈E,ntB e.nt=true)(ak:Gl w){c}(a8:Qu7 c=true)(every seed)(bv:0<=every/\every<=3)(l L cl)(az:SlE w L l)(bu:l.length<=cl)(a0:∀a,L=some a->a.block<w.heap.size)(al:l.length<1000)(bd:∀e∈l,Xy e=true) :
 Cal Tryz.prog 11 [.agg (Qas c (Qbp 6) every seed).toArray,Pj p,.slice L l.length cl] w fun v w'=>(∃B d,v=.tuple #[.slice B (Qqn (Qds c every seed l) E E.length).length d,Vj 0]/\Own inA 1 3 w.heap.size w' B d (Qqn (Qds c every seed l) E E.length))/\Ext w w':=by
 have ch:=h.ents.1;have cn:=ak.size;refine Fi Tryz.func11 rfl _ rfl rfl (Hh ?_);intro b3 w1 j;refine Gg ?_;have m:At w1 b3 32 (Qas c (Qbp 6) every seed):=j.At;have cc:=j.block;have cr:=j.size;intro b5 bj C;refine Gg ?_;have u:At bj b5 24 [.slice L l.length cl]:=C.At;have cf:=C.block;have cw:=C.size;replace m:=m.ext C.ext;have s:=j.ext.trans C.ext;clear j C;refine⟨Qrg c,⟨rfl,Q1b m⟩,Gg ?_⟩;refine⟨.slice L l.length cl,u.one0,Gg ?_⟩;refine(Qpf c a8 l L cl bj (ak.ext s) (az.ext s) Om bd).mono ?_;rintro _ c2 ⟨cp,rfl,_,J⟩;refine Gg ?_;constructor
 .intro q;simp at q
 intro _;refine Gg ?_;have cx:=J.size;replace m:=m.ext J;replace u:=u.ext J;replace s:=s.trans J;clear J;intro bm bk y;refine Gg ?_;have cg:=y.block;have cy:=y.size;have ao:MapAt bk bm vi []:=MapAt.new y;intro ay w5 F;refine Gg ?_;have ca:=F.block;have cz:=F.size;refine Qc Qb (e:=ty107) rfl F.At rfl rfl rfl Oj fun i R au=>?_
 have R:At i ay 107 [.map (some bm)]:=R;have K:Ext bk i:=au.ext F.ext Om;have c0:=au.size;replace m:=(m.ext y.ext).ext K;replace u:=(u.ext y.ext).ext K;replace ao:=ao.ext K;replace s:=(s.trans y.ext).trans K;clear y F au K;have bp:=h.ext s;refine Gg ?_;refine⟨.slice A X.length ah,bp.head.one rfl,Gg ?_⟩
 have bz:∀(T:Int->Nat->Prop),(∀a k,T a k->i.heap.size<=k/\k≠bm)->∀k,k<i.heap.size->k≠bm->¬WdN bm T k:=fun T Y k b b0 q=>by
  rcases q with q|⟨a,q⟩
  .exact b0 q
  .have:=(Y a k q).1;omega
 refine Qh Qb (fun(q:Nat×((Option Addr×Nat)×(List (Int×Nat)×(Int->Nat->Prop)))) w'=>q.1<=X.length/\Ext w w'/\Mod (fun k=>k=bm) i w'/\Wds w' i.heap.size bm c l q.2.2.1 q.2.2.2/\Own inA 1 3 i.heap.size w' q.2.1.1 q.2.1.2 (Qqn (Qds c every seed l) E q.1)/\∀a,q.2.1.1=some a->¬WdN bm q.2.2.2 a.block)
  (fun|(k,((B,d),_))=>[(11,.func (.func 34) #[] #[Pj b5,Pj ay,Pj b3]),(12,.slice B (Qqn (Qds c every seed l) E k).length d),(30,.slice A X.length ah),(31,Vj X.length),(32,Vj (k:Nat))]) (fun q=>X.length-q.1) (0,((none,0),([],fun _ _=>False))) ⟨Zt _,s,Mod.refl _ _,⟨ao,by simp,by simp,by simp⟩,Own.nil,fun a g=>by cases g⟩ Rr ?_
 rintro ⟨k,⟨⟨B,d⟩,⟨M,T⟩⟩⟩ b9 ⟨b,av,a5,aa,H,aq⟩;simp only at b aa H aq;have c5:=a5.size;have aj:∀a k,T a k->i.heap.size<=k/\k≠bm:=fun a k Y=>⟨(aa.low a k Y).1,(aa.low a k Y).2.2⟩
 have j:=bz T aj;refine Gg ?_;constructor
 .intro ab;have ab:k<X.length:=Su ab;have an:k<E.length:=Om;have b4:=m.lt;have b6:=u.lt;have l10:=R.lt;obtain⟨a,g,a7⟩:=((h.ext av).row.sl Qfr).get ab;have o:=h.ents.2 k E[k] X[k] (Zb an) (Zb ab);have be:=bx E[k] (Zu an);have n:=Xeh (f:=Qds c every seed l) (Zb an);have ck:=Xig (Qds c every seed l) E k;generalize X[k]=r at a7 o;generalize E[k]=e at o be n;refine Gg ?_;refine⟨a,⟨g,Om,Om⟩,Gg ?_⟩;refine⟨erC r,⟨rfl,a7⟩,Gg ?_⟩;intro b7 c3 ac;refine Gg ?_;have cb:=ac.block;refine Qc Qb (e:=ty45) rfl ac.At rfl rfl rfl (by simp[Qg,erC,Value.oneCell']) fun aw ai bg=>?_
  have ai:At aw b7 45 (erC r):=ai;have N:Ext b9 aw:=bg.ext ac.ext Om;clear bg ac;have c6:=N.size;have af:=av.trans N;have W:=a5.trans (Mod.of_ext N)
  have b1:SlT aw r.A e.nt.items:=by
   by_cases S:e.nt.items=[]
   .exact Qh6 S
   .exact Xp.stay o.its fun a g al=>af.block _ al
  refine Gg ?_;refine⟨erC r,⟨rfl,ai.all⟩,Gg ?_⟩;refine(Qv9 (aa.ext N) (ak.ext af) Om Om Om a8 al bd every seed bv (m.mod W Om) (u.mod W Om) (az.ext af) bu (R.mod W Om) (j _ b4 Om) (j _ b6 Om) (j _ l10 Om) (fun a g=>j _ (by have:=a0 a g;omega) (by have:=a0 a g;omega)) r e.nt o.off o.now o.person o.len b1 (fun a g S=>j _ (by have:=(o.blk S a g).2.1;omega) (by have:=(o.blk S a g).2.1;omega)) be).mono ?_;rintro _ D ⟨rfl,⟨ax,P,Z,bs⟩,V⟩;have c4:=V.size
  have bi:Ext w D:=Qcu af (fun k b=>by
   rcases b with b|⟨a,b⟩
   .omega
   .have:=(aj a k b).1;omega) V
  have a4:Mod (fun k=>k=bm) i D:=Qn W (V.mono fun k _ b=>by
   rcases b with b|⟨a,b⟩
   .exact .inl b
   .exact .inr (aj a k b).1)
  have ae:Own inA 1 3 i.heap.size D B d (Qqn (Qds c every seed l) E k):=(H.ext N).keep fun a g=>V.block a.block (by have:=(H.block g).2;omega) (aq a g)
  have ar:∀a,B=some a->¬WdN bm P a.block:=fun a g q=>by
   rcases bs _ q with q|q
   .exact aq a g q
   .have:=(H.block g).2;omega
  generalize cm:Qds c every seed l e.nt=cv at n;refine Gg ?_
  cases cv with
  |true =>
   constructor
   .intro q;simp at q
   intro _;refine Gg ?_;refine⟨_,wrap_succ Om,Gg ?_⟩;have n:Qqn (Qds c every seed l) E (k+1)=Qqn (Qds c every seed l) E k:=by rw[n];simp
   refine⟨(k+1,((B,d),(ax,P))),Sj,⟨Sj,bi,a4,Z,?_,ar⟩,⟨rfl,?_,rfl,rfl,rfl,trivial⟩⟩
   .show Own inA 1 3 i.heap.size D B d (Qqn (Qds c every seed l) E (k+1))
    rw[n];exact ae
   .show _=some (Value.slice B (Qqn (Qds c every seed l) E (k+1)).length d)
    rw[n];rfl
  |false =>
   constructor
   rotate_left
   .intro q;simp at q
   intro _;refine Gg ?_;intro cq c1 z;refine Gg ?_;have cd:=z.block;have cu:=z.size;refine Qq Xhs (l:=Qqn (Qds c every seed l) E k) (news:= [k]) rfl (ae.ext z.ext) rfl (Xhs.new1 (x:=k) z) (by simp;omega) Om fun bl bo ag bh a9 bq=>?_
   have n:Qqn (Qds c every seed l) E (k+1)=Qqn (Qds c every seed l) E k++[k]:=by rw[n];simp
   rw[<- n]at bh⊢
   have U:∀k,B.map (·.block)=some k->i.heap.size<=k/\k<D.heap.size/\¬WdN bm P k:=fun k b=>by
    cases I:B with
    |none=>rw[I]at b;simp at b
    |some a =>
     rw[I]at b;have b:a.block=k:=Su b;subst b;exact⟨(ae.block I).1,(ae.block I).2,ar a I⟩
   have b2:Ext w ag:=Qu (bi.trans z.ext) a9 fun k b=>by have:=(U k b).1;omega
   have a3:Mod (fun k=>B.map (·.block)=some k) D ag:=(Mod.of_ext z.ext).trans (Xn a9 fun k b=>b);have br:Mod (fun k=>k=bm) i ag:=Qn a4 (a3.mono fun k _ b=>.inr (U k b).1);have bt:=Z.keep (w1:=ag) fun k b=>a3.block k (Z.lt k b) fun q=>(U k q).2.2 b
   refine Gg ?_;refine⟨_,wrap_succ Om,Gg ?_⟩;refine⟨(k+1,((bl,bo),(ax,P))),Sj,⟨Sj,b2,br,bt,bh,fun a g q=>?_⟩,Rr⟩;subst g;rcases bq with O|O|O
   .exact ar a O.symm q
   .exact(U a.block O.symm).2.2 q
   .have:=Z.lt _ q;simp at O;omega
 intro bb;have bb:X.length<=k:=Su bb;have bw:k=E.length:=Om;subst bw;refine Gg ?_;exact⟨⟨B,d,rfl,H.base Om⟩,av⟩
def Qhw(c:Cfg)(every seed:Int)(l:List Ev)(t:Int)(i k:Nat):Nt:=
 ⟨((k%(l.length+1):Nat):Int),t,Xfz.getD (i%4) ⟨#[]⟩,Qyp c (Qfm (l.take (k%(l.length+1)))) every seed (Xfz.getD (i%4) ⟨#[]⟩) t⟩
def Qi2(c:Cfg)(every seed:Int)(l:List Ev)(t:Int)(b:List Nat)(n:Nat):List Nt:=(List.range n).map fun a=>Qhw c every seed l t a (b.getD a 0)
theorem Qw9(c every seed l t a n):(Qi2 c every seed l t a n).length=n:=by simp[Qi2]
theorem Q52(c every seed l t a n):Qi2 c every seed l t a (n+1)=Qi2 c every seed l t a n++[Qhw c every seed l t n (a.getD n 0)]:=by
 unfold Qi2;rw[Zch,Zp];rfl
theorem Xf5{c z}(j:∀e∈z,Xy e=true)(every seed person now):∀x∈Qyp c z every seed person now,Qo x=true:=by
 have f:∀y∈(Q7s c z (Qbp 6) person now 5).map (·.item),Qo y=true:=(by intro y b;obtain⟨q,a,rfl⟩:=Zh.1 b;obtain⟨i,g,rfl⟩:=Zh.1 a;exact(Qj2 j (Ze.1 g).1).1);have d:∀y∈Qmc c z person now,Qo y=true:=(by intro y b;obtain⟨q,a,rfl⟩:=Zh.1 b;exact f _ (Zh.2 ⟨q,Xcs a,rfl⟩));intro x hx;unfold Qyp at hx;split at hx
 .rcases Xjl hx with h|h
  .exact d x h
  .exact f x (Ze.1 h).1
 .exact d x hx
theorem Xbl(i):Qo (Xfz.getD (i%4) ⟨#[]⟩)=true:=by
 have h:i%4<4:=Nat.mod_lt _ (by decide);generalize i%4=k at h;rcases (show k=0\/k=1\/k=2\/k=3 by omega) with rfl|rfl|rfl|rfl<;>decide
theorem Q11{l:List Ev}(b:∀e∈l,Xy e=true)(n):∀e∈Qfm (l.take n),Xy e=true:=fun e a=>b e (Zay (Qni a))
theorem Q25{c every seed l t i k}(a:∀e∈l,Xy e=true):(Qhw c every seed l t i k).items.length<=l.length:=by
 refine Zw (Xbx (Q11 a _) every seed _ t) (Zw (Qjy _) ?_);rw[Zn];omega
theorem Xa9{c every seed l t i k}(a:∀e∈l,Xy e=true)(h:l.length<=60)(d:0<=t/\t<=1000000):ntB (Qhw c every seed l t i k)=true:=by
 have f:=Q25 (c:=c) (every:=every) (seed:=seed) (t:=t) (i:=i) (k:=k) a;have g:=Nat.mod_lt k (show 0<l.length+1 by omega);have b:=Xf5 (c:=c) (Q11 a (k%(l.length+1))) every seed (Xfz.getD (i%4) ⟨#[]⟩) t;unfold ntB
 rw[decide_eq_true (show 0<=(Qhw c every seed l t i k).off by show (0:Int)<=((k%(l.length+1):Nat):Int);omega),
  decide_eq_true (show (Qhw c every seed l t i k).off<=1048576 by show ((k%(l.length+1):Nat):Int)<=1048576;omega),
  decide_eq_true (show 0<=(Qhw c every seed l t i k).now from d.1),
  decide_eq_true (show (Qhw c every seed l t i k).now<=1099511627776 by show t<=1099511627776;omega),
  show Qo (Qhw c every seed l t i k).person=true from Xbl i,decide_eq_true (show (Qhw c every seed l t i k).items.length<=1000 by omega),
  show (Qhw c every seed l t i k).items.all Qo=true from Zaa.2 b]
 rfl
theorem Xa8(c every seed l t i k):Qds c every seed l (Qhw c every seed l t i k)=true:=by
 have a:=Nat.mod_lt k (show 0<l.length+1 by omega);unfold Qds;rw[decide_eq_true (show (Qhw c every seed l t i k).off<=l.length by show ((k%(l.length+1):Nat):Int)<=l.length;omega),decide_eq_true (show Q7r c every seed l (Qhw c every seed l t i k)=(Qhw c every seed l t i k).items from rfl)];rfl
theorem Xeg{f E}(h:∀e∈E,f e.nt=true)(k):Qqn f E k=[]:=by
 unfold Qqn;rw[Zct];intro c _ a
 cases b:E[c]? with
 |none=>rw[b]at a;simp at a
 |some e=>rw[b]at a;simp[h e (Zap b)]at a
theorem Xbr{n k}(h:k<n):(List.range n).filter (fun i=>decide (i=k))=[k]:=by
 induction n with
 |zero=>omega
 |succ n c =>
  rw[Zch,Zq]
  by_cases e:k=n
  .subst e;have:(List.range k).filter (fun i=>decide (i=k))=[]:=(by rw[Zct];intro i a b;have d:=List.mem_range.1 a;have f:i=k:=Su b;omega);rw[this];simp
  .rw[c Om,Zbr (by simp;omega)];rfl
theorem Xih{f E k}(b:k<E.length)(h:∀(i:Nat) e,E[i]?=some e->f e.nt=decide (i≠k)):Qqn f E E.length=[k]:=by
 rw[<- Xbr b];unfold Qqn;refine Zda fun i a=>?_
 have a:=List.mem_range.1 a;rw[Zb a];have:=h i E[i] (Zb a);simp only[this]
 by_cases e:i=k<;>simp[e]
theorem Q1v(z):0<=IntKind.u64.wrap z/\IntKind.u64.wrap z<18446744073709551616:=by
 simp only[IntKind.wrap,IntKind.bits,IntKind.signed];simp;omega
theorem Xg8(s):IntKind.u64.wrap (s+1)≠s:=by
 simp only[IntKind.wrap,IntKind.bits,IntKind.signed];simp;omega
theorem Q6z(s l):0<=hash s l/\hash s l<18446744073709551616:=Q1v _
theorem Q8w(a):∀(l:List Nt) (j:Nat) (e:En),(Qfo a l)[j]?=some e->e.sum=sumF (Qq0 a ((Qfo a l).take j)) e.nt
 |[],j,e,h=>by simp[Qfo]at h
 |x::l,0,e,h=>by
  obtain rfl:(⟨x,sumF a x⟩:En)=e:=by simpa [Qfo] using h
  rfl
 |x::l,j+1,e,h=>by
  show e.sum=sumF (Qq0 a (⟨x,sumF a x⟩::(Qfo (sumF a x) l).take j)) e.nt
  rw[Q2v];exact Q8w (sumF a x) l j e (by simpa [Qfo] using h)
theorem Qrh(a):∀(l:List Nt) (e:En),e∈Qfo a l->0<=e.sum/\e.sum<18446744073709551616
 |[],e,h=>by cases h
 |x::l,e,h=>by
  rcases Zr.1 h with rfl|h
  .exact Q6z _ _
  .exact Qrh (sumF a x) l e h
theorem Qsy{a l e}(h:e∈Qfo a l):e.nt∈l:=by
 rw[<- Q8v a l];exact Zh.2 ⟨e,h,rfl⟩
theorem Xan{e}(i:ntB e.nt=true)(u:0<=e.sum/\e.sum<18446744073709551616):(Qck e).length<=26000:=by
 obtain⟨j,k,l,m,g,n,h⟩:=Qgu i;have b:=Qlj e.nt.off.toNat Om;have c:=Qlj e.nt.now.toNat Om;have d:=Qf4 e.sum.toNat Om;have o:=Qcg g;have f:=Qtk e.nt.items h
 have r:(Qqe e.nt.items).length<=e.nt.items.length*25+1:=by
  unfold Qqe;split
  .simp
  .unfold Xjf at f;rw[show ∀a:List UInt8,(⟨a.toArray⟩:Bj).size=a.length from fun a=>by simp[ByteArray.size]]at f;omega
 unfold Qd4 at b c d;rw[Qag]at b c d;have s:e.nt.person.data.toList.length=e.nt.person.size:=by simp
 unfold Qck Qsk;rw[Lib.join_length];simp only[Lib.lens,Zm,Zbk,Za8,List.sum_nil,Zx,Zae];omega
theorem Xew{seed}(k:0<=seed/\seed<18446744073709551616){E}(j:E.length<=4)(f:∀e∈E,ntB e.nt=true)(g:∀e∈E,0<=e.sum/\e.sum<18446744073709551616):(Q7u seed E).length<=1000000:=by
 have a:∀E:List En,(∀e∈E,(Qck e).length<=26000)->(Qb1 E).length<=E.length*26001:=by
  intro E
  induction E with
  |nil=>intro _;exact Zf _
  |cons e E i =>
   intro h;have a:=i fun x hx=>h x (Za3 _ hx)
   have d:=h e (Za7 ..);rw[Qh1,Zo,Zx,Zx];omega
 have d:=a E fun e c=>Xan (f e c) (g e c)
 have b:=Qf4 seed.toNat Om;unfold Qd4 at b;rw[Qag]at b;rw[Q2j];unfold Qcv;simp only[Zo,Zx,Zae];omega
def Xkv:Bj:=⟨#[110,111,116,104,105,110,103,45,115,117,99,104]⟩
def Qi0(x:Nt):Nt:=⟨x.off,x.now,x.person,x.items++[Xkv]⟩
theorem Xam{x}(h:ntB x=true)(k:x.items.length<1000):ntB (Qi0 x)=true:=by
 unfold ntB at h⊢;simp only[Zk,decide_eq_true_eq,Zaa]at h;obtain⟨⟨⟨⟨⟨⟨a,b⟩,c⟩,d⟩,e⟩,j⟩,f⟩:=h
 have g:(Qi0 x).items.all Qo=true:=by
  show (x.items++[Xkv]).all Qo=true
  rw[List.all_append,Zaa.2 f]
  decide
 have i:(Qi0 x).items.length<=1000:=by
  show (x.items++[Xkv]).length<=1000
  simp;omega
 rw[decide_eq_true (show 0<=(Qi0 x).off from a),decide_eq_true (show (Qi0 x).off<=1048576 from b),decide_eq_true (show 0<=(Qi0 x).now from c),decide_eq_true (show (Qi0 x).now<=1099511627776 from d),show Qo (Qi0 x).person=true from e,decide_eq_true i,g];rfl
theorem Xal{c every seed l x}(h:Qds c every seed l x=true):Qds c every seed l (Qi0 x)=false:=by
 unfold Qds at h⊢;simp only[Zk,decide_eq_true_eq]at h;have a:Q7r c every seed l (Qi0 x)=x.items:=h.2
 rw[a,decide_eq_false (show x.items≠(Qi0 x).items from fun e=>by
  have:=congrArg List.length e;simp[Qi0]at this)]
 simp
theorem ErL.spoil{lo w N E Y}(h:ErL lo w N E Y){k}(l:k<Y.length)(f:Int->Int):ErL lo w N (E.modify k fun e=>⟨e.nt,f e.sum⟩) (Y.set k ⟨Y[k].off,Y[k].now,Y[k].person,Y[k].A,Y[k].n,Y[k].c,f Y[k].sum⟩):=by
 refine⟨by simp[h.1],fun i e m b d=>?_⟩;rw[Zc2]at b;rw[Zc6]at d
 by_cases q:k=i
 .subst q;rw[if_pos rfl,if_pos l]at d;obtain rfl:=Zbc d
  cases j:E[k]? with
  |none=>rw[j]at b;simp at b
  |some g =>
   rw[j]at b;obtain rfl:(⟨g.nt,f g.sum⟩:En)=e:=Su b;have a:=h.2 k g Y[k] j (Zb l);exact⟨a.off,a.now,a.person,by show f Y[k].sum=f g.sum;rw[a.sum],a.len,a.cap,a.its,a.spot,a.blk⟩
 .rw[if_neg q]at d;exact h.2 i e m (by simpa [q] using b) d
theorem Xgh{E:List En}{k}{f:Int->Int}{P:Nt->Prop}(h:∀e∈E,P e.nt):∀e∈E.modify k fun e=>⟨e.nt,f e.sum⟩,P e.nt:=by
 intro e g;obtain⟨i,a⟩:=List.mem_iff_getElem?.1 g;rw[Zc2]at a
 cases c:E[i]? with
 |none=>rw[c]at a;simp at a
 |some b =>
  rw[c]at a;have d:=h b (Zap c)
  by_cases q:k=i
  .obtain rfl:(⟨b.nt,f b.sum⟩:En)=e:=by simpa [q] using a
   exact d
  .obtain rfl:b=e:=by simpa [q] using a
   exact d
set_option maxHeartbeats 16000000 in
theorem topAudit_spec(bs m A B cp cq spoil g w)(H:Gl w)(a8:Q71 w)(hs:Sl u8C 1 w A bs)(o:∀x∈bs,x<256)(b4:Sl u8C 1 w B m)(fr:∀x∈m,x<256)(cu:0<=g/\g<18446744073709551616)(he:spoil<256) :
 Cal Tryz.prog 3 [.slice A bs.length cp,.slice B m.length cq,.int .u64 g,.int .u8 (spoil:Nat)] w fun r w'=>r=.bool true/\Ext w w':=by
 have hh:=H.size;refine Fi Tryz.func3 rfl _ rfl rfl (Hh ?_);refine(Qyx bs A cp w H a8 hs o).mono ?_;rintro _ w1 ⟨b5,rfl|⟨c,every,z,L,d,l,t,rfl,⟨bw,cj,_⟩,⟨fq,hf⟩,hl,ht,ab⟩⟩
 .refine Gg ?_;intro p6 gk O;refine Gg ?_;refine Qc Qb (e:=ty32) rfl O.At rfl rfl rfl (by simp[Qg,ty32,Value.oneCell']) fun bp g6 bb=>?_
  have hx:=b5.trans (bb.ext O.ext (by rw[O.block];exact Zf _));clear bb O g6;refine Gg ?_;refine(Qgv bp (H.ext hx) (a8.ext hx)).mono ?_;rintro _ W ⟨rfl,ac⟩;refine Gg ?_;constructor
  .intro _;refine Gg ?_;refine(Qgv W (H.ext (hx.trans ac)) (a8.ext (hx.trans ac))).mono ?_;rintro _ w5 ⟨rfl,ax⟩;refine Gg ?_;exact⟨rfl,(hx.trans ac).trans ax⟩
  .intro h;simp at h
 refine Gg ?_;intro bj gk O;refine Gg ?_;have g3:=O.block;refine Qc Qb (e:=ty32) rfl O.At rfl rfl rfl (by simp[Qg,Qas,Value.oneCell']) fun bp U bb=>?_
 have U:At bp bj 32 (Qas c (Qbp 6) every z):=U;have cv:Ext w1 bp:=bb.ext O.ext (by rw[O.block];exact Zf _);have hx:=b5.trans cv;replace ab:=ab.ext cv;have gy:w.heap.size<=bj:=by rw[O.block];exact b5.size
 clear bb O cv b5;refine Gg ?_;refine(Qgv bp (H.ext hx) (a8.ext hx)).mono ?_;rintro _ W ⟨rfl,ac⟩;replace hx:=hx.trans ac;replace ab:=ab.ext ac;replace U:=U.ext ac;clear ac hs o;refine Gg ?_;constructor
 .intro _;refine Gg ?_;refine(Qgv W (H.ext hx) (a8.ext hx)).mono ?_;rintro _ w5 ⟨rfl,ax⟩;refine Gg ?_;exact⟨rfl,hx.trans ax⟩
 intro d5;have d5:m.length<=4:=(by simp at d5;omega);have d3:=ab.le;have dw:∀a,L=some a->a.block<W.heap.size:=fun a D=>(ab.block D).2
 have cr:=ab.sl Qau;have aq:=fq.may;have l10:=U.lt;have h0:=hx.size;replace b4:=b4.ext hx;clear ab;refine Gg ?_;refine(Qlg g W).mono ?_;rintro _ w5 ⟨p,rfl,h5,ax,ep⟩;refine Gg ?_;have h4:=ax.size;have eu:=h5.head.lt
 refine Qh Qb (fun(q:Nat×(Option Addr×Nat×List ER)) w'=>q.1<=m.length/\Ext W w'/\p<w'.heap.size/\Qnh W.heap.size w' p g (Qfo g (Qi2 c every z l t m q.1)) q.2.1 q.2.2.1 q.2.2.2)
  (fun|(k,_)=>[(1,.slice B m.length cq),(2,.int .u64 g),(3,.int .u8 (spoil:Nat)),(9,.slice L l.length d),(10,Pj bj),(11,Vj t),(13,Pj p),(53,.slice B m.length cq),(54,Vj m.length),(55,Vj (k:Nat))]) (fun q=>m.length-q.1) (0,(none,0,[])) ⟨Zt _,ax,eu,h5⟩ Rr ?_
 rintro ⟨k,⟨gq,c6,F⟩⟩ ae ⟨hk,R,hq,h6⟩;simp only at hk h6;have ia:=R.size;have ch:F.length=k:=by rw[h6.ents.1,Qsx,Qw9]
 refine Gg ?_;constructor
 .intro aa;have aa:k<m.length:=Su aa;obtain⟨a,D,ag⟩:=(b4.ext R).get aa;have fu:=fr m[k] (Zu aa);have ck:m.getD k 0=m[k]:=by simp[List.getD,aa]
  have bz:=Q52 c every z l t m k;rw[ck]at bz;generalize m[k]=q at ag fu bz;obtain⟨S,cg⟩:∃S,Xfz[k%4]?=some S:=⟨_,Zb (show k%4<4 by omega)⟩;have fi:Xfz.getD (k%4) ⟨#[]⟩=S:=by simp[List.getD,cg]
  have fj:=Xbm cg;have hd:=Nat.mod_lt q (show 0<l.length+1 by omega);refine Gg ?_;refine⟨a,⟨D,Om,Om⟩,Gg ?_⟩;refine⟨.int .u8 (q:Nat),Qp ag,Gg ?_⟩;refine⟨(q:Int),wrap_i64 ⟨Om,Om⟩,Gg ?_⟩;refine⟨((l.length+1:Nat):Int),wrap_succ Om,Gg ?_⟩;refine⟨((q%(l.length+1):Nat):Int),tmn (b:=l.length+1) Om,Gg ?_⟩;refine Dr .ext [0,1,2,3,4,5,6,7,8,9,10] [] (Hh ?_);have bi:Ext ae ae.drew:=(Ext.refl ae).drew;have c4:=R.trans bi;refine⟨Qrg c,⟨rfl,Q1b (U.ext c4)⟩,Hh ?_⟩;refine⟨⟨Om,Om,Om,Om⟩,Hh ?_⟩;have fw:(l.take (q%(l.length+1))).length=q%(l.length+1):=by rw[Zn];omega
  have av:SlE ae.drew (if d=0 then L else L.map (·.add (0*8))) (l.take (q%(l.length+1))):=Qdj (Qp1 (cr.ext c4) (q%(l.length+1))) 0 d Om;have ec:=fun e5 f1=>Qpf c bw (l.take (q%(l.length+1))) e5 d ae.drew (H.ext (hx.trans c4)) f1 Om fun e K=>aq e (Zay K)
  rw[fw]at ec;refine(ec _ av).mono ?_;rintro _ cb ⟨pw,rfl,fl,ay⟩;obtain⟨T,fk,bv⟩:=fl.t;have bv:∀k,T k->ae.heap.size<=k:=bv;refine⟨ay,Gg ?_⟩;constructor
  .intro h;simp at h
  intro _;refine Gg ?_;refine(Q0g cb).mono ?_;rintro _ e4 ⟨rfl,f0,a3⟩;refine Gg ?_;refine⟨((k%4:Nat):Int),tmn (b:=4) (by decide),Gg ?_⟩;refine⟨⟨cb.heap.size,0,none⟩,Ix,Gg ?_⟩;refine⟨.string S,Xjj f0 cg,Gg ?_⟩;have eo:Ext ae e4:=bi.trans (ay.trans a3);have aw:=R.trans eo;refine⟨Qas c (Qbp 6) every z,⟨rfl,(U.ext aw).all⟩,Gg ?_⟩;have hi:=Qjy (l.take (q%(l.length+1)));have bd:Qqm c (Qfm (l.take (q%(l.length+1)))):=⟨bw,Om⟩;refine(Qmx (fk.ext a3) bd (H.ext (hx.trans aw)) (fun k hk=>by have:=bv k hk;omega) every z cj S fj t ⟨Om,Om⟩).mono ?_;rintro _ de ⟨e6,fa,gs,g0,X,gu,g1,gx,rfl,fy,_,_,_,_,_,_,_,_,_,ff⟩;refine Gg ?_;have c0:Ext ae de:=Qcu eo bv ff;have bg:=R.trans c0;have fx:Qhw c every z l t k q=⟨((q%(l.length+1):Nat):Int),t,S,Qyp c (Qfm (l.take (q%(l.length+1)))) every z S t⟩:=by unfold Qhw;rw[fi]
  have ed:=Xa9 (c:=c) (every:=every) (seed:=z) (i:=k) (k:=q) aq hl ht;have h9:=h6.ext c0;have im:=c0.size;rw[fx]at bz ed;refine(Q1z h9 (H.ext (hx.trans bg)) Om Om _ e6 fa (fy.sl Qv) ed).mono ?_;rintro _ bo ⟨⟨df,dr,dp,a5,_⟩,dx⟩;refine Gg ?_;refine⟨_,wrap_succ Om,Gg ?_⟩;have a7:=Q17 g (Qi2 c every z l t m k) ⟨((q%(l.length+1):Nat):Int),t,S,Qyp c (Qfm (l.take (q%(l.length+1)))) every z S t⟩;rw[<- bz]at a7;have e3:=dx.size;refine⟨(k+1,(df,dr,dp)),Sj,⟨Sj,?_,Om,?_⟩,Rr⟩
  .exact Qcu bg (fun j hj=>by
    rcases hj with hj|hj
    .omega
    .exact Xm h9.row j hj) dx
  .show Qnh W.heap.size bo p g (Qfo g (Qi2 c every z l t m (k+1))) df dr dp
   rw[a7];exact a5
 intro ao;have ao:k=m.length:=(by have:m.length<=k:=Su ao;omega);subst ao;have V:∀x∈Qi2 c every z l t m m.length,ntB x=true/\Qds c every z l x=true/\x.items.length<=60:=fun x da=>(by obtain⟨I,_,rfl⟩:=Zh.1 da;exact⟨Xa9 aq hl ht,Xa8 c every z l t I _,Zw (Q25 aq) hl⟩)
 have bu:=Qw9 c every z l t m m.length;generalize Qi2 c every z l t m m.length=N at h6 V bu;have an:∀e∈Qfo g N,ntB e.nt=true:=fun e K=>(V _ (Qsy K)).1
 have br:(Qfo g N).length=m.length:=by rw[Qsx,bu]
 have cf:=fun e K=>Qrh g N e K
 have cd:∀e∈Qfo g N,e.nt.items.length<1000000:=fun e K=>by have:=(V _ (Qsy K)).2.2;omega
 have hz:=Xew cu (E:=Qfo g N) Om an cf;clear h5 eu b4;refine Gg ?_;refine⟨Qas c (Qbp 6) every z,⟨rfl,(U.ext R).all⟩,Gg ?_⟩;have ei:=Qmw h6 Om an (H.ext (hx.trans R)) bw every z cj l L d (cr.ext R) d3 (fun a D=>by have:=dw a D;omega) Om aq;rw[Xeg (fun e K=>(V _ (Qsy K)).2.1) _]at ei;refine ei.mono ?_;rintro _ cb ⟨⟨gw,d7,rfl,_⟩,ay⟩;refine Gg ?_;have h7:=h6.ext ay;refine(Qhm h7 Om cd).mono ?_;rintro _ e4 ⟨dm,d8,J,rfl,au,af,a3⟩;refine Gg ?_;have h8:=h7.ext a3;have ga:=ay.trans a3;have aw:=R.trans ga;refine(Qzg h8 (H.ext (hx.trans aw)) Om an cf cu hz).mono ?_;rintro _ de ⟨e7,d9,rfl,f2,er⟩;refine Gg ?_;have bg:=aw.trans er;refine(Qzc g cu (Qfo g N) an cf Om hz (fun j e K=>Q8w g N j e K) e7 d9 de (H.ext (hx.trans bg)) f2).mono ?_;rintro _ bo ⟨⟨gg,gr,c9,e9,rfl,a5⟩,el⟩;have fm:e9.length=m.length:=by rw[a5.ents.1,br]
 have d0:J.length=F.length:=by rw[af.1,br,ch]
 have f7:=bg.trans el;have b7:=er.trans el;have e3:=b7.size;have ah:=Qn6 g (Qfo g N) J dm d8 bo (H.ext (hx.trans f7)) ((au.ext b7).sl Qfr) (af.keep (N':=fun k=>dm.map (·.block)=some k) e3 (fun k _ hk _=>b7.block k hk) fun _ _ _ h=>h) Om an;rw[d0,Xiq g N (fun x hx=>(V x hx).1),bu]at ah;refine Gg ?_;refine⟨Unit,fun _=>(Vj (m.length:Nat)),fun _ w'=>Ext bo w',(),fun hg=>(ah).mono fun r w' h=>⟨(),h.1,h.2⟩,?_⟩;intro _ db C
 have em:Ext bo db:=by
  rcases C with⟨_,h⟩|⟨_,h⟩
  .exact h
  .rw[h];exact Ext.refl _
 clear C;refine Hh ?_;refine⟨false,fun _=>Qa4 Kr (some ⟨gg,0,none⟩) _ _,Hh ?_⟩;refine⟨((m.length+1:Nat):Int),fun _=>wrap_succ Om,Hh ?_⟩;refine⟨Option Addr×Nat,fun I=>.slice I.1 m.length I.2,fun _ w'=>Ext db w',(none,0),fun _=>(Qhm (a5.ext em) Om cd).mono fun r w' ⟨B,d,Y,h1,_,_,C⟩=>⟨(B,d),by rw[h1,fm],C⟩,?_⟩;intro hm gh C
 have f5:Ext db gh:=by
  rcases C with⟨_,h⟩|⟨_,h⟩
  .exact h
  .rw[h];exact Ext.refl _
 clear C ah a5;refine Gg ?_;constructor
 .intro h;simp[ch,br]at h
  try omega
 intro _;refine Gg ?_;have bh:=b7.trans (em.trans f5);have f8:=aw.trans bh;constructor
 .intro _;refine Gg ?_;exact⟨rfl,hx.trans f8⟩
 intro M;have M:0<m.length:=(by have:¬(F.length:Int)=0:=Su M;omega);refine Gg ?_;refine⟨(spoil:Int),wrap_i64 ⟨Om,Om⟩,Gg ?_⟩;refine⟨((spoil%F.length:Nat):Int),tmn (b:=F.length) Om,Gg ?_⟩;have fv:=Nat.mod_lt spoil (show 0<F.length by omega);generalize spoil%F.length=k at fv⊢;have b3:=au.ext bh;obtain⟨g8,fp,d2⟩:=(b3.sl Qfr).get (show k<J.length by omega);subst fp;have d6:k<J.length:=Om;refine⟨g8,Ix,Gg ?_⟩;refine⟨.int .u64 J[k].sum,d2 4 _ rfl,Gg ?_⟩;refine⟨IntKind.u64.wrap (J[k].sum+1),rfl,Gg ?_⟩;refine⟨g8,Ix,Gg ?_⟩;refine Qjs Qb (t:=23) (e:=ty23) rfl Qfr (v:= .int .u64 (IntKind.u64.wrap (J[k].sum+1))) rfl Oj (k:=k) (f:=4) d6 (by decide) ⟨J[k].off,J[k].now,J[k].person,J[k].A,J[k].n,J[k].c,IntKind.u64.wrap (J[k].sum+1)⟩ rfl (a:=g8) (by rw[Q9];rfl) b3 fun b9 ef b0=>?_
 have d4:=b3.block rfl;have c5:Ext cb b9:=b0.ext (a3.trans bh) d4.1;have cz:Ext W b9:=(R.trans ay).trans c5;have dz:=af.keep (w':=b9) (N':=fun k=>(some g8).map (·.block)=some k) (by rw[b0.size];exact bh.size) (fun j _ hj hn=>(b0.block j fun e=>hn (by rw[e];rfl)).trans (bh.block j hj)) fun _ _ _ h=>h
 have ah:=Qn6 g _ _ (some g8) d8 b9 (H.ext (hx.trans cz)) (ef.sl Qfr) (dz.spoil d6 fun s=>IntKind.u64.wrap (s+1)) (by rw[Zbi];omega) (Xgh (k:=k) (f:=fun s=>IntKind.u64.wrap (s+1)) (P:=fun x=>ntB x=true) an);rw[Zbi,d0,Q8u g N (fun x hx=>(V x hx).1) k Om (fun s=>IntKind.u64.wrap (s+1)) Xg8]at ah;refine Gg ?_;refine ah.mono ?_;rintro _ ca ⟨rfl,cw⟩;refine Gg ?_;constructor
 .intro h;simp at h
 intro _;refine Gg ?_;have f9:=c5.trans cw;have en:=cz.trans cw;clear ah dz ef b0 b3 af au d2 d4 c5 cz cw h8;refine(Qlg g ca).mono ?_;rintro _ gi ⟨bk,rfl,dv,cx,g4⟩;refine Gg ?_;have hp:=dv.head.lt;refine(Qhm (h7.ext (f9.trans cx)) Om cd).mono ?_;rintro _ dc ⟨bq,du,Y,rfl,au,af,cy⟩;refine Gg ?_;have ih:=cy.size;have ig:=cx.size;have hc:Y.length=F.length:=by rw[af.1,br,ch]
 have fh:∀x∈N.modify k Qi0,ntB x=true:=by
  intro x da;obtain⟨I,Z⟩:=List.mem_iff_getElem?.1 da;rw[Zc2]at Z
  cases u:N[I]? with
  |none=>rw[u]at Z;simp at Z
  |some ai =>
   rw[u]at Z;have M:=V ai (Zap u)
   by_cases e:k=I
   .obtain rfl:Qi0 ai=x:=by simpa [e] using Z
    exact Xam M.1 Om
   .obtain rfl:ai=x:=by simpa [e] using Z
    exact M.1
 have f3:=au.sl Qfr;have fo:∀a,bq=some a->gi.heap.size<=a.block/\a.block<dc.heap.size:=fun a D=>au.block D
 refine Qh Qb (fun(q:Nat×(Option Addr×Nat×List ER)) w'=>q.1<=F.length/\Ext ca w'/\Mod (fun j=>j=bk) dc w'/\Qnh ca.heap.size w' bk g (Qfo g ((N.modify k Qi0).take q.1)) q.2.1 q.2.2.1 q.2.2.2/\∀a,q.2.1=some a->dc.heap.size<=a.block)
  (fun|(j,_)=>[(9,.slice L l.length d),(10,Pj bj),(26,Vj (k:Nat)),(27,Pj bk),(179,.slice bq F.length du),(180,Vj F.length),(181,Vj (j:Nat))]) (fun q=>F.length-q.1) (0,(none,0,[])) ⟨Zt _,cx.trans cy,Mod.refl _ _,dv.ext cy,fun a D=>by cases D⟩ Rr ?_
 rintro ⟨j,⟨dh,gz,e8⟩⟩ dd ⟨hj,b6,bt,al,cc⟩;simp only at hj al cc;have ij:=bt.size;have ha:(N.modify k Qi0).length=m.length:=by simp[bu]
 have hb:e8.length=j:=by rw[al.ents.1,Qsx,Zn];omega
 refine Gg ?_;constructor
 .intro aa;have aa:j<F.length:=Su aa;have eb:j<N.length:=Om;have ea:j<(Qfo g N).length:=Om;have f4:Sl erC 5 dd bq Y:=Qxj.stay f3 fun a D hl=>bt.block _ hl (by have:=fo a D;omega)
  obtain⟨a,D,ag⟩:=f4.get (show j<Y.length by omega);have bd:=af.2 j (Qfo g N)[j] Y[j] (Zb ea) (Zb (show j<Y.length by omega))
  have cl:(Qfo g N)[j].nt=N[j]:=by
   have C:((Qfo g N).map (·.nt))[j]?=N[j]? := by rw[Q8v]
   rw[Zaf,Zb ea,Zb eb]at C;simpa using C
  have av:=Za (show j<(N.modify k Qi0).length by omega);rw[List.getElem_modify]at av;have c8:=V N[j] (Zu eb);generalize Y[j]=r at ag bd;generalize (Qfo g N)[j]=e at bd cl;generalize N[j]=x at cl av c8;subst cl;obtain⟨hv,hu,hw,bm,hr,b8,rs⟩:=r;obtain⟨ew,ey,ez,gb,e0,gd,e1,gf,e2⟩:=bd;simp only at ew ey ez gb e0 gd e1 gf e2;subst ew ey ez e0;refine Gg ?_;refine⟨a,⟨D,Om,Om⟩,Gg ?_⟩;refine⟨erC ⟨e.nt.off,e.nt.now,e.nt.person,bm,e.nt.items.length,b8,rs⟩,⟨rfl,ag⟩,Gg ?_⟩;intro bl gj bx;refine Gg ?_;have g5:=bx.block;refine Qc Qb (e:=ty45) rfl bx.At rfl rfl rfl (by simp[Qg,erC,Value.oneCell']) fun a4 ak ee=>?_
  have ak:At a4 bl 45 (erC ⟨e.nt.off,e.nt.now,e.nt.person,bm,e.nt.items.length,b8,rs⟩):=ak;have c7:Ext dd a4:=ee.ext bx.ext Om;clear ee bx;have ik:=c7.size
  have ek:SlT a4 bm e.nt.items:=by
   by_cases M:e.nt.items=[]
   .exact Qh6 M
   .exact Xp.stay e1 fun b o hl=>(c7.block _ Om).trans (bt.block _ hl (by have:=(e2 M b o).1;omega))
  have ho:=ak.lt;refine Hh ?_;refine Xi Qb (ι:=Option Addr×Nat) (fun _=>[(9,.slice L l.length d),(10,Pj bj),(26,Vj (k:Nat)),(27,Pj bk),(29,Pj bl),(179,.slice bq F.length du),(180,Vj F.length),(181,Vj (j:Nat))]) (fun I w'=>Mod (fun b=>b=bl) a4 w'/\At w' bl 45 (erC ⟨e.nt.off,e.nt.now,e.nt.person,I.1,(if k=j then Qi0 e.nt else e.nt).items.length,I.2,rs⟩)/\SlT w' I.1 (if k=j then Qi0 e.nt else e.nt).items) ?_ ?_
  .refine Gg ?_;constructor
   .intro u;have u:k=j:=(by have:(j:Int)=k:=Su u;omega);rw[if_pos u];refine Gg ?_;intro b1 ib ar;refine Gg ?_;refine⟨.slice bm e.nt.items.length b8,(ak.ext ar.ext).one rfl,Gg ?_⟩;refine Qq Xp (l:= []) (news:=e.nt.items) rfl (Xp.made (base:=a4.heap.size) ar (Zf _)) rfl (ek.ext ar.ext) (by simp;omega) ar.ext.size fun gp c1 wb cm ft g7=>?_
    have et:=Qu ar.ext ft (Xm (Xp.made (base:=a4.heap.size) ar (Zf _)));rw[Zah]at cm⊢;refine Gg ?_;intro b2 ic a9;refine Gg ?_;refine Qq Xp (l:=e.nt.items) (news:= [Xkv]) rfl (cm.ext a9.ext) rfl (Xp.new1 (x:=Xkv) a9) (by simp;omega) (et.trans a9.ext).size fun di c2 ie eg ck g9=>?_
    have bi:=Qu (et.trans a9.ext) ck (Xm (cm.ext a9.ext));refine Gg ?_;refine Qc Qb (e:=ty42) (off:=3) rfl (ak.ext bi) rfl rfl rfl Oj fun gn ge eh=>?_
    have ge:At gn bl 45 (erC ⟨e.nt.off,e.nt.now,e.nt.person,di,(e.nt.items++[Xkv]).length,c2,rs⟩):=ge;refine Gg ?_;refine⟨(di,c2),⟨(Mod.of_ext bi).trans (Qj eh rfl),ge,?_⟩,Rr⟩;exact(eg.keep fun b o=>eh.block b.block (by have:=(eg.block o).1;omega)).sl Qv
   .intro u;have u:¬k=j:=(by have:¬(j:Int)=k:=Su u;omega);rw[if_neg u];refine Gg ?_;exact⟨(bm,b8),⟨Mod.refl _ _,ak,ek⟩,Rr⟩
  rintro ⟨dk,c3⟩ gl ⟨fe,aj,cn⟩;simp only at aj cn
  have hy:(if k=j then Qi0 e.nt else e.nt).off=e.nt.off/\(if k=j then Qi0 e.nt else e.nt).now=e.nt.now/\(if k=j then Qi0 e.nt else e.nt).person=e.nt.person/\ntB (if k=j then Qi0 e.nt else e.nt)=true:=by
   by_cases q:k=j
   .rw[if_pos q];exact⟨rfl,rfl,rfl,Xam c8.1 Om⟩
   .rw[if_neg q];exact⟨rfl,rfl,rfl,c8.1⟩
  generalize (if k=j then Qi0 e.nt else e.nt)=y at av aj cn hy;have az:Ext dd gl:=Qcu c7 (fun b o=>Om) fe;have il:=az.size;have d1:=Q1z (al.ext az) (H.ext ((hx.trans en).trans (b6.trans az))) Om (b6.trans az).size y dk c3 cn hy.2.2.2;rw[hy.1,hy.2.1,hy.2.2.1]at d1;refine Gg ?_;refine⟨Vj e.nt.off,aj.one rfl,Gg ?_⟩;refine⟨Vj e.nt.now,aj.one rfl,Gg ?_⟩;refine⟨.string e.nt.person,aj.one rfl,Gg ?_⟩;refine⟨.slice dk y.items.length c3,aj.one rfl,Gg ?_⟩;refine d1.mono ?_;rintro _ gm ⟨⟨dj,dt,dq,fb,fc⟩,dy⟩;refine Gg ?_;refine⟨_,wrap_succ Om,Gg ?_⟩;have a7:=Q17 g ((N.modify k Qi0).take j) y;rw[<- av]at a7;refine⟨(j+1,(dj,dt,dq)),Sj,⟨Sj,?_,?_,?_,fun b o=>?_⟩,Rr⟩
  .exact Qcu (b6.trans az) (fun b o=>by
    rcases o with o|o
    .omega
    .exact Xm al.row b o) dy
  .exact Qn (bt.trans (Mod.of_ext az)) (dy.mono fun b _ o=>by
    rcases o with o|o
    .exact .inl o
    .cases u:dh with
     |none=>rw[u]at o;simp at o
     |some a0 =>
      rw[u]at o;have o:a0.block=b:=Su o;have:=cc a0 u;exact .inr Om)
  .show Qnh ca.heap.size gm bk g (Qfo g ((N.modify k Qi0).take (j+1))) dj dt dq
   rw[a7];exact fb
  .rcases fc b o with o|o
   .cases u:dh with
    |none=>rw[u]at o;simp at o
    |some a0 =>
     rw[u]at o;have o:a0.block=b.block:=Su o;have:=cc a0 u;omega
   .omega
 intro ao;have ao:j=m.length:=(by have:F.length<=j:=Su ao;omega);rw[Zd Om]at al;have fd:∀e∈Qfo g (N.modify k Qi0),ntB e.nt=true:=fun e K=>fh _ (Qsy K)
 have fs:Qqn (Qds c every z l) (Qfo g (N.modify k Qi0)) (Qfo g (N.modify k Qi0)).length=[k]:=by
  refine Xih (by rw[Qsx];omega) fun I e Z=>?_
  have C:((Qfo g (N.modify k Qi0)).map (·.nt))[I]?=(N.modify k Qi0)[I]? := by rw[Q8v]
  rw[Zaf,Z,Zc2]at C
  cases u:N[I]? with
  |none=>rw[u]at C;simp at C
  |some ai =>
   rw[u]at C;have M:=V ai (Zap u)
   by_cases q:k=I
   .have h3:e.nt=Qi0 ai:=by simpa [q] using C
    rw[h3,Xal M.2.1,decide_eq_false Om]
   .have h3:e.nt=ai:=by simpa [q] using C
    rw[h3,M.2.1,decide_eq_true Om]
 have be:=en.trans b6;have h2:=be.size;refine Gg ?_;refine⟨Qas c (Qbp 6) every z,⟨rfl,(U.ext be).all⟩,Gg ?_⟩;have ej:=Qmw al Om fd (H.ext (hx.trans be)) bw every z cj l L d (cr.ext be) d3 (fun a D=>by have:=dw a D;omega) Om aq;rw[fs]at ej;refine ej.mono ?_;rintro _ gj ⟨⟨gv,g2,rfl,fz⟩,f6⟩;refine Gg ?_;obtain⟨a,D,ag⟩:=(fz.sl Q94) 0 k rfl;subst D;refine⟨a,fun _=>⟨rfl,Om,by simp⟩,Gg ?_⟩;refine⟨Vj (k:Nat),fun _=>Qp ag,Gg ?_⟩;exact⟨by simp,hx.trans (be.trans f6)⟩
theorem topAuditI_spec(a b A B d e spoil c)(f:0<=spoil/\spoil<256)(w)(i:Gl w)(j:Q71 w)(k:Sl u8C 1 w A a)(g:∀x∈a,x<256)(l:Sl u8C 1 w B b)(h:∀x∈b,x<256)(n:0<=c/\c<18446744073709551616) :
 Cal Tryz.prog 3 [.slice A a.length d,.slice B b.length e,.int .u64 c,.int .u8 spoil] w fun r w'=>r=.bool true/\Ext w w':=by
 obtain⟨m,rfl⟩:=Int.eq_ofNat_of_zero_le f.1;exact topAudit_spec a b A B d e m c w i j k g l h n Om
