import Derived.Test.YtnpacgccajekgaaGreatDoorGYA
import Derived.Test.YtnpacgccajekgaaGreatDoorGYB
import Derived.Test.YtnpacgccajekgaaGreatDoorGXC
set_option linter.all false
namespace Go.Proofs.YtnpacgccajekgaaGreatDoor
open Go.Se Go.RowKit Go.Sort
def nrC(x:Nr):List Value:= [.string x.1,Vj x.2.1,Vj x.2.2]
theorem Qt6(x):(nrC x).length=3:=rfl
theorem Qt7(x):∀u∈nrC x,u.oneCell'=true:=by simp[nrC,Value.oneCell']
theorem Q0o:Qle Tryz.prog 352 355 nrC 3 32:=⟨by kernel_rfl,⟨_,ty355_ok,rfl,rfl⟩,by355,by decide,by decide,Qt6,Qt7⟩
theorem Qst{w b t l l2}(h:At w b t l)(k)(a:∀j v,l2[j]?=some v->l[k+j]?=some v):Xq w ((⟨b,0,none⟩:Addr).add k) l2:=fun j v c=>by
 rw[Q9];exact h.all (k+j) v (a j v c)
theorem Q4q(a b)(n:Qq8 a)(o:Qq8 b)(w):Cal Tryz.prog 364 [.agg (nrC a).toArray,.agg (nrC b).toArray] w fun r w'=>r=Vj (Xiu a b)/\Gr w w':=by
 refine Fi Tryz.func364 rfl _ rfl rfl (Hh ?_);intro h z l;refine Hh ?_;intro i c g;have d:At c h _ (nrC a):=l.At.ext g.ext;have e:At c i _ (nrC b):=g.At;have hx:=(Qam l).trans ((Qam g).trans (Gr.drew c));refine Hh ?_;refine Dr .ext [0,1,2,3,5,6,7,8,4] [9,10,11,12] (Hh ?_);replace d:At c.drew h _ _:=d;replace e:At c.drew i _ _:=e;generalize c.drew=x at d e hx⊢;refine⟨Qmv b.2,⟨rfl,Qst e 1 fun j v f=>by rw[Zdc];exact f⟩,Hh ?_⟩;refine⟨Qmv a.2,⟨rfl,Qst d 1 fun j v f=>by rw[Zdc];exact f⟩,Hh ?_⟩;refine⟨_,d.one rfl,Hh ?_⟩;refine⟨_,e.one rfl,Hh ?_⟩;refine(Qef Om b.2 a.2 o n x).mono ?_;rintro _ B ⟨rfl,k⟩;refine⟨k.ext,Hh ?_⟩;refine(Qaj _ _ _).mono ?_;rintro _ C ⟨rfl,u⟩;subst u;refine Hh ?_;intro y D m;refine Hh ?_;refine(Qex [Qqo b.2 a.2,Qcp a.1 b.1] _ _ _ (Qai (enc:=Qf7) X8 m) (by simp)).mono ?_;rintro _ A ⟨rfl,s⟩;subst s;refine Hh ?_;exact⟨rfl,(hx.trans k).trans (Qam m)⟩
theorem Q0y(l A c base w)(d:Own (fun x:NrS=>nrC x.1) 3 355 base w A c l)(b:l.length<1000000) :
 Cal Tryz.prog 363 [.slice A l.length c,.func (.func 364) #[] #[]] w fun r w'=>r=.tuple #[]/\∃F:List NrS,F.Perm l/\Srt (ltOf Qj5) F/\Sl (fun x:NrS=>nrC x.1) 3 w' A F/\∀a,Ext a w->a.heap.size<=base->Ext a w':=
 Qgh Tryz.sortNear (enc:=fun x:NrS=>nrC x.1) (by decide) Tryz.isAgg355 Tryz.sizeOf355 (fun x=>Qt6 x.1) (fun x=>Qt7 x.1) Qj5 Qv5 ⟨_,Tryz.func363,rfl,rfl⟩ (enters_of Tryz.func364 Kr rfl) l A c base w d b (fun x y w' _=>Q4q x.1 y.1 x.2 y.2 w') (cb:= #[])
theorem Xkl:Tryz.prog.underlying 352=some (.slice 355):=by kernel_rfl
theorem Qv1(x A c w)(i:Sl nrC 3 w A x)(y:x.length<1000000) :
 Cal Tryz.prog 365 [.slice A x.length c] w fun r w'=>∃d f,r=.slice d x.length f/\Own nrC 3 355 w.heap.size w' d f x/\Ext w w':=by
 refine Fi Tryz.func365 rfl _ rfl rfl (Hh ?_);refine⟨_,X4 Xkl A _ _ _ _,Hh ?_⟩;constructor
 .intro h;obtain rfl:A=none:=Su h
  have hx:x=[]:=by
   cases x with
   |nil=>rfl
   |cons e x=>obtain⟨a,n,_⟩:=i 0 e rfl;cases n
  subst hx;refine Hh ?_;exact⟨none,0,rfl,Own.nil,Ext.refl _⟩
 .intro h;refine Hh ?_;intro u z b;refine Hh ?_;have j:=Q0o.made (base:=w.heap.size) b (Zf _);refine Qq Q0o (l:= []) (news:=x) rfl j rfl (i.ext b.ext) (by simp;omega) b.ext.size fun k m B g o v=>?_
  have s:=Qu b.ext o (Xm j);rw[Zah]at g⊢;refine Hh ?_;exact⟨k,m,rfl,g,s⟩
theorem Xi3(w n)(h:n<=w.heap.size):∃d,Ext d w/\d.heap.size=n:=by
 have c:(w.heap.extract 0 n).size=n:=by simp;omega
 exact⟨{ w with heap:=w.heap.extract 0 n },⟨rfl,rfl,rfl,by show (w.heap.extract 0 n).size<=_;rw[c];exact h,fun b a=>by
  have a:b<(w.heap.extract 0 n).size:=a;show w.heap[b]?=(w.heap.extract 0 n)[b]?
  rw[Array.getElem?_extract];rw[c]at a;simp[a];omega⟩,c⟩
theorem Qz1(l)(E:∀x∈l,Qq8 x)(A c base w)(m:Own nrC 3 355 base w A c l)(V:l.length<1000000)(D:base<=w.heap.size)(n)(Y:0<=n/\n<=9223372036854775807) :
 Cal Tryz.prog 311 [.slice A l.length c,Vj n] w fun r w'=>∃F:List NrS,(F.map (·.1)).Perm l/\Srt (ltOf Qj5) F/\∃i j,r=.slice i ((F.map (·.1)).take n.toNat).length j/\Own nrC 3 355 base w' i j ((F.map (·.1)).take n.toNat)/\∀a,Ext a w->a.heap.size<=base->Ext a w':=by
 have g:=Qnx E;have H:Own (fun x:NrS=>nrC x.1) 3 355 base w A c (Qnw Qq8 l):=Q0d (f:=fun x:NrS=>x.1) (by rw[g];exact m);have N:(Qnw Qq8 l).length=l.length:=by rw[<- Zg (f:=fun x:NrS=>x.1),g]
 have s:=Q0y (Qnw Qq8 l) A c base w H Om;rw[N]at s;refine Fi Tryz.func311 rfl _ rfl rfl (Hh ?_);refine s.mono ?_;rintro _ u ⟨rfl,F,J,K,L,h⟩;have e:=J.map (fun x:NrS=>x.1);rw[g]at e;have k:(F.map (fun x:NrS=>x.1)).length=l.length:=e.length_eq;have M:Sl nrC 3 u A (F.map fun x:NrS=>x.1):=Xcp L;obtain⟨d,b⟩:∃d,d=(F.map fun x:NrS=>x.1).take n.toNat:=⟨_,rfl⟩;have B:min (max n 0) (l.length:Int)=(d.length:Int):=by rw[b,Zn,k];omega
 have S:d.length<=l.length:=by rw[b,Zn,k];omega
 have W:=m.le;have o:=Qdj (Qp1 M n.toNat) 0 c (by rw[<- b];omega);rw[List.drop_zero,<- b]at o;have Z:=h;refine Hh ?_;rw[B];refine⟨⟨Om,Om,Om,Om⟩,Hh ?_⟩;refine(Qv1 d _ _ u o Om).mono ?_;rintro _ aa ⟨v,y,rfl,I,P⟩;refine Hh ?_;obtain⟨a,O,R⟩:=Xi3 w base D;have U:=(h a O (Nat.le_of_eq R)).size;exact⟨F,e,K,v,y,by rw[<- b],by rw[<- b];exact I.base Om,fun a z C=>(h a z C).trans P⟩
end Go.Proofs.YtnpacgccajekgaaGreatDoor
namespace Go.Proofs.YtnpacgccajekgaaGreatDoor
open Go.Se Go.RowKit
theorem Qwg(w S p half rs)(h:X7 w S p half rs)(person item:Bj) :
 Cal Tryz.prog 184 [Pj p,.string person,.string item] w fun r w'=>r=.bool (Qjd rs person item)/\Ext w w':=by
 obtain⟨f,b,D,L,c,d,h⟩:=h;have a:∀w',Ext w w'->RdS Tryz.prog .same w' (Instr.lookup 252 (.map (some b.done)) (lnk (person,item)) false) (.bool (Qjd rs person item)):=fun w' hx=>(by have a:=X5 Qiu Qbe (e:=ty4) ty4_ok (cl:= .same) Qs (h.maps.done.ext hx) ((person,item):LK);rw[show ty4.zero=.bool false from rfl,Xt]at a;exact a)
 refine Fi Tryz.func184 rfl _ rfl rfl (Hh ?_);refine⟨.map (some b.done),h.head.one rfl,Gg ?_⟩;refine⟨_,a _ (Ext.refl _),Gg ?_⟩;exact⟨rfl,Ext.refl _⟩
theorem Qo0(w S p half rs)(h:X7 w S p half rs)(person item:Bj) :
 Cal Tryz.prog 118 [Pj p,.string person,.string item] w fun r w'=>r=.bool (Q7w rs person item)/\Ext w w':=by
 obtain⟨f,b,D,L,c,d,h⟩:=h;have a:∀w',Ext w w'->RdS Tryz.prog .same w' (Instr.lookup 252 (.map (some b.hidden)) (lnk (person,item)) false) (.bool (Q7w rs person item)):=fun w' hx=>(by have a:=X5 Qiu Qbe (e:=ty4) ty4_ok (cl:= .same) Qs (h.maps.hidden.ext hx) ((person,item):LK);rw[show ty4.zero=.bool false from rfl,Xt]at a;exact a)
 refine Fi Tryz.func118 rfl _ rfl rfl (Hh ?_);refine⟨.map (some b.hidden),h.head.one rfl,Gg ?_⟩;refine⟨_,a _ (Ext.refl _),Gg ?_⟩;exact⟨rfl,Ext.refl _⟩
theorem Qsh{z:List Ev}(b:∀e∈z,Xy e=true):(∀x∈Qje (z.filter wpB),x.1.size<=1000000)/\(Qje (z.filter wpB)).length<=z.length/\∀key r,Qe (Qje (z.filter wpB)) key=some r->∀x∈r,0<=x.1/\x.1<=1099511627776:=by
 have c:=Q9b (z.filter wpB);have h:=Zc wpB z;refine⟨fun x hx=>?_,Om,fun key r g x hx=>?_⟩
 .obtain⟨e,a,f⟩:=c.2 x hx;have:=Qcg (Qu4 b a).2;rw[<- f];omega
 .obtain⟨e,a,d,_⟩:=Q2i _ key r g x hx;rw[<- d];exact Qw3 (Xd0 b e a)
set_option maxRecDepth 100000 in
theorem Xdo(w p now n)(hn:n<=0):Cal Tryz.prog 231 [Pj p,Vj now,Vj n] w fun r w'=>r=.slice none 0 0/\Ext w w':=by
 refine⟨⟨_,Tryz.func231,rfl,rfl⟩,?_⟩;refine(callsIn_wide (n:=7)).1 ?_;refine callsIn_of_wp_marks Tryz.func231 rfl trivial ?_ rfl;simp only[Tryz.ntmps231,Za4,Zx,Zae,Nat.reduceAdd,Nat.reduceSub,Zcm,Zcn,Zdb,Zcr,Zah,Za1]
 gi_wp2
 exact⟨_,results_tmp rfl _ _ _,_,rfl,rfl,Ext.refl _⟩
theorem Xdp{w S p half dn}{z:List Ev}(h:Qqr w S p half dn (Qje (z.filter wpB)))(b:∀e∈z,Xy e=true)(k:z.length<1000)(now)(f:0<=now/\now<=1099511627776)(n)(d:0<=n/\n<=9223372036854775807) :
 Cal Tryz.prog 231 [Pj p,Vj now,Vj n] w fun r w'=>∃A c,r=.slice A ((Qgy (Qhe (Qje (z.filter wpB)) half now)).take n.toNat).length c/\Sl Qjv 2 w' A ((Qgy (Qhe (Qje (z.filter wpB)) half now)).take n.toNat)/\Ext w w':=by
 obtain⟨i,l,j⟩:=Qsh b
 by_cases a:1<=n
 .refine(Xgt w S p half dn _ h now f n ⟨a,d.2⟩ j i Om).mono ?_;rintro _ w' ⟨A,c,rfl,g,_,hx⟩;exact⟨A,c,rfl,g,hx⟩
 .obtain rfl:n=0:=Om;refine(Xdo w p now 0 (Int.le_refl _)).mono ?_;rintro _ w' ⟨rfl,hx⟩;refine⟨none,0,?_,?_,hx⟩
  .rw[show (0:Int).toNat=0 from rfl,List.take_zero];rfl
  .rw[show (0:Int).toNat=0 from rfl,List.take_zero];exact Sl.nil
end Go.Proofs.YtnpacgccajekgaaGreatDoor
namespace Go.Proofs.YtnpacgccajekgaaGreatDoor
open Go.Se Go.RowKit Go.Sort
theorem Qtj(x):∀u∈itC x,u.oneCell'=true:=by simp[itC,Value.oneCell']
def Qn4(c:Cfg)(z:List Ev)(person:Bj)(now b:Int)(k:Nat)(w:World)(r:Value)(w':World):Prop:=∃A a,r=.slice A ((Qe4 c z person now k).take b.toNat).length a/\Own Qac 1 9 w.heap.size w' A a ((Qe4 c z person now k).take b.toNat)/\Ext w w'
set_option maxHeartbeats 1000000 in
theorem Qxf{w T p c z v}(h:WQ w T p c z v)(ag:Qqm c z)(person:Bj)(now a)(af:0<=now/\now<=1099511627776)(ac:0<=a/\a<=9223372036854775807) :
 Cal Tryz.prog 175 [Pj p,.string person,Vj now,Vj a] w fun r w'=>Qn4 c z person now a 0 w r w':=by
 have ae:=ag.len;refine Fi Tryz.func175 rfl _ rfl rfl (Hh ?_);refine(Qks h).mono ?_;rintro _ av ⟨pd,S,rfl,D,ah⟩;rw[(Qc7 c.width z).1]at D;refine Hh ?_;refine(Xdp D h.may ae now af a ac).mono ?_;rintro _ M ⟨A,W,rfl,J,ai⟩;have C:(Qe4 c z person now 0).take a.toNat=((Qgy (Qhe (Qje (z.filter wpB)) (Xf c.half) now)).take a.toNat).map (fun x:Ct=>x.1):=(by rw[List.map_take];unfold Qe4;rw[if_pos rfl,(Qc7 c.width z).1]);have Z:((Qgy (Qhe (Qje (z.filter wpB)) (Xf c.half) now)).take a.toNat).length<1000000:=(by have an:(Qgy (Qhe (Qje (z.filter wpB)) (Xf c.half) now)).length<=(Qje (z.filter wpB)).length:=(by rw[(Qgd _).length_eq];unfold Qhe;refine Zw (Zc _ _) ?_;rw[Zg,Zg];exact Zf _);have ao:=(Qsh h.may).2.1;rw[Zn];omega);unfold Qn4;rw[C];clear C;generalize (Qgy (Qhe (Qje (z.filter wpB)) (Xf c.half) now)).take a.toNat=Q at J Z⊢;have L:=ah.trans ai;refine Gg ?_
 refine Qh Qb (fun(x:Nat×Option Addr×Nat×List Bj) w'=>x.1<=Q.length/\Ext M w'/\x.2.2.2=(Q.take x.1).map (fun x:Ct=>x.1)/\Own Qac 1 9 M.heap.size w' x.2.1 x.2.2.1 x.2.2.2)
  (fun|(k,B,d,K)=>[(9,.slice B K.length d),(16,.slice A Q.length W),(17,Vj Q.length),(18,Vj (k:Nat))]) (fun x=>Q.length-x.1) (0,none,0,[]) ⟨Zt _,Ext.refl _,rfl,Own.nil⟩ Rr ?_
 rintro ⟨k,B,d,K⟩ ak ⟨ab,n,b,j⟩;simp only at ab b j;have ar:K.length<=k:=by rw[b,Zg,Zn];omega
 refine Gg ?_;constructor
 .intro g;have g:k<Q.length:=Su g;obtain⟨R,Y,E⟩:=(J.ext n).get g;subst Y;have m:(Q.take (k+1)).map (fun x:Ct=>x.1)=K++[((fun x:Ct=>x.1)) Q[k]]:=by rw[Za g,Zp,b];rfl
  generalize Q[k]=x at E m;refine Gg ?_;refine⟨R,Ix,Gg ?_⟩;refine⟨Qjv x,⟨rfl,E⟩,Gg ?_⟩;intro U wb i;refine Gg ?_;refine Qc Qb (e:=ty345) rfl i.At rfl rfl rfl (Qj7 x) fun N u H=>?_
  have u:At N U 345 (Qjv x):=u;have o:Ext ak N:=H.ext i.ext (by rw[i.block];exact Zf _);clear H i;have F:nth (Qjv x) 0=some (.string (((fun x:Ct=>x.1)) x)):=rfl;generalize au:((fun x:Ct=>x.1)) x=s at F m;refine Gg ?_;refine⟨.string s,u.one F,Gg ?_⟩;intro al aw f;refine Gg ?_;refine Qq Xp (l:=K) (news:= [s]) rfl ((j.ext o).ext f.ext) rfl (Xp.new1 (x:=s) f) (by simp;omega) ((n.trans o).trans f.ext).size fun O V wf I aa aq=>?_
  have aj:=Qu ((n.trans o).trans f.ext) aa (Xm ((j.ext o).ext f.ext));generalize K++[s]=P at I m⊢;refine Gg ?_;refine⟨_,wrap_succ Om,Gg ?_⟩;exact⟨(k+1,O,V,P),Sj,⟨Sj,aj,m.symm,I⟩,Rr⟩
 intro y;have y:Q.length<=k:=Su y;rw[Zd y]at b;rw[<- b];refine Gg ?_;exact⟨B,d,rfl,j.base L.size,L.trans n⟩
theorem Xkm:Tryz.prog.underlying 346=some (.slice 350):=by kernel_rfl
theorem Qv2(x A c w)(i:Sl riC 3 w A x)(y:x.length<1000000) :
 Cal Tryz.prog 303 [.slice A x.length c] w fun r w'=>∃d f,r=.slice d x.length f/\Own riC 3 350 w.heap.size w' d f x/\Ext w w':=by
 refine Fi Tryz.func303 rfl _ rfl rfl (Hh ?_);refine⟨_,X4 Xkm A _ _ _ _,Hh ?_⟩;constructor
 .intro h;obtain rfl:A=none:=Su h
  have hx:x=[]:=by
   cases x with
   |nil=>rfl
   |cons e x=>obtain⟨a,n,_⟩:=i 0 e rfl;cases n
  subst hx;refine Hh ?_;exact⟨none,0,rfl,Own.nil,Ext.refl _⟩
 .intro h;refine Hh ?_;intro u z b;refine Hh ?_;have j:=Xgc.made (base:=w.heap.size) b (Zf _);refine Qq Xgc (l:= []) (news:=x) rfl j rfl (i.ext b.ext) (by simp;omega) b.ext.size fun k m B g o v=>?_
  have s:=Qu b.ext o (Xm j);rw[Zah]at g⊢;refine Hh ?_;exact⟨k,m,rfl,g,s⟩
set_option maxHeartbeats 1000000 in
theorem Xcf(w S p width n s)(h:Qn3 w S p width n s)(J:1<=width/\width<=1099511627776)(ok:Xhb s 10000000)(I:∀key lo hi,paS s key lo hi<=10000000)(span now floor a)(E:1<=span/\span<=1099511627776)(z:span.tmod width=0)(C:0<=now/\now<=1099511627776)(U:0<=a/\a<=9223372036854775807)(Q)
 (f:Q=Qh7 (ltOf Qjc) (Qnw Qsq (Qcm s ((now-now.tmod width-2*span)/width) ((now-now.tmod width-span)/width) ((now-now.tmod width)/width) floor (Qc3 s ((now-now.tmod width-span)/width) ((now-now.tmod width)/width))))) :
 Cal Tryz.prog 232 [Pj p,Vj span,Vj now,Vj floor,Vj a] w fun r w'=>∃A c,r=.slice A ((Q.map (·.1)).take a.toNat).length c/\Own riC 3 350 w.heap.size w' A c ((Q.map (·.1)).take a.toNat)/\Q.length<1000000/\Ext w w':=by
 have B:=Qo9 s ((now-now.tmod width-span)/width) ((now-now.tmod width)/width);have R:=ok.len;refine Fi Tryz.func232 rfl _ rfl rfl (Hh ?_);refine(Qmy w S p width n s h J ok I span now floor E z C).mono ?_;rintro _ M ⟨A,c,F,rfl,e,g,H,P,j⟩;have u:F=Q:=(Xly e g).trans f.symm
 have v:F.length<1000000:=by
  have m:=e.length_eq;have o:∀K,(Qcm s ((now-now.tmod width-2*span)/width) ((now-now.tmod width-span)/width) ((now-now.tmod width)/width) floor K).length<=K.length:=fun K=>(by unfold Qcm;refine Zw (Zc _ _) ?_;rw[Zg];exact Zf _)
  have N:=o (Qc3 s ((now-now.tmod width-span)/width) ((now-now.tmod width)/width));rw[Zg]at m;omega
 clear e g f B;subst u;obtain⟨b,d⟩:∃b,b=(F.map fun x:RiS=>x.1).take a.toNat:=⟨_,rfl⟩;have y:min (max a 0) (F.length:Int)=(b.length:Int):=by rw[d,Zn,Zg];omega
 have O:b.length<=F.length:=by rw[d,Zn,Zg];omega
 have i:=Qdj (Qp1 H a.toNat) 0 c (by rw[<- d];omega);rw[List.drop_zero,<- d]at i;refine Hh ?_;rw[y];refine⟨⟨Om,Om,Om,Om⟩,Hh ?_⟩;refine(Qv2 b _ _ M i Om).mono ?_;rintro _ V ⟨k,l,rfl,D,L⟩;refine Hh ?_;rw[<- d];exact⟨k,l,rfl,D.base j.size,v,j.trans L⟩
set_option maxHeartbeats 1000000 in
theorem Q6e{w T p c z v}(h:WQ w T p c z v)(R:Qqm c z)(person:Bj)(now a)(ay:0<=now/\now<=1099511627776)(av:0<=a/\a<=9223372036854775807) :
 Cal Tryz.prog 176 [Pj p,.string person,Vj now,Vj a] w fun r w'=>Qn4 c z person now a 1 w r w':=by
 have N:=R.len;obtain⟨a7,ai,aj,ak,a8,a9,bd⟩:=Xhf R.cfg;have a0:=Q9s ai;have ok:=Xls c.width h.may (Zat N (by decide));have aw:=Xlr c.width h.may (Zat N (by decide));obtain⟨b,g⟩:∃b,b=Xlw c z now:=⟨_,rfl⟩;have J:=g;unfold Xlw Xlx Qjm at g;rw[(Qc7 c.width z).2.1]at g;have I:(Qe4 c z person now 1).take a.toNat=((b.map (·.1)).take a.toNat).map (fun x:Ri=>x.1):=(by rw[<- List.map_take,Zz,J];unfold Qe4;rw[if_neg (by decide),if_pos rfl,List.map_take];rfl);refine Fi Tryz.func176 rfl _ rfl rfl (Hh ?_);refine(Qbi h).mono ?_;rintro _ bl ⟨rfl,Z⟩;refine Hh ?_;intro ah bm H;refine Hh ?_;refine Qc Qb (e:=ty26) rfl H.At rfl rfl rfl (by simp[Qg,Xhe,Qrg,Value.oneCell']) fun ac j O=>?_
 have bg:=H.block;have u:Ext w ac:=O.ext (Z.trans H.ext) (by have:=Z.size;omega);have j:At ac ah 26 (Qrg c):=j;clear O;refine Gg ?_;refine Dr .ext [0,2,3,4,5,6,7,10,1,8,9] [] (Hh ?_);refine⟨_,j.one rfl,Gg ?_⟩;refine⟨_,j.one rfl,Gg ?_⟩;replace u:=u.drew;refine(Qpw (h.ext u)).mono ?_;rintro _ a4 ⟨pp,S,rfl,V,aa⟩;rw[(Qc7 c.width z).2.1]at V;refine⟨aa,Gg ?_⟩;refine(Xcf a4 S pp (Xf c.width) _ _ V Om ok aw c.span now c.floor a aj (by rw[a0];exact ak) ay av b g).mono ?_;rintro _ w5 ⟨A,an,rfl,az,bj,ab⟩;refine⟨ab,Gg ?_⟩;have aq:((b.map (·.1)).take a.toNat).length<1000000:=by rw[Zn,Zg];omega
 unfold Qn4;rw[I];clear I g J;have W:=az.sl Q0j;generalize (b.map (·.1)).take a.toNat=Q at W aq⊢;have Y:=u.trans (aa.trans ab);refine Gg ?_
 refine Qh Qb (fun(x:Nat×Option Addr×Nat×List Bj) w'=>x.1<=Q.length/\Ext w5 w'/\x.2.2.2=(Q.take x.1).map (fun x:Ri=>x.1)/\Own Qac 1 9 w5.heap.size w' x.2.1 x.2.2.1 x.2.2.2)
  (fun|(k,B,d,K)=>[(10,.slice B K.length d),(23,.slice A Q.length an),(24,Vj Q.length),(25,Vj (k:Nat))]) (fun x=>Q.length-x.1) (0,none,0,[]) ⟨Zt _,Ext.refl _,rfl,Own.nil⟩ Rr ?_
 rintro ⟨k,B,d,K⟩ a5 ⟨au,y,f,o⟩;simp only at au f o;have bi:K.length<=k:=by rw[f,Zg,Zn];omega
 refine Gg ?_;constructor
 .intro m;have m:k<Q.length:=Su m;obtain⟨ax,ao,L⟩:=(W.ext y).get m;subst ao;have s:(Q.take (k+1)).map (fun x:Ri=>x.1)=K++[((fun x:Ri=>x.1)) Q[k]]:=by rw[Za m,Zp,f];rfl
  generalize Q[k]=x at L s;refine Gg ?_;refine⟨ax,Ix,Gg ?_⟩;refine⟨riC x,⟨rfl,L⟩,Gg ?_⟩;intro bb wb n;refine Gg ?_;refine Qc Qb (e:=ty350) rfl n.At rfl rfl rfl (Quk x) fun ae E P=>?_
  have E:At ae bb 350 (riC x):=E;have C:Ext a5 ae:=P.ext n.ext (by rw[n.block];exact Zf _);clear P n;have M:nth (riC x) 0=some (.string (((fun x:Ri=>x.1)) x)):=rfl;generalize bk:((fun x:Ri=>x.1)) x=D at M s;refine Gg ?_;refine⟨.string D,E.one M,Gg ?_⟩;intro be bo i;refine Gg ?_;refine Qq Xp (l:=K) (news:= [D]) rfl ((o.ext C).ext i.ext) rfl (Xp.new1 (x:=D) i) (by simp;omega) ((y.trans C).trans i.ext).size fun af al wf U ar bh=>?_
  have a3:=Qu ((y.trans C).trans i.ext) ar (Xm ((o.ext C).ext i.ext));generalize K++[D]=ag at U s⊢;refine Gg ?_;refine⟨_,wrap_succ Om,Gg ?_⟩;exact⟨(k+1,af,al,ag),Sj,⟨Sj,a3,s.symm,U⟩,Rr⟩
 intro F;have F:Q.length<=k:=Su F;rw[Zd F]at f;rw[<- f];refine Gg ?_;exact⟨B,d,rfl,o.base Y.size,Y.trans y⟩
