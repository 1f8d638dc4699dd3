import Derived.Test.YtnpacgccajekgaaGreatDoorGC
set_option linter.all false
namespace Go.Proofs.YtnpacgccajekgaaGreatDoor
open Go.Se Go.RowKit
theorem Qw{α:Type}{P:List α->Prop}(h0:P [])(h1:∀l a,P l->P (l++[a]))(l):P l:=by
 have:∀b:List α,P b.reverse:=by
  intro b
  induction b with
  |nil=>exact h0
  |cons a b c=>rw[List.reverse_cons];exact h1 _ _ c
 have h:=this l.reverse
 rwa [List.reverse_reverse]at h
def Xh8:Ev:=⟨⟨#[]⟩,0,0,0,⟨#[]⟩,⟨#[]⟩,0,⟨#[]⟩⟩
def Qe2(l:List Ev):Ev:=l.getLast?.getD Xh8
structure It where
 name:Bj
 maker:Bj
 tags:Bj
 stock:Int
 price:Int
 born:Int
 listed:Bool
deriving DecidableEq
def itC(i:It):List Value:= [.string i.name,.string i.maker,.string i.tags,Vj i.stock,Vj i.price,Vj i.born,.bool i.listed]
def Qb0:It:=⟨⟨#[]⟩,⟨#[]⟩,⟨#[]⟩,0,0,0,false⟩
structure St where
 at_:Int
 born:Bool
 item:It
deriving DecidableEq
def stC(s:St):List Value:= [Vj s.at_,.bool s.born,.string s.item.name,.string s.item.maker,.string s.item.tags,Vj s.item.stock,Vj s.item.price,Vj s.item.born,.bool s.item.listed]
theorem Qqa(s):(stC s).length=9:=rfl
theorem Q07(s):∀u∈stC s,u.oneCell'=true:=by simp[stC,Value.oneCell']
def Qi4(name:Bj):St:=⟨0,false,{ Qb0 with name:=name }⟩
def Qce(s:St)(e:Ev):St:=
 if e.kind=11 then⟨e.at_,true,{ s.item with listed:=true,maker:=Qcw e.text,tags:=Qbf e.text,price:=e.val,born:=if s.born then s.item.born else e.at_ }⟩
 else if e.kind=12 then⟨e.at_,s.born,{ s.item with stock:=e.val }⟩
 else⟨e.at_,s.born,{ s.item with listed:=false }⟩
def Qfj(row:List St)(e:Ev):St:=Qce (row.getLast?.getD (Qi4 e.item)) e
def Qfn(rows:Bj->List St)(e:Ev):Bj->List St:=Qm6 rows e.item (rows e.item++[Qfj (rows e.item) e])
def Qy(cs:List Ev):Bj->List St:=cs.foldl Qfn (fun _=>[])
theorem Qbg(cs e):Qy (cs++[e])=Qfn (Qy cs) e:=by unfold Qy;rw[Zv];rfl
theorem Qgi(s e):(Qce s e).at_=e.at_:=by unfold Qce;split<;>(try split)<;>rfl
def Rise(l:List Ev):Prop:=l.Pairwise (fun a b=>Q5 a b=true)
theorem Qz2{a b}(h:Q5 a b=true):a.at_<=b.at_:=by rw[Qfc]at h;omega
theorem Q5q{a b c}(h:Q5 a b=true)(k:Q5 b c=true):Q5 a c=true:=by
 cases e:Q5 a c with
 |true=>rfl
 |false =>
  have d:=Qbo.asymm _ _ h;have:=Qbo.trans c a b e d;rw[k]at this;cases this
theorem Xb2{l e}(h:Rise l)(d:l=[]\/Q5 (Qe2 l) e=true):Rise (l++[e]):=by
 unfold Rise at*;rw[Z7];refine⟨h,by simp,fun a c b f=>?_⟩;simp at f;subst f;rcases d with rfl|d
 .simp at c
 .rcases Zbo l with rfl|⟨g,z,j⟩
  .simp at c
  .have k:l=g++[z]:=Su j;subst k;have i:Qe2 (g++[z])=z:=by simp[Qe2]
   rw[i]at d;rcases Zj.1 c with c|c
   .exact Q5q ((Z7.1 h).2.2 a c z (by simp)) d
   .simp at c;subst c;exact d
theorem Xb1{l e}(h:Rise (l++[e])):l=[]\/Q5 (Qe2 l) e=true:=by
 rcases Zbo l with rfl|⟨a,z,c⟩
 .exact .inl rfl
 .have d:l=a++[z]:=Su c;subst d;have b:Qe2 (a++[z])=z:=by simp[Qe2]
  rw[b];exact .inr ((Z7.1 h).2.2 z (by simp) e (by simp))
theorem Qme:∀(cs:List Ev),Rise cs->∀name,(Qy cs name).Pairwise (fun a b=>a.at_<=b.at_)/\∀s∈Qy cs name,∃e∈cs,s.at_=e.at_/\e.item=name:=by
 refine Qw ?_ ?_
 .intro _ name;simp[Qy]
 .intro cs e n h name;have l:Rise cs:=(Z7.1 h).1;have o:=(Z7.1 h).2.2;rw[Qbg];unfold Qfn Qm6
  by_cases j:name=e.item
  .rw[if_pos j];subst j;obtain⟨k,i⟩:=n l e.item;refine⟨Z7.2 ⟨k,by simp,fun a u b m=>?_⟩,fun s c=>?_⟩
   .simp at m;subst m;obtain⟨d,g,f,_⟩:=i a u;unfold Qfj;rw[Qgi,f];exact Qz2 (o d g e (by simp))
   .rcases Zj.1 c with c|c
    .obtain⟨d,g,f,r⟩:=i s c;exact⟨d,by simp[g],f,r⟩
    .simp at c;subst c;exact⟨e,by simp,Qgi _ _,rfl⟩
  .rw[if_neg j];obtain⟨k,i⟩:=n l name;exact⟨k,fun s c=>by obtain⟨d,g,f⟩:=i s c;exact⟨d,by simp[g],f⟩⟩
def stN(row:List St)(t:Int):Nat:=(row.takeWhile (fun s=>decide (s.at_<=t))).length
def Xz(cs:List Ev)(name:Bj)(t:Int):It×Bool:=match (Qy cs name)[stN (Qy cs name) t-1]? with
 |some s=>if stN (Qy cs name) t=0 then(Qb0,false) else(s.item,true)
 |none=>(Qb0,false)
theorem Q6x{row t}(v:row.Pairwise (fun a b=>a.at_<=b.at_)){k}(r:k<=row.length)(j:k=0\/∃s,row[k-1]?=some s/\s.at_<=t)(l:k=row.length\/∃s,row[k]?=some s/\t<s.at_):stN row t=k:=by
 unfold stN
 have m:∀s∈row.take k,decide (s.at_<=t)=true:=by
  intro s c;obtain⟨i,o,rfl⟩:=Za2 c;simp at o;simp only[List.getElem_take,decide_eq_true_eq];rcases j with rfl|⟨w,f,u⟩
  .omega
  .have d:k-1<row.length:=(Zi.1 f).1;rw[Zb d]at f;have h:row[k-1]=w:=Su f
   by_cases e:i=k-1
   .subst e;rw[h];exact u
   .have:=Zaz.1 v i (k-1) Om d Om;rw[h]at this;omega
 have n:(row.drop k).takeWhile (fun s=>decide (s.at_<=t))=[]:=by
  rcases l with rfl|⟨s,c,d⟩
  .simp
  .have g:k<row.length:=(Zi.1 c).1;rw[Zak g,List.takeWhile_cons];have:row[k]=s:=by rw[Zb g]at c;simpa using c
   rw[this,if_neg (by simp;omega)]
 conv=>lhs;rw[<- Zag k row]
 rw[Zco m,n];simp[r]
theorem Q0q(g c)(x:c≠[])(n)(q:Nat->Bool)(w)(B:n<1000000000000)
 (y:∀i,i<n->∀w1,Ext w w1->Cal Tryz.prog g (Vj (i:Nat)::c) w1 fun r s=>r=.bool (q i)/\Ext w1 s) :
 Cal Tryz.prog 126 [Vj n,.func (.func g) #[] c.toArray] w fun r w'=>∃k:Nat,r=Vj (k:Nat)/\k<=n/\(k=0\/q (k-1)=false)/\(k=n\/q k=true)/\Ext w w':=by
 obtain⟨u,v,rfl⟩:=Zbs x;refine Fi Tryz.func126 rfl _ rfl rfl (Hh ?_)
 refine Qh Qb (fun(p:Nat×Nat) w'=>p.1<=p.2/\p.2<=n/\(p.1=0\/q (p.1-1)=false)/\(p.2=n\/q p.2=true)/\Ext w w')
  (fun|(i,j)=>[(1,.func (.func g) #[] (u::v).toArray),(5,Vj (i:Nat)),(6,Vj (j:Nat))]) (fun p=>p.2-p.1) (0,n) ⟨by simp,by simp,.inl rfl,.inl rfl,Ext.refl _⟩ Rr ?_
 rintro ⟨i,j⟩ w1 ⟨A,f,d,e,b⟩;simp only at A f d e;refine Hh ?_;constructor
 .intro m;have m:i<j:=Su m;obtain⟨h,z⟩:∃h,h=(i+j)/2:=⟨_,rfl⟩;refine Hh ?_;refine⟨((i+j:Nat):Int),Qbc Om,Hh ?_⟩;refine⟨((i+j:Nat):Int),Qso Om,Hh ?_⟩;refine⟨(h:Int),by rw[z];exact Qln _,Hh ?_⟩;refine⟨(h:Int),Qsn Om,Hh ?_⟩;refine(y h Om w1 b).mono ?_;rintro _ s ⟨rfl,o⟩;refine Hh ?_;constructor
  .intro a;have a:q h=false:=Su a;refine Hh ?_;refine⟨_,wrap_succ Om,Hh ?_⟩;exact⟨(h+1,j),Sj,⟨Sj,f,.inr (Su a),e,b.trans o⟩,Rr⟩
  .intro a;have a:q h=true:=Su a;refine Hh ?_;exact⟨(i,h),Sj,⟨Sj,Sj,d,.inr a,b.trans o⟩,Rr⟩
 .intro l;have l:j<=i:=Su l;obtain rfl:i=j:=Om;refine Hh ?_;exact⟨i,rfl,f,d,e,b⟩
def Xk4(cs:List Ev)(a:Nat):List Value:= .bool (!cs.isEmpty)::(evC (Qe2 cs)++[.map (some a)])
structure Xng(w:World)(S:Nat->Prop)(p:Nat)(cs:List Ev)(bm:Nat)(L:List (Bj×(Option Addr×Nat))):Prop where
 mine:S p
 rise:Rise cs
 head:At w p 226 (Xk4 cs bm)
 rows:Qbu stC 9 229 w (fun k=>S k/\k≠p) bm (Qy cs) L
def Qgl(w:World)(S:Nat->Prop)(p:Nat)(cs:List Ev):Prop:=∃a L,Xng w S p cs a L
theorem Qgl.keep{w w1 S S' p cs}(h:Qgl w S p cs)(a:∀k,k<w.heap.size->S k->w1.heap[k]?=w.heap[k]? /\ S' k):Qgl w1 S' p cs:=by
 obtain⟨c,L,h⟩:=h;refine⟨c,L,(a p h.head.lt h.mine).2,h.rise,(a p h.head.lt h.mine).1.trans h.head,h.rows.keep fun k d b=>?_⟩;obtain⟨e,f⟩:=a k d b.1;exact⟨e,f,b.2⟩
theorem Qgl.ext{w w1 S p cs}(h:Qgl w S p cs)(hx:Ext w w1):Qgl w1 S p cs:=h.keep fun k a b=>⟨hx.block k a,b⟩
theorem Qyf:Tryz.prog.underlying 224=some (.map 9 223):=by kernel_rfl
theorem Xd:Tryz.prog.underlying 9=some .string:=by kernel_rfl
theorem Qoi(w):Cal Tryz.prog 90 [] w fun r w'=>∃p,r=Pj p/\Qgl w' (fun k=>w.heap.size<=k) p []/\Ext w w':=by
 refine Fi Tryz.func90 rfl _ rfl rfl (Hh ?_);intro d j a;refine Hh ?_;intro c l b;refine Hh ?_;refine⟨c,rfl,⟨d,[],?_,List.Pairwise.nil,b.At,?_⟩,a.ext.trans b.ext⟩
 .rw[b.block];exact a.ext.size
 .have g:=a.block;have h:=b.block;have i:=a.size;exact(Qbu.new (S:=fun k=>w.heap.size<=k/\k≠c) a ⟨Om,Om⟩).keep fun k e f=>⟨b.ext.block k e,f⟩
theorem Qy2(row A c b d t i)(hi:i<row.length)(w)(e:At w b 3 [Vj t])(f:At w d 223 [.slice A row.length c])(h:Sl stC 9 w A row) :
 Cal Tryz.prog 127 [Vj (i:Nat),Pj d,Pj b] w fun r w'=>r=.bool (decide (t<(row[i]).at_))/\Ext w w':=by
 refine Fi Tryz.func127 rfl _ rfl rfl (Hh ?_);refine Dr .same [0,1,2,3,4,5,6,7] [] (Hh ?_);obtain⟨a,rfl,g⟩:=h.get hi;refine⟨_,f.one0,Hh ?_⟩;refine⟨a,Ix,Hh ?_⟩;refine⟨_,cells_at g (k:=0) rfl,Hh ?_⟩;refine⟨_,e.one0,Hh ?_⟩;exact⟨rfl,(Ext.refl _).drew⟩
theorem Xa(w S p cs)(h:Qgl w S p cs)(name t)(ah:(Qy cs name).length<1000000000000) :
 Cal Tryz.prog 64 [Pj p,.string name,Vj t] w fun r w'=>r=.tuple #[.agg (itC (Xz cs name t).1).toArray,.bool (Xz cs name t).2]/\Ext w w':=by
 obtain⟨R,L,h⟩:=h;have al:=(Qme cs h.rise name).1;refine Fi Tryz.func64 rfl _ rfl rfl (Hh ?_);intro n ay u;refine Hh ?_;intro z F f;have y:=u.ext.trans f.ext;have ak:=h.head.ext y;have N:=h.rows.keep (w1:=F) (S':=fun k=>S k/\k≠p) fun k ab ao=>⟨y.block k ab,ao⟩
 refine Hh ?_;refine⟨.map (some R),ak.one rfl,Hh ?_⟩;refine⟨_,N.look Qyf Xd (e:=ty223) ty223_ok rfl name Qs,Hh ?_⟩;have aj:=(N.own name).1;generalize an:Qy cs name=row at*;generalize (rowAt L name).1=A at*;generalize (rowAt L name).2=c at*;intro o ar g;refine Hh ?_;refine Qc Qb (e:=ty223) rfl g.At rfl rfl rfl Oj fun m H ai=>?_
 have av:z<ar.heap.size:=by have:=f.At.lt;have:=g.ext.size;omega
 have ax:z≠o:=by have:=f.At.lt;rw[g.block];omega
 have au:n<F.heap.size:=by have:=u.At.lt;have:=f.ext.size;omega
 have aw:n≠o:=by rw[g.block];omega
 have x:Ext F m:=ai.ext g.ext (by rw[g.block];exact Zf _);have U:At m n 3 [Vj t]:=(u.At.ext f.ext).ext x;have I:At m z 152 (itC Qb0):=(f.At (t:=152) (l:=itC Qb0)).ext x;have B:At m o 223 [.slice A row.length c]:=H;have O:Sl stC 9 m A row:=(aj.ext x).sl Qqa;clear H;refine Hh ?_;refine⟨_,B.one0,Hh ?_⟩;refine(Q0q 127 [Pj o,Pj n] (by simp) row.length (fun i=>decide (t<(row.getD i ⟨0,false,Qb0⟩).at_)) m ah ?_).mono ?_
 .intro i K w5 d;refine(Qy2 row A c n o t i K w5 (U.ext d) (B.ext d) (O.ext d)).mono ?_;rintro r P ⟨rfl,aq⟩;exact⟨by rw[Zbt,Zb K];rfl,aq⟩
 rintro _ w5 ⟨k,rfl,ag,ac,ae,d⟩
 have af:stN row t=k:=by
  refine Q6x al ag ?_ ?_
  .rcases ac with b|b
   .exact .inl b
   .by_cases E:k=0
    .exact .inl E
    .refine .inr ⟨row[k-1]'Om,Zb _,?_⟩;rw[Zbt,Zb Om]at b;simp at b;exact b
  .rcases ae with b|b
   .exact .inl b
   .by_cases E:k=row.length
    .exact .inl E
    .refine .inr ⟨row[k]'Om,Zb _,?_⟩;rw[Zbt,Zb Om]at b;simp at b;exact b
 have J:Xz cs name t=match row[k-1]? with|some s=>if k=0 then(Qb0,false) else(s.item,true)|none=>(Qb0,false):=(by unfold Xz;rw[an,af])
 refine Hh ?_;constructor
 .intro b;have b:k=0:=by simp at b;omega
  have Y:Xz cs name t=(Qb0,false):=(by rw[J];cases row[k-1]?<;>simp[b]);refine Hh ?_;refine Qc Qb (e:=ty152) rfl (I.ext d) rfl rfl rfl Oj fun P C D=>?_
  refine Hh ?_;refine⟨itC Qb0,⟨rfl,C.all⟩,Hh ?_⟩;refine⟨by rw[Y],D.ext (y.trans (x.trans d)) ?_⟩;rw[f.block];exact u.ext.size
 .intro b;have b:0<k:=by simp at b;omega
  have M:k-1<row.length:=Om;have Z:Xz cs name t=((row[k-1]).item,true):=(by rw[J,Zb M];simp;omega);obtain⟨a,V,W⟩:=(O.ext d).get M;subst V;refine Hh ?_;refine⟨_,(B.ext d).one0,Hh ?_⟩;refine⟨((k-1:Nat):Int),wrap_eq Om ⟨Om,Om⟩,Hh ?_⟩;refine⟨a,Ix,Hh ?_⟩;refine⟨itC (row[k-1]).item,⟨rfl,?_⟩,?_⟩
  .intro j v aa;rw[Q9]
   have:=W (2+j) v (by
    show (stC row[k-1])[2+j]?=some v
    rw[<- aa,Zdc];rfl)
   exact this
  refine Hh ?_;refine Qc Qb (e:=ty152) rfl (I.ext d) rfl rfl rfl (by simp[Qg,itC,Value.oneCell']) fun P C D=>?_
  refine Hh ?_;refine⟨itC (row[k-1]).item,⟨rfl,C.all⟩,Hh ?_⟩;refine⟨by rw[Z],D.ext (y.trans (x.trans d)) ?_⟩;rw[f.block];exact u.ext.size
theorem Q2b{a b}:Qc5 a b=1↔b<a:=by unfold Qc5;split<;>(try split)<;>omega
theorem Xes{a b}:Qcp a b=1↔bLt b a=true:=by
 unfold Qcp;split
 .rename_i h;rw[Qdq h];simp
 .split
  .rename_i h;simp[h]
  .rename_i h;simp[h]
theorem Q18{a b}(h:Q5 b a=true):Qj4 a b=1:=by
 rw[Qfc]at h;unfold Qj4;rcases h with h|⟨e,h|⟨g,i⟩⟩
 .have:Qc5 a.at_ b.at_=1:=Q2b.2 h;rw[this];simp
 .have c:Qc5 a.at_ b.at_=0:=Qes.2 e.symm;have d:Qcp a.src b.src=1:=Xes.2 h;rw[c,d];simp
 .have c:Qc5 a.at_ b.at_=0:=Qes.2 e.symm;have d:Qcp a.src b.src=0:=Qb5.2 g.symm;have f:Qc5 a.num b.num=1:=Q2b.2 i;rw[c,d,f];simp
theorem At.sub{w}{b t:Nat}{pre cs post}(h:At w b t (pre++(cs++post))):Xq w ((⟨b,0,none⟩:Addr).add pre.length) cs:=fun a v c=>by
 have d:a<cs.length:=(Zi.1 c).1;rw[Q9,Q7,h.cell,Z8 Om,show pre.length+a-pre.length=a by omega,Zy d,c]
theorem Qpa(cs e):Qe2 (cs++[e])=e:=by simp[Qe2]
theorem Q40(cs)(e:Ev):(cs++[e]).isEmpty=false:=by cases cs<;>rfl
theorem Xmi:Tryz.prog.underlying 223=some (.slice 229):=by kernel_rfl
set_option maxHeartbeats 2000000 in
theorem Qj3(w S p cs)(h:Qgl w S p cs)(hg:Gl w)(hS:∀k,S k->10<=k)(e)(hm:Xy e=true)(hk:e.kind=11\/e.kind=12\/e.kind=13)(ht:e.text.size<1000000)(hl:cs=[]\/Q5 (Qe2 cs) e=true)(hlen:(Qy cs e.item).length<1000000) :
 Cal Tryz.prog 102 [Pj p,evV e] w fun r w'=>r=.bool true/\Qgl w' (Grow S w) p (cs++[e])/\Mod S w w':=by
 obtain⟨bm,L,h⟩:=h;have hplt:=h.head.lt;refine Fi Tryz.func102 rfl _ rfl rfl (Hh ?_);intro b1 w1 hn1;have hb1:=hn1.At;have hb1p:b1≠p:=by rw[hn1.block];omega
 have hb1l:w.heap.size<=b1:=by rw[hn1.block];exact Zf _
 refine Hh ?_;refine⟨evC e,⟨rfl,hb1.all⟩,Hh ?_⟩;refine(Qki e w1 (hg.ext hn1.ext) Om).mono ?_;rintro _ w2 ⟨rfl,hx2⟩;have hb2:=hb1.ext hx2;have hxx2:=hn1.ext.trans hx2;refine Hh ?_;refine⟨_,fun _=>hb2.one rfl,Hh ?_⟩;refine⟨_,fun _ _=>hb2.one rfl,Hh ?_⟩;refine⟨_,fun _ _=>hb2.one rfl,Hh ?_⟩;have hcond:((!Xy e)||(((!decide (e.kind=11))&&(!decide (e.kind=12)))&&(!decide (e.kind=13))))=false:=(by rw[hm];rcases hk with hk|hk|hk<;>simp[hk]);constructor
 .intro hc;have hc:=hcond.symm.trans hc;cases hc
 intro _;clear hcond;refine Hh ?_;refine Dr .same [0,1,2,3,4,5,6,7,8,9] [10,11,12] (Hh ?_);have hb3:At w2.drew b1 _ _:=hb2;have hx3:Ext w w2.drew:=hxx2.drew;generalize w2.drew=w3 at hb3 hx3⊢;have hp3:=h.head.ext hx3;refine⟨_,hp3.one0,Hh ?_⟩;refine⟨evC e,fun _=>⟨rfl,hb3.all⟩,Hh ?_⟩;refine⟨evC (Qe2 cs),fun _=>⟨rfl,At.sub (pre:= [.bool (!cs.isEmpty)]) hp3⟩,Hh ?_⟩;refine⟨Unit,fun _=>Vj (Qj4 e (Qe2 cs)),fun _ w'=>Ext w3 w',(),fun _=>(Qbh e (Qe2 cs) w3).mono (fun r w' h=>⟨(),h.1,h.2⟩),fun _ w4 h4=>?_⟩
 have hx34:Ext w3 w4:=by
  rcases h4 with⟨_,h⟩|⟨_,h⟩
  .exact h
  .rw[h];exact Ext.refl _
 clear h4
 have hcond:((!cs.isEmpty)&&(!decide (Qj4 e (Qe2 cs)=1)))=false:=by
  rcases hl with rfl|hl
  .rfl
  .rw[Q18 hl];simp
 refine Hh ?_;constructor
 .intro hc;have hc:=hcond.symm.trans hc;cases hc
 intro _;clear hcond;have hx4:=hx3.trans hx34;have hb4:=hb3.ext hx34;have hp4:=h.head.ext hx4;refine Hh ?_;refine Qdt (.mods (fun k=>k=p)) [(0,true),(1,false),(2,false),(3,true),(4,true)] [5,6,7] [8] [5,8] Qb mixed Kr (by first|(intro h;cases h;done)|(intro _;rfl)) (Hh ?_);replace hb4:At w4.drew b1 _ _:=hb4;replace hp4:At w4.drew p _ _:=hp4;replace hx4:Ext w w4.drew:=hx4.drew;generalize w4.drew=w5 at hb4 hp4 hx4⊢;refine⟨evC e,⟨rfl,hb4.all,hb1p⟩,Hh ?_⟩;refine Qc Qb (e:=ty4) rfl hp4 rfl rfl rfl Oj fun w6 h6 ho6=>?_
 refine⟨Qj ho6 rfl,Hh ?_⟩;refine Qc Qb (e:=ty69) rfl h6 rfl rfl rfl (Qbn e) fun w7 h7 ho7=>?_
 have hp7:At w7 p 226 (Xk4 (cs++[e]) bm):=(by unfold Xk4;rw[Qpa,Q40];exact h7);have hb7:=ho7.at_ (ho6.at_ hb4 hb1p) hb1p;have hm7:Mod S w w7:=(Mod.of_ext hx4).trans ((Qj ho6 h.mine).trans (Qj ho7 h.mine));have hrows:Qbu stC 9 229 w7 (fun k=>S k/\k≠p) bm (Qy cs) L:=h.rows.keep fun k hk1 hk2=>(by refine⟨?_,hk2⟩;rw[ho7.block k hk2.2,ho6.block k hk2.2,hx4.block k hk1])
 clear h7 ho7 h6 ho6 hp4 hb4 hx4 hx34 hx3 hb3 hp3 hb2 hxx2 hx2;refine Hh ?_;refine Dr .same [0,1,2,3,4,5,6,7] [] (Hh ?_);replace hp7:At w7.drew p _ _:=hp7;replace hb7:At w7.drew b1 _ _:=hb7;replace hm7:Mod S w w7.drew:=hm7.trans (Mod.drew _);replace hrows:Qbu stC 9 229 w7.drew (fun k=>S k/\k≠p) bm (Qy cs) L:=hrows.keep fun k _ hk2=>⟨rfl,hk2⟩
 generalize w7.drew=w8 at hp7 hb7 hm7 hrows⊢;refine⟨.map (some bm),hp7.one rfl,Hh ?_⟩;refine⟨_,hb7.one rfl,Hh ?_⟩;refine⟨_,hrows.look Qyf Xd (e:=ty223) ty223_ok rfl e.item Qs,Hh ?_⟩;refine⟨_,hb7.one rfl,Hh ?_⟩;intro b6 w9 hn9;refine Hh ?_;refine Qc Qb (e:=ty229) rfl hn9.At rfl rfl rfl (Q07 (Qi4 e.item)) fun w10 h10 ho10=>?_
 have hb6:w8.heap.size=b6:=hn9.block.symm;have hs8:=hm7.size;have h10':At w10 b6 229 (stC (Qi4 e.item)):=h10;have hx10:Ext w8 w10:=ho10.ext hn9.ext Om;clear h10;have hrl:=hrows.own e.item;generalize hrow:Qy cs e.item=row at*;generalize hA:(rowAt L e.item).1=A at*;generalize hC:(rowAt L e.item).2=c at*;refine Hh ?_
 -- the last state
 refine Xi Qb (ι:=Unit) (fun _=>[(0,Pj p),(3,Pj b1),(5,.slice A row.length c),(6,Pj b6)])
  (fun _ w'=>Ext w8 w'/\At w' b6 229 (stC (row.getLast?.getD (Qi4 e.item)))) ?_ ?_
 . (conv=>whnf)
   constructor
   .intro hpos;have hpos:0<row.length:=by simp at hpos;omega
    obtain⟨a,hA',hc⟩:=((hrl.1.ext hx10).sl Qqa).get (k:=row.length-1) Om;subst hA';have hlast:row.getLast?.getD (Qi4 e.item)=row[row.length-1]:=(by rw[List.getLast?_eq_getElem?,Zb Om];rfl);refine Hh ?_;refine⟨((row.length-1:Nat):Int),wrap_eq Om ⟨Om,Om⟩,Hh ?_⟩;refine⟨a,Ix,Hh ?_⟩;refine⟨stC row[row.length-1],⟨rfl,hc⟩,Hh ?_⟩;refine Qc Qb (e:=ty229) rfl h10' rfl rfl rfl (Q07 _) fun w11 h11 ho11=>?_
    refine Hh ?_;refine⟨(),⟨ho11.ext hx10 Om,?_⟩,Rr⟩;rw[hlast];exact h11
   .intro hpos;have hpos:row=[]:=(by rw[<- Zao];simp at hpos;simpa using hpos);refine Hh ?_;refine⟨(),⟨hx10,?_⟩,Rr⟩;rw[hpos];exact h10'
 rintro _ w11 ⟨hx11,h11⟩;generalize hs0:row.getLast?.getD (Qi4 e.item)=s0 at*;clear h10' ho10 hx10 hn9 hn1;have hb11:=hb7.ext hx11;refine Hh ?_;refine⟨_,hb11.one rfl,Hh ?_⟩;refine Qc Qb (e:=ty3) rfl h11 rfl rfl rfl Oj fun w12 h12 ho12=>?_
 have hx12:=ho12.ext hx11 Om;have hb12:=hb7.ext hx12;have hne:b1≠b6:=by have:=hb7.lt;omega
 have h12':At w12 b6 229 (stC { s0 with at_:=e.at_ }):=h12;clear h12 h11 ho12;refine Hh ?_
 refine Xi Qb (ι:=Unit) (fun _=>[(0,Pj p),(3,Pj b1),(5,.slice A row.length c),(6,Pj b6)])
  (fun _ w'=>Ext w8 w'/\At w' b6 229 (stC (Qce s0 e))) ?_ ?_
 . (conv=>whnf)
   refine⟨_,hb12.one rfl,Hh ?_⟩;refine⟨fun k1=>?_,fun k1=>?_⟩
   .have k1:e.kind=11:=Su k1;refine Hh ?_;refine Qc Qb (e:=ty4) rfl h12' rfl rfl rfl Oj fun w13 h13 ho13=>?_
    have hx13:=ho13.ext hx12 Om;have hb13:=hb7.ext hx13;refine Hh ?_;refine⟨_,hb13.one rfl,Hh ?_⟩;refine(Qnn e.text w13 (((hg.mod hm7 hS)).ext hx13) Om).mono ?_;rintro _ w14 ⟨rfl,hx14'⟩;have hx14:=hx13.trans hx14';have h14:=h13.ext hx14';refine Hh ?_;refine Qc Qb (e:=ty9) rfl h14 rfl rfl rfl Oj fun w15 h15 ho15=>?_
    have hx15:=ho15.ext hx14 Om;refine Hh ?_;refine Qc Qb (e:=ty9) rfl h15 rfl rfl rfl Oj fun w16 h16 ho16=>?_
    have hx16:=ho16.ext hx15 Om;have hb16:=hb7.ext hx16;refine Hh ?_;refine⟨_,hb16.one rfl,Hh ?_⟩;refine Qc Qb (e:=ty3) rfl h16 rfl rfl rfl Oj fun w17 h17 ho17=>?_
    have hx17:=ho17.ext hx16 Om;have hb17:=hb7.ext hx17;have h17':At w17 b6 229 (stC ⟨e.at_,s0.born,{ s0.item with listed:=true,maker:=Qcw e.text,tags:=Qbf e.text,price:=e.val }⟩):=h17;clear h17 h16 h15 h14 h13;refine Hh ?_;refine⟨.bool s0.born,h17'.one rfl,Hh ?_⟩;constructor
    .intro hb;have hb:s0.born=false:=Su hb;refine Hh ?_;refine Qdt (.mods (fun k=>k=b6)) [(0,false),(1,false),(2,true)] [3,4,5] [6] [3,6] Qb mixed Kr (by first|(intro h;cases h;done)|(intro _;rfl)) (Hh ?_);refine⟨_,⟨hb17.one rfl,by rw[add_block];exact hne⟩,Hh ?_⟩;refine Qc Qb (e:=ty4) (w:=w17.drew) rfl h17' rfl rfl rfl Oj fun w18 h18 ho18=>?_
     refine⟨Qj ho18 rfl,Hh ?_⟩;refine Qc Qb (e:=ty3) rfl h18 rfl rfl rfl Oj fun w19 h19 ho19=>?_
     refine Hh ?_;refine⟨(),⟨ho19.ext (ho18.ext hx17.drew Om) Om,?_⟩,Rr⟩;unfold Qce;rw[if_pos k1,hb];exact h19
    .intro hb;have hb:s0.born=true:=Su hb;refine Hh ?_;refine⟨(),⟨hx17,?_⟩,Rr⟩;unfold Qce;rw[if_pos k1,hb];rw[hb]at h17';exact h17'
   have k1:¬e.kind=11:=Su k1;refine Hh ?_;refine⟨fun k2=>?_,fun k2=>?_⟩
   .have k2:e.kind=12:=Su k2;refine Hh ?_;refine⟨_,hb12.one rfl,Hh ?_⟩;refine Qc Qb (e:=ty3) rfl h12' rfl rfl rfl Oj fun w13 h13 ho13=>?_
    refine Hh ?_;refine⟨(),⟨ho13.ext hx12 Om,?_⟩,Rr⟩;unfold Qce;rw[if_neg k1,if_pos k2];exact h13
   have k2:¬e.kind=12:=Su k2;refine Hh ?_;refine⟨fun k3=>?_,fun k3=>?_⟩
   . (conv=>whnf)
     refine Qc Qb (e:=ty4) rfl h12' rfl rfl rfl Oj fun w13 h13 ho13=>?_
     refine Hh ?_;refine⟨(),⟨ho13.ext hx12 Om,?_⟩,Rr⟩;unfold Qce;rw[if_neg k1,if_neg k2];exact h13
   .have k3:¬e.kind=13:=Su k3;omega
 rintro _ w13 ⟨hx13,h13⟩;have hb13:=hb7.ext hx13;have hp13:=hp7.ext hx13;have hr13:=hrows.keep (w1:=w13) (S':=fun k=>S k/\k≠p) fun k hk1 hk2=>⟨hx13.block k hk1,hk2⟩
 have hm13:Mod S w w13:=hm7.trans (Mod.of_ext hx13);clear h12' hx12 hb12 hx11 hb11;refine Hh ?_;refine Dr (.mods (fun k=>∃a,A=some a/\k=a.block)) [0,1,2,3,4,5,6,7,8,9] [10] (Hh ?_);replace hb13:At w13.drew b1 _ _:=hb13;replace hp13:At w13.drew p _ _:=hp13;replace h13:At w13.drew b6 _ _:=h13;replace hr13:Qbu stC 9 229 w13.drew (fun k=>S k/\k≠p) bm (Qy cs) L:=hr13.keep fun k _ hk2=>⟨rfl,hk2⟩
 replace hm13:Mod S w w13.drew:=hm13.trans (Mod.drew _);have hb6l:w8.heap.size<=w13.drew.heap.size:=hx13.drew.size;generalize w13.drew=w14 at hb13 hp13 h13 hr13 hm13 hb6l⊢;have hAblk:∀a,A=some a->(S a.block/\a.block≠p)/\a.block≠bm/\a.block<w8.heap.size:=fun a ha=>⟨(hrl.2 a ha).1,(hrl.2 a ha).2,(hrl.1.block ha).2⟩
 have hb1lt:=hb7.lt
 have hnb:∀k,k=p\/k=b6\/k=b1->¬∃a,A=some a/\k=a.block:=by
  rintro k hk' ⟨a,ha,rfl⟩;obtain⟨⟨q1,q2⟩,q3,q4⟩:=hAblk a ha
  have hold:w.heap.size<=a.block->False:=by
   intro hge
   -- rows lie below the old heap's end
   have:=(h.rows.own e.item);rw[hA]at this;have:=(this.1.block ha).2;omega
  rcases hk' with h'|h'|h'
  .exact q2 h'
  .omega
  .exact hold Om
 refine⟨.map (some bm),⟨hp13.one rfl,by rw[add_block];exact hnb p (.inl rfl)⟩,Hh ?_⟩;refine⟨_,⟨hb13.one rfl,by rw[add_block];exact hnb b1 (.inr (.inr rfl))⟩,Hh ?_⟩;refine⟨stC (Qce s0 e),⟨rfl,h13.all,hnb b6 (.inr (.inl rfl))⟩,Hh ?_⟩;intro b15 w15 hn15;refine⟨Mod.of_ext hn15.ext,Hh ?_⟩;have hown15:Own stC 9 229 0 w15 A c row:=(by have:=(hr13.own e.item).1;rw[hA,hC,hrow]at this;exact this.ext hn15.ext);refine Qek (news:= [Qce s0 e]) ty229_ok Xmi by229 rfl rfl (by decide) Qqa Q07 hown15 (Qai Qqa hn15) (by simp;omega) (by simp;omega) (Zt _) ?_;intro A' c' w16 hown16 hg16 hA16;refine⟨Xn hg16 fun k hk'=>?_,?_⟩
 .cases A with
  |none=>simp at hk'
  |some a=>exact⟨a,rfl,Su hk'.symm⟩
 refine Hh ?_
 have hbm16:MapAt w16 bm Value.string (toV (Qy cs) L):=by
  refine(hr13.map.ext hn15.ext).keep (hg16.block bm (hr13.map.ext hn15.ext).lt ?_);intro e'
  cases A with
  |none=>simp at e'
  |some a=>exact(hAblk a rfl).2.1 (Su e'.symm)
 refine Qx Qyf (Qr Xd) hbm16 e.item _ fun w17 hm17 ho17=>?_
 refine Hh ?_;have hbmp:bm≠p:=hr13.mine.2
 have hp17:At w17 p 226 (Xk4 (cs++[e]) bm):=by
  have h1:=hp13.ext hn15.ext
  have h2:At w16 p 226 (Xk4 (cs++[e]) bm):=(hg16.block p h1.lt (fun e'=>by
   cases A with
   |none=>simp at e'
   |some a=>exact(hAblk a rfl).1.2 (Su e'.symm))).trans h1
  exact ho17.at_ h2 (Ne.symm hbmp)
 have hpush:=hr13.push (k:=e.item) (r:=row++[Qce s0 e]) (by simp) hn15.ext (by rw[hA];exact hg16) (by rw[hA];exact hA16) hown16 hm17 ho17;have hplt14:p<w14.heap.size:=hp13.lt;refine⟨rfl,⟨bm,Xe L e.item (A',c'),.inl h.mine,Xb2 h.rise hl,hp17,?_⟩,?_⟩
 .rw[Qbg];unfold Qfn;rw[hrow];have:Qfj row e=Qce s0 e:=by unfold Qfj;rw[hs0]
  rw[this];refine hpush.keep fun k _ hk2=>⟨rfl,?_⟩
  rcases hk2 with hk2|hk2
  .exact⟨.inl hk2.1,hk2.2⟩
  .exact⟨.inr (by have:=hm13.size;omega),Om⟩
 .refine Qn hm13 ((Mod.of_ext hn15.ext).trans ((Xn hg16 fun k hk'=>?_).trans (Qj ho17 (.inl h.rows.mine.1))))
  cases A with
  |none=>simp at hk'
  |some a =>
   have:k=a.block:=Su hk'.symm;rw[this];exact .inl (hAblk a rfl).1.1
section
variable {κ:Type}[DecidableEq κ]{β:Type}
def Xj(f:β->Value)(L:List (κ×β)):List (κ×Value):=L.map fun x=>(x.1,f x.2)
theorem Qlf(f k):∀L:List (κ×β),Qe (Xj f L) k=(Qe L k).map f
 |[]=>rfl
 |x::L=>by
  simp only[Xj,Zm,Qe]
  by_cases e:k=x.1
  .rw[if_pos e,if_pos e];rfl
  .rw[if_neg e,if_neg e];exact Qlf f k L
theorem Xc(f k v):∀L:List (κ×β),Xe (Xj f L) k (f v)=Xj f (Xe L k v)
 |[]=>rfl
 |x::L=>by
  simp only[Xj,Zm,Xe]
  by_cases e:k=x.1
  .rw[if_pos e,if_pos e];rfl
  .rw[if_neg e,if_neg e,Zm];congr 1;exact Xc f k v L
theorem Xt(f:β->Value)(k:κ)(L d):(Qe (Xj f L) k).getD (f d)=f ((Qe L k).getD d):=by
 rw[Qlf];cases Qe L k<;>rfl
end
abbrev LK:=Bj×Bj
def Qqp(k:LK):List Value:= [.string k.1,.string k.2]
def lnk(k:LK):Value:= .agg (Qqp k).toArray
theorem Qbe:Qu6 Tryz.prog 296 lnk:=
 Qij (encl:=Qqp) Qb st296 (fun k=>rfl)
  (fun a b=>by
   show some (decide (a.1=b.1)&&(decide (a.2=b.2)&&true))=some (decide (a=b))
   rw[Zdg];congr 1
   by_cases c:a.1=b.1<;>by_cases d:a.2=b.2<;>simp[Prod.ext_iff,c,d])
  (fun k=>by simp[Instr.sameBits,Qqp,Go.MapKept.bytes_beq])
structure Cw where
 done:List (LK×Bool)
 shown:List (LK×Int)
 hidden:List (LK×Bool)
 follows:List (LK×Bool)
 mutes:List (LK×Bool)
 liked:List (LK×Bool)
 fans:List (Bj×Int)
structure CwB where
 done:Nat
 shown:Nat
 hidden:Nat
 follows:Nat
 mutes:Nat
 liked:Nat
 fans:Nat
def CwB.all(b:CwB):List Nat:= [b.done,b.shown,b.hidden,b.follows,b.mutes,b.liked,b.fans]
abbrev vi:Int->Value:=Value.int .i64
structure Qeo(w:World)(b:CwB)(c:Cw):Prop where
 done:MapAt w b.done lnk (Xj Value.bool c.done)
 shown:MapAt w b.shown lnk (Xj vi c.shown)
 hidden:MapAt w b.hidden lnk (Xj Value.bool c.hidden)
 follows:MapAt w b.follows lnk (Xj Value.bool c.follows)
 mutes:MapAt w b.mutes lnk (Xj Value.bool c.mutes)
 liked:MapAt w b.liked lnk (Xj Value.bool c.liked)
 fans:MapAt w b.fans Value.string (Xj vi c.fans)
theorem Qeo.keep{w w' b c}(h:Qeo w b c)(a:∀k∈b.all,w'.heap[k]?=w.heap[k]?):Qeo w' b c:=
 ⟨h.done.keep (a _ (by simp[CwB.all])),h.shown.keep (a _ (by simp[CwB.all])),h.hidden.keep (a _ (by simp[CwB.all])),h.follows.keep (a _ (by simp[CwB.all])),
  h.mutes.keep (a _ (by simp[CwB.all])),h.liked.keep (a _ (by simp[CwB.all])),h.fans.keep (a _ (by simp[CwB.all]))⟩
theorem Qeo.lt{w b c}(h:Qeo w b c):∀k∈b.all,k<w.heap.size:=by
 intro k a;simp only[CwB.all,Zr,Zcl,or_false]at a;rcases a with rfl|rfl|rfl|rfl|rfl|rfl|rfl
 .exact h.done.lt
 .exact h.shown.lt
 .exact h.hidden.lt
 .exact h.follows.lt
 .exact h.mutes.lt
 .exact h.liked.lt
 .exact h.fans.lt
theorem Qeo.ext{w w' b c}(h:Qeo w b c)(hx:Ext w w'):Qeo w' b c:=h.keep fun k a=>hx.block k (h.lt k a)
theorem Xw{b:CwB}(h:b.all.Nodup){i j x y:Nat}(hi:b.all[i]?=some x)(d:b.all[j]?=some y)(c:i≠j):x≠y:=by
 rintro rfl;have a:i<b.all.length:=(Zi.1 hi).1;exact c ((List.getElem?_inj a h).1 (hi.trans d.symm))
theorem Qeo.upd_done{w w' b c}(h:Qeo w b c)(a:b.all.Nodup)(e:Only w w' b.done){d}(f:MapAt w' b.done lnk (Xj Value.bool d)):Qeo w' b { c with done:=d }:=
 ⟨f,h.shown.only e (Xw a (i:=1) (j:=0) rfl rfl (by decide)),h.hidden.only e (Xw a (i:=2) (j:=0) rfl rfl (by decide)),h.follows.only e (Xw a (i:=3) (j:=0) rfl rfl (by decide)),h.mutes.only e (Xw a (i:=4) (j:=0) rfl rfl (by decide)),h.liked.only e (Xw a (i:=5) (j:=0) rfl rfl (by decide)),h.fans.only e (Xw a (i:=6) (j:=0) rfl rfl (by decide))⟩
theorem Qeo.upd_shown{w w' b c}(h:Qeo w b c)(a:b.all.Nodup)(e:Only w w' b.shown){d}(f:MapAt w' b.shown lnk (Xj vi d)):Qeo w' b { c with shown:=d }:=
 ⟨h.done.only e (Xw a (i:=0) (j:=1) rfl rfl (by decide)),f,h.hidden.only e (Xw a (i:=2) (j:=1) rfl rfl (by decide)),h.follows.only e (Xw a (i:=3) (j:=1) rfl rfl (by decide)),h.mutes.only e (Xw a (i:=4) (j:=1) rfl rfl (by decide)),h.liked.only e (Xw a (i:=5) (j:=1) rfl rfl (by decide)),h.fans.only e (Xw a (i:=6) (j:=1) rfl rfl (by decide))⟩
theorem Qeo.upd_hidden{w w' b c}(h:Qeo w b c)(a:b.all.Nodup)(e:Only w w' b.hidden){d}(f:MapAt w' b.hidden lnk (Xj Value.bool d)):Qeo w' b { c with hidden:=d }:=
 ⟨h.done.only e (Xw a (i:=0) (j:=2) rfl rfl (by decide)),h.shown.only e (Xw a (i:=1) (j:=2) rfl rfl (by decide)),f,h.follows.only e (Xw a (i:=3) (j:=2) rfl rfl (by decide)),h.mutes.only e (Xw a (i:=4) (j:=2) rfl rfl (by decide)),h.liked.only e (Xw a (i:=5) (j:=2) rfl rfl (by decide)),h.fans.only e (Xw a (i:=6) (j:=2) rfl rfl (by decide))⟩
theorem Qeo.upd_follows{w w' b c}(h:Qeo w b c)(a:b.all.Nodup)(e:Only w w' b.follows){d}(f:MapAt w' b.follows lnk (Xj Value.bool d)):Qeo w' b { c with follows:=d }:=
 ⟨h.done.only e (Xw a (i:=0) (j:=3) rfl rfl (by decide)),h.shown.only e (Xw a (i:=1) (j:=3) rfl rfl (by decide)),h.hidden.only e (Xw a (i:=2) (j:=3) rfl rfl (by decide)),f,h.mutes.only e (Xw a (i:=4) (j:=3) rfl rfl (by decide)),h.liked.only e (Xw a (i:=5) (j:=3) rfl rfl (by decide)),h.fans.only e (Xw a (i:=6) (j:=3) rfl rfl (by decide))⟩
theorem Qeo.upd_mutes{w w' b c}(h:Qeo w b c)(a:b.all.Nodup)(e:Only w w' b.mutes){d}(f:MapAt w' b.mutes lnk (Xj Value.bool d)):Qeo w' b { c with mutes:=d }:=
 ⟨h.done.only e (Xw a (i:=0) (j:=4) rfl rfl (by decide)),h.shown.only e (Xw a (i:=1) (j:=4) rfl rfl (by decide)),h.hidden.only e (Xw a (i:=2) (j:=4) rfl rfl (by decide)),h.follows.only e (Xw a (i:=3) (j:=4) rfl rfl (by decide)),f,h.liked.only e (Xw a (i:=5) (j:=4) rfl rfl (by decide)),h.fans.only e (Xw a (i:=6) (j:=4) rfl rfl (by decide))⟩
theorem Qeo.upd_liked{w w' b c}(h:Qeo w b c)(a:b.all.Nodup)(e:Only w w' b.liked){d}(f:MapAt w' b.liked lnk (Xj Value.bool d)):Qeo w' b { c with liked:=d }:=
 ⟨h.done.only e (Xw a (i:=0) (j:=5) rfl rfl (by decide)),h.shown.only e (Xw a (i:=1) (j:=5) rfl rfl (by decide)),h.hidden.only e (Xw a (i:=2) (j:=5) rfl rfl (by decide)),h.follows.only e (Xw a (i:=3) (j:=5) rfl rfl (by decide)),h.mutes.only e (Xw a (i:=4) (j:=5) rfl rfl (by decide)),f,h.fans.only e (Xw a (i:=6) (j:=5) rfl rfl (by decide))⟩
theorem Qeo.upd_fans{w w' b c}(h:Qeo w b c)(a:b.all.Nodup)(e:Only w w' b.fans){d:List (Bj×Int)}(f:MapAt w' b.fans Value.string (Xj vi d)):Qeo w' b { c with fans:=d }:=
 ⟨h.done.only e (Xw a (i:=0) (j:=6) rfl rfl (by decide)),h.shown.only e (Xw a (i:=1) (j:=6) rfl rfl (by decide)),h.hidden.only e (Xw a (i:=2) (j:=6) rfl rfl (by decide)),h.follows.only e (Xw a (i:=3) (j:=6) rfl rfl (by decide)),h.mutes.only e (Xw a (i:=4) (j:=6) rfl rfl (by decide)),h.liked.only e (Xw a (i:=5) (j:=6) rfl rfl (by decide)),f⟩
def thing(e:Ev):LK:=(e.person,e.item)
def mkr(e:Ev):LK:=(e.person,e.text)
def Qdy(c:Cw)(e:Ev):Cw:=
 if e.kind=0 then { c with shown:=Xe c.shown (thing e) ((Qe c.shown (thing e)).getD 0+1) }
 else if e.kind=2\/e.kind=3 then { c with done:=Xe c.done (thing e) true }
 else if e.kind=5\/e.kind=6 then { c with hidden:=Xe c.hidden (thing e) (decide (e.kind=5)) }
 else if e.kind=7\/e.kind=8 then { c with follows:=Xe c.follows (mkr e) (decide (e.kind=7)) }
 else if e.kind=9\/e.kind=10 then { c with mutes:=Xe c.mutes (mkr e) (decide (e.kind=9)) }
 else c
def Qt5(c:Cw)(e:Ev):Cw:=
 if 0<Qz e/\(Qe c.liked (thing e)).getD false=false then { c with liked:=Xe c.liked (thing e) true,fans:=Xe c.fans e.item ((Qe c.fans e.item).getD 0+1) } else c
def Qee(c:Cw)(e:Ev):Cw:=Qt5 (Qdy c e) e
structure Qhg(c:Cw)(n:Int):Prop where
 shown:∀k,0<=(Qe c.shown k).getD 0/\(Qe c.shown k).getD 0<=n
 fans:∀k,0<=(Qe c.fans k).getD 0/\(Qe c.fans k).getD 0<=n
theorem Qrc{κ:Type}[DecidableEq κ]{L}{n:Int}(h:∀k,0<=(Qe L k).getD 0/\(Qe L k).getD 0<=n)(k:κ):∀a,0<=(Qe (Xe L k ((Qe L k).getD 0+1)) a).getD 0/\(Qe (Xe L k ((Qe L k).getD 0+1)) a).getD 0<=n+1:=by
 intro a;rw[Xr];have:=h k;have:=h a;split
 .simp;omega
 .omega
theorem Qhg.mono{c n m}(h:Qhg c n)(a:n<=m):Qhg c m:=⟨fun k=>⟨(h.shown k).1,by have:=(h.shown k).2;omega⟩,fun k=>⟨(h.fans k).1,by have:=(h.fans k).2;omega⟩⟩
theorem Qjj{c n}(h:Qhg c n)(e):(∀k,0<=(Qe (Qdy c e).shown k).getD 0/\(Qe (Qdy c e).shown k).getD 0<=n+1)/\(Qdy c e).fans=c.fans/\(Qdy c e).liked=c.liked:=by
 unfold Qdy;have a:∀k,0<=(Qe c.shown k).getD 0/\(Qe c.shown k).getD 0<=n+1:=fun k=>⟨(h.shown k).1,by have:=(h.shown k).2;omega⟩
 split
 .exact⟨Qrc h.shown _,rfl,rfl⟩
 .split
  .exact⟨a,rfl,rfl⟩
  .split
   .exact⟨a,rfl,rfl⟩
   .split
    .exact⟨a,rfl,rfl⟩
    .split<;>exact⟨a,rfl,rfl⟩
theorem Q51{c n}(h:Qhg c n)(e):Qhg (Qee c e) (n+1):=by
 obtain⟨a,b,f⟩:=Qjj h e;have d:∀k,0<=(Qe c.fans k).getD 0/\(Qe c.fans k).getD 0<=n+1:=fun k=>⟨(h.fans k).1,by have:=(h.fans k).2;omega⟩
 unfold Qee Qt5;split
 .refine⟨a,?_⟩;rw[b];exact Qrc h.fans _
 .refine⟨a,?_⟩;rw[b];exact d
theorem Xaq{a b}(h:lnk a=lnk b):a=b:=by
 unfold lnk Qqp at h;injection h with h;have c:=congrArg Array.toList h;simp at c;exact Prod.ext c.1 c.2
theorem Qgz{κ:Type}{enc}(hi:∀{a b:κ},enc a=enc b->a=b):∀{E c:List (Ent κ)},E.map (mkE enc)=c.map (mkE enc)->strip E=strip c
 |[],[],_=>rfl
 |[],_::_,h=>by simp at h
 |_::_,[],h=>by simp at h
 |x::E,y::c,h=>by
  simp only[Zm,Zc4]at h;have e:enc x.1=enc y.1:=congrArg MapEntry.key h.1;have f:x.2.1=y.2.1:=congrArg MapEntry.val h.1;have d:=Qgz hi h.2;unfold strip at d⊢;rw[Zm,Zm,d,hi e,f]
def crC(half n:Int)(last:Ev)(a:Nat)(b:CwB):List Value:=vi half::vi n::(evC last++[.map (some a),.map (some b.done),.map (some b.shown),.map (some b.hidden),.map (some b.follows),.map (some b.mutes),.map (some b.liked),.map (some b.fans)])
theorem Qiu:Tryz.prog.underlying 252=some (.map 296 4):=by kernel_rfl
theorem Xgx:Tryz.prog.underlying 253=some (.map 296 3):=by kernel_rfl
theorem Xg2:Tryz.prog.underlying 125=some (.map 9 3):=by kernel_rfl
def Qe6{κ:Type}[DecidableEq κ](b:Nat)(enc:κ->Value)(k:κ)(z:Value)(w w':World):Prop:=Mod (fun c=>c=b) w w'/\∀L,MapAt w b enc L->∃a,MapAt w' b enc a/\(Qe a k).getD z=(Qe L k).getD z
theorem Qz6{κ:Type}[DecidableEq κ](b enc)(k:κ)(z):(∀w,Qe6 b enc k z w w)/\∀a c d,Qe6 b enc k z a c->Qe6 b enc k z c d->Qe6 b enc k z a d:=
 ⟨fun w=>⟨Mod.refl _ _,fun L h=>⟨L,h,rfl⟩⟩,fun a c d e f=>⟨e.1.trans f.1,fun L h=>by
  obtain⟨g,j,l⟩:=e.2 L h;obtain⟨i,m,n⟩:=f.2 g j;exact⟨i,m,n.trans l⟩⟩⟩
abbrev Xmm{κ:Type}[DecidableEq κ](b:Nat)(enc:κ->Value)(k:κ)(z:Value):Cl:= .gen (Qe6 b enc k z) (Qz6 b enc k z)
theorem Xli{κ:Type}[DecidableEq κ]{b enc}{k:κ}{z w a v}(h:w.cell? a=some v)(c:a.block≠b):∀w',Qe6 b enc k z w w'->w'.cell? a=some v:=fun w' d=>Mod.cell d.1 h c
theorem Xlh{κ:Type}[DecidableEq κ]{b enc}{k:κ}{z w a cs}(h:Xq w a cs)(c:a.block≠b):∀w',Qe6 b enc k z w w'->Xq w' a cs:=fun w' e f v d=>Mod.cell e.1 (h f v d) (by rw[add_block];exact c)
theorem Qz5{κ:Type}[DecidableEq κ]{P mt c a b enc}{k:κ}{w L}(h:P.underlying mt=some (.map c a))(K:Qu6 P c enc){e}(f:Xb P a=some e)(g:MapAt w b enc L) :
 RdS P (Xmm b enc k e.zero) w (Instr.lookup mt (.map (some b)) (enc k) false) ((Qe L k).getD e.zero):=fun d i=>by
 obtain⟨m,j,l⟩:=(show Qe6 b enc k e.zero w d from i).2 L g;have:=Qht h K (Ql8 f d) j k false;rw[<- l];simpa using this
set_option maxHeartbeats 400000 in
theorem Xba(w pc half n last bp b c)(bz:At w pc 255 (crC half n last bp b))(bx:Qeo w b c)(D:(pc::b.all).Nodup)(e N)(aw:Qhg c N)(cc:N<1000000000000) :
 Cal Tryz.prog 165 [Pj pc,evV e] w fun r w'=>r=.tuple #[]/\Qeo w' b (Qee c e)/\Mod (fun k=>k∈b.all) w w':=by
 have cf:=bz.lt;have bo:=bx.lt;have br:∀k∈b.all,pc≠k:=fun k ak b4=>(Zbp.1 D).1 (b4▸ak)
 replace D:b.all.Nodup:=(Zbp.1 D).2;refine Fi Tryz.func165 rfl _ rfl rfl (Hh ?_);intro u M an;have a7:=an.At;have cd:u=w.heap.size:=an.block;have cg:=an.size;refine Hh ?_;refine Qhl (.mods (fun k=>M.heap.size<=k)) (Pl.seq [0,1,2,3,4,5,6,7,8,9] (Pl.two 10 (Pl.seq [11,12,13] Pl.done) 11 (Pl.seq [10,12,13] Pl.done))) (by intro h;cases h) Qb mixed Kr (Hh ?_);have ax:At M.drew u _ _:=a7;have bq:¬(M.heap.size<=u):=Om;refine⟨_,⟨ax.one rfl,by rw[add_block];exact bq⟩,Hh ?_⟩;refine⟨_,⟨ax.one rfl,by rw[add_block];exact bq⟩,Hh ?_⟩;refine⟨_,⟨ax.one rfl,by rw[add_block];exact bq⟩,Hh ?_⟩;refine⟨_,⟨ax.one rfl,by rw[add_block];exact bq⟩,Hh ?_⟩;have ch:M.drew.heap.size=M.heap.size:=rfl;refine⟨?_,?_⟩
 .intro l b9 P;refine⟨Mod.of_ext P.ext,Hh ?_⟩;intro A b2 J;refine⟨Mod.of_ext J.ext,Hh ?_⟩;have b5:=P.block;have b6:=J.block;have ca:=P.size;have cb:=J.size;have bj:l≠A:=Om;have bd:M.heap.size<=l:=Om;have be:M.heap.size<=A:=Om;have a4:=P.At.ext J.ext;have a5:=J.At;have bm:Ext M b2:=((Ext.refl M).drew.trans P.ext).trans J.ext;clear P J;refine Qc Qb (e:=ty296) rfl a4 rfl rfl rfl Oj fun w5 a3 ac=>?_
  refine⟨Qj ac bd,Hh ?_⟩;refine Qc Qb (e:=ty296) rfl (ac.at_ a5 (Ne.symm bj)) rfl rfl rfl Oj fun a y ae=>?_
  refine⟨Qj ae be,?_⟩;have ar:Ext M a:=ae.ext (ac.ext bm bd) be;have m:At a l 296 (Qqp (thing e)):=ae.at_ a3 bj;replace y:At a A 296 (Qqp (mkr e)):=y;have v:=a7.ext ar;have ag:Ext w a:=an.ext.trans ar;have j:=bz.ext ag;have d:=bx.ext ag;clear a3 ac ae a4 a5 bm an a7 ax;refine Hh ?_
  refine Xi Qb (ι:=Unit) (fun _=>[(0,Pj pc),(3,Pj u),(4,Pj l),(5,Pj A)])
   (fun _ w'=>Qeo w' b (Qdy c e)/\Mod (fun k=>k∈b.all) a w') ?_ ?_
  . (conv=>whnf)
    refine⟨_,v.one rfl,Hh ?_⟩;refine⟨fun B=>?_,fun B=>?_⟩
    .have B:e.kind=0:=Su B;refine Hh ?_;refine Qdt (Xmm b.shown lnk (thing e) (Vj 0)) [(0,true),(1,true),(2,true),(3,true),(4,true),(5,false),(6,false)] [7,8] [9] [7,9] Qb mixed Kr (by first|(intro h;cases h;done)|(intro _;rfl)) (Hh ?_);replace m:At a.drew l _ _:=m;replace j:At a.drew pc _ _:=j;replace d:Qeo a.drew b c:=d.keep fun _ _=>rfl
     refine⟨_,j.one rfl,Hh ?_⟩;refine⟨Qqp (thing e),⟨rfl,m.all⟩,Hh ?_⟩;refine⟨_,Qz5 Xgx Qbe (e:=ty3) ty3_ok d.shown,?_⟩;rw[show (Qe (Xj vi c.shown) (thing e)).getD ty3.zero=vi ((Qe c.shown (thing e)).getD 0) from Xt vi _ _ 0];have bl:=aw.shown (thing e);refine Hh ?_;refine⟨(Qe c.shown (thing e)).getD 0+1,wrap_eq rfl ⟨Om,Om⟩,Hh ?_⟩;refine Qpg Xgx Qbe (e:=ty3) ty3_ok d.shown (thing e) fun s b7 f g=>?_
     refine⟨⟨Qj g rfl,fun L bt=>?_⟩,?_⟩
     .refine⟨_,f.at_,?_⟩;rw[Q8];have bu:∀k,Qe L k=Qe (Xj vi c.shown) k:=(by obtain⟨ay,x,au,ah⟩:=bt;obtain⟨az,b3,av,b1⟩:=d.shown;have H:=au.block;rw[av.block]at H;have bs:strip az=strip ay:=(by have aj:az.map (mkE lnk)=ay.map (mkE lnk):=(by injection H with H;injection H with H _;simpa using H);exact Qgz Xaq aj);intro k;rw[<- ah,<- b1,bs]);rw[bu];rfl
     refine Hh ?_;refine Qpi f (vi ((Qe c.shown (thing e)).getD 0+1)) fun W bi S=>?_
     rw[Qdp,Xc]at bi;refine Hh ?_;refine⟨(),⟨?_,(Mod.drew _).trans ((Qj g (by simp[CwB.all])).trans (Qj S (by simp[CwB.all])))⟩,Rr⟩;unfold Qdy;rw[if_pos B];exact d.upd_shown D ⟨S.os.trans g.os,S.tape.trans g.tape,S.output.trans g.output,S.size.trans g.size,fun k bb=>(S.block k bb).trans (g.block k bb)⟩ bi
    have B:¬e.kind=0:=Su B;refine Hh ?_;refine Xi Qb (ι:=Bool) (fun i=>[(0,Pj pc),(3,Pj u),(4,Pj l),(5,Pj A),(17,Vj e.kind),(29,.bool i)]) (fun i w'=>i=(decide (e.kind=2)||decide (e.kind=3))/\w'=a) ?_ ?_
    . (conv=>whnf)
      refine⟨fun q=>?_,fun q=>?_⟩
      . (conv=>whnf)
        exact⟨_,⟨by simp at q;simp[q],rfl⟩,⟨rfl,rfl,rfl,rfl,rfl,rfl,trivial⟩⟩
      refine Hh ?_;exact⟨_,⟨by simp at q;simp[q],rfl⟩,⟨rfl,rfl,rfl,rfl,rfl,rfl,trivial⟩⟩
    rintro _ W ⟨rfl,o⟩;replace o:=o.symm;subst o;refine Hh ?_;refine⟨fun E=>?_,fun E=>?_⟩
    .have E:e.kind=2\/e.kind=3:=Su E;refine Hh ?_;refine Dr .same [0,1,2,3,4] [5] (Hh ?_);replace v:At a.drew u _ _:=v;replace m:At a.drew l _ _:=m;replace y:At a.drew A _ _:=y;replace j:At a.drew pc _ _:=j;replace d:Qeo a.drew b c:=d.keep fun _ _=>rfl
     refine⟨_,j.one rfl,Hh ?_⟩;refine⟨Qqp (thing e),⟨rfl,m.all⟩,Hh ?_⟩;refine Qx Qiu Qbe d.done (thing e) (.bool true) fun s f g=>?_
     rw[Xc]at f;refine Hh ?_;refine⟨(),⟨?_,(Mod.drew _).trans (Qj g (by simp[CwB.all]))⟩,Rr⟩;unfold Qdy;rw[if_neg B,if_pos E];exact(d.upd_done D g f)
    have E:¬(e.kind=2\/e.kind=3):=Su E;refine Hh ?_;refine Xi Qb (ι:=Bool) (fun i=>[(0,Pj pc),(3,Pj u),(4,Pj l),(5,Pj A),(17,Vj e.kind),(37,.bool i)]) (fun i w'=>i=(decide (e.kind=5)||decide (e.kind=6))/\w'=a) ?_ ?_
    . (conv=>whnf)
      refine⟨fun q=>?_,fun q=>?_⟩
      . (conv=>whnf)
        exact⟨_,⟨by simp at q;simp[q],rfl⟩,⟨rfl,rfl,rfl,rfl,rfl,rfl,trivial⟩⟩
      refine Hh ?_;exact⟨_,⟨by simp at q;simp[q],rfl⟩,⟨rfl,rfl,rfl,rfl,rfl,rfl,trivial⟩⟩
    rintro _ W ⟨rfl,o⟩;replace o:=o.symm;subst o;refine Hh ?_;refine⟨fun I=>?_,fun I=>?_⟩
    .have I:e.kind=5\/e.kind=6:=Su I;refine Hh ?_;refine Dr .same [0,1,2,3,4,5,6,7] [8] (Hh ?_);replace v:At a.drew u _ _:=v;replace m:At a.drew l _ _:=m;replace y:At a.drew A _ _:=y;replace j:At a.drew pc _ _:=j;replace d:Qeo a.drew b c:=d.keep fun _ _=>rfl
     refine⟨_,j.one rfl,Hh ?_⟩;refine⟨Qqp (thing e),⟨rfl,m.all⟩,Hh ?_⟩;refine⟨_,v.one rfl,Hh ?_⟩;refine Qx Qiu Qbe d.hidden (thing e) (.bool (decide (e.kind=5))) fun s f g=>?_
     rw[Xc]at f;refine Hh ?_;refine⟨(),⟨?_,(Mod.drew _).trans (Qj g (by simp[CwB.all]))⟩,Rr⟩;unfold Qdy;rw[if_neg B,if_neg E,if_pos I];exact(d.upd_hidden D g f)
    have I:¬(e.kind=5\/e.kind=6):=Su I;refine Hh ?_;refine Xi Qb (ι:=Bool) (fun i=>[(0,Pj pc),(3,Pj u),(4,Pj l),(5,Pj A),(17,Vj e.kind),(48,.bool i)]) (fun i w'=>i=(decide (e.kind=7)||decide (e.kind=8))/\w'=a) ?_ ?_
    . (conv=>whnf)
      refine⟨fun q=>?_,fun q=>?_⟩
      . (conv=>whnf)
        exact⟨_,⟨by simp at q;simp[q],rfl⟩,⟨rfl,rfl,rfl,rfl,rfl,rfl,trivial⟩⟩
      refine Hh ?_;exact⟨_,⟨by simp at q;simp[q],rfl⟩,⟨rfl,rfl,rfl,rfl,rfl,rfl,trivial⟩⟩
    rintro _ W ⟨rfl,o⟩;replace o:=o.symm;subst o;refine Hh ?_;refine⟨fun K=>?_,fun K=>?_⟩
    .have K:e.kind=7\/e.kind=8:=Su K;refine Hh ?_;refine Dr .same [0,1,2,3,4,5,6,7] [8] (Hh ?_);replace v:At a.drew u _ _:=v;replace m:At a.drew l _ _:=m;replace y:At a.drew A _ _:=y;replace j:At a.drew pc _ _:=j;replace d:Qeo a.drew b c:=d.keep fun _ _=>rfl
     refine⟨_,j.one rfl,Hh ?_⟩;refine⟨Qqp (mkr e),⟨rfl,y.all⟩,Hh ?_⟩;refine⟨_,v.one rfl,Hh ?_⟩;refine Qx Qiu Qbe d.follows (mkr e) (.bool (decide (e.kind=7))) fun s f g=>?_
     rw[Xc]at f;refine Hh ?_;refine⟨(),⟨?_,(Mod.drew _).trans (Qj g (by simp[CwB.all]))⟩,Rr⟩;unfold Qdy;rw[if_neg B,if_neg E,if_neg I,if_pos K];exact(d.upd_follows D g f)
    have K:¬(e.kind=7\/e.kind=8):=Su K;refine Hh ?_;refine Xi Qb (ι:=Bool) (fun i=>[(0,Pj pc),(3,Pj u),(4,Pj l),(5,Pj A),(17,Vj e.kind),(59,.bool i)]) (fun i w'=>i=(decide (e.kind=9)||decide (e.kind=10))/\w'=a) ?_ ?_
    . (conv=>whnf)
      refine⟨fun q=>?_,fun q=>?_⟩
      . (conv=>whnf)
        exact⟨_,⟨by simp at q;simp[q],rfl⟩,⟨rfl,rfl,rfl,rfl,rfl,rfl,trivial⟩⟩
      refine Hh ?_;exact⟨_,⟨by simp at q;simp[q],rfl⟩,⟨rfl,rfl,rfl,rfl,rfl,rfl,trivial⟩⟩
    rintro _ W ⟨rfl,o⟩;replace o:=o.symm;subst o;refine Hh ?_;refine⟨fun V=>?_,fun V=>?_⟩
    .have V:e.kind=9\/e.kind=10:=Su V;refine Hh ?_;refine Dr .same [0,1,2,3,4,5,6,7] [8] (Hh ?_);replace v:At a.drew u _ _:=v;replace m:At a.drew l _ _:=m;replace y:At a.drew A _ _:=y;replace j:At a.drew pc _ _:=j;replace d:Qeo a.drew b c:=d.keep fun _ _=>rfl
     refine⟨_,j.one rfl,Hh ?_⟩;refine⟨Qqp (mkr e),⟨rfl,y.all⟩,Hh ?_⟩;refine⟨_,v.one rfl,Hh ?_⟩;refine Qx Qiu Qbe d.mutes (mkr e) (.bool (decide (e.kind=9))) fun s f g=>?_
     rw[Xc]at f;refine Hh ?_;refine⟨(),⟨?_,(Mod.drew _).trans (Qj g (by simp[CwB.all]))⟩,Rr⟩;unfold Qdy;rw[if_neg B,if_neg E,if_neg I,if_neg K,if_pos V];exact(d.upd_mutes D g f)
    have V:¬(e.kind=9\/e.kind=10):=Su V;refine Hh ?_;refine⟨(),⟨?_,Mod.refl _ _⟩,Rr⟩;unfold Qdy;rw[if_neg B,if_neg Om,if_neg Om,if_neg Om,if_neg Om];exact d
  rintro _ s ⟨Z,f⟩
  have ao:∀k,k=pc\/w.heap.size<=k->¬k∈b.all:=by
   intro k ak a9;rcases ak with rfl|ak
   .exact br _ a9 rfl
   .have:=bo k a9;omega
  have Y:At s u _ _:=v.mod f (ao u (.inr Om));have aa:At s l _ _:=m.mod f (ao l (.inr Om));have af:At s pc _ _:=j.mod f (ao pc (.inl rfl));have ab:Mod (fun k=>k∈b.all) w s:=(Mod.of_ext ag).trans f;obtain⟨au,ah,av⟩:=Qjj aw e;have bk:Qee c e=Qt5 (Qdy c e) e:=rfl;generalize Qdy c e=x at Z au ah av bk;rw[bk];clear v m y j d f ag ar;refine Hh ?_;refine Dr .ext [0,1,2,3,4,5,6,7,8,9,10,11] [] (Hh ?_);replace Y:At s.drew u _ _:=Y;replace aa:At s.drew l _ _:=aa;replace af:At s.drew pc _ _:=af;replace Z:Qeo s.drew b x:=Z.keep fun _ _=>rfl
  replace ab:Mod (fun k=>k∈b.all) w s.drew:=ab.trans (Mod.drew _);generalize s.drew=W at Y aa af Z ab⊢;refine⟨evC e,⟨rfl,Y.all⟩,Hh ?_⟩;refine(Qc2 e W).mono ?_;rintro _ ai ⟨rfl,U⟩;refine⟨U,?_⟩;have bv:=Y.ext U;have a0:=aa.ext U;have aq:=af.ext U;have O:=Z.ext U;have bg:Mod (fun k=>k∈b.all) w ai:=ab.trans (Mod.of_ext U);refine Hh ?_;refine⟨_,fun _=>aq.one rfl,Hh ?_⟩;refine⟨Qqp (thing e),fun _=>⟨rfl,a0.all⟩,Hh ?_⟩
  refine⟨.bool ((Qe x.liked (thing e)).getD false),fun _=>(by
   have:=X5 Qiu Qbe (e:=ty4) ty4_ok (cl:= .ext) (Qii O.liked.lt) O.liked (thing e);rw[show (Qe (Xj Value.bool x.liked) (thing e)).getD ty4.zero=Value.bool ((Qe x.liked (thing e)).getD false) from Xt Value.bool _ _ false]at this;exact this),Hh ?_⟩
  constructor
  .intro C;have C:(decide (0<Qz e)&&!((Qe x.liked (thing e)).getD false))=true:=C;rw[Zk,decide_eq_true_eq,Zam]at C;refine Hh ?_;refine Dr .same [0,1,2,3,4] [5] (Hh ?_);refine⟨.map (some b.liked),show ai.drew.cell? _=_ from aq.one rfl,Hh ?_⟩;refine⟨Qqp (thing e),⟨rfl,show Xq ai.drew _ _ from a0.all⟩,Hh ?_⟩;refine Qx (w:=ai.drew) Qiu Qbe (O.liked.keep rfl) (thing e) (.bool true) fun F al z=>?_
   rw[Xc]at al;have bw:At F u _ _:=z.at_ bv (by have:=bo b.liked (by simp[CwB.all]);omega);have b0:At F pc _ _:=z.at_ aq (br _ (by simp[CwB.all]));have a8:MapAt F b.fans Value.string (Xj vi x.fans):=(O.upd_liked (w':=F) D ⟨z.os,z.tape,z.output,z.size,z.block⟩ al).fans;refine Hh ?_;refine Dr .same [0,1,2,3,4,5,6,7] [8] (Hh ?_);refine⟨.map (some b.fans),show F.drew.cell? _=_ from b0.one rfl,Hh ?_⟩;refine⟨_,show F.drew.cell? _=_ from bw.one rfl,Hh ?_⟩
   refine⟨vi ((Qe x.fans e.item).getD 0),(by
    have:=X5 Xg2 (Qr Xd) (e:=ty3) ty3_ok (cl:= .same) Qs (a8.keep (w':=F.drew) rfl) e.item;rw[show (Qe (Xj vi x.fans) e.item).getD ty3.zero=vi ((Qe x.fans e.item).getD 0) from Xt vi _ _ 0]at this;exact this),Hh ?_⟩
   have bl:=aw.fans e.item;rw[<- ah]at bl;refine⟨(Qe x.fans e.item).getD 0+1,wrap_eq rfl ⟨Om,Om⟩,Hh ?_⟩;refine Qx (w:=F.drew) Xg2 (Qr Xd) (a8.keep rfl) e.item (vi ((Qe x.fans e.item).getD 0+1)) fun b8 bh R=>?_
   rw[Xc]at bh;refine Hh ?_;refine⟨rfl,?_,bg.trans ((Mod.drew _).trans ((Qj z (by simp[CwB.all])).trans ((Mod.drew _).trans (Qj R (by simp[CwB.all])))))⟩;unfold Qt5;rw[if_pos C];exact(O.upd_liked (w':=F) D ⟨z.os,z.tape,z.output,z.size,z.block⟩ al).upd_fans D ⟨R.os,R.tape,R.output,R.size,R.block⟩ bh
  .intro C;have C:(decide (0<Qz e)&&!((Qe x.liked (thing e)).getD false))=false:=C;refine Hh ?_;refine⟨rfl,?_,bg⟩;unfold Qt5
   rw[if_neg (by
    rintro ⟨H,aj⟩;rw[aj,decide_eq_true H]at C;cases C)]
   exact O
 .intro A b9 P;refine⟨Mod.of_ext P.ext,Hh ?_⟩;intro l b2 J;refine⟨Mod.of_ext J.ext,Hh ?_⟩;have b6:=P.block;have b5:=J.block;have ca:=P.size;have cb:=J.size;have bj:l≠A:=Om;have bd:M.heap.size<=l:=Om;have be:M.heap.size<=A:=Om;have a5:=P.At.ext J.ext;have a4:=J.At;have bm:Ext M b2:=((Ext.refl M).drew.trans P.ext).trans J.ext;clear P J;refine Qc Qb (e:=ty296) rfl a4 rfl rfl rfl Oj fun w5 a3 ac=>?_
  refine⟨Qj ac bd,Hh ?_⟩;refine Qc Qb (e:=ty296) rfl (ac.at_ a5 (Ne.symm bj)) rfl rfl rfl Oj fun a y ae=>?_
  refine⟨Qj ae be,?_⟩;have ar:Ext M a:=ae.ext (ac.ext bm bd) be;have m:At a l 296 (Qqp (thing e)):=ae.at_ a3 bj;replace y:At a A 296 (Qqp (mkr e)):=y;have v:=a7.ext ar;have ag:Ext w a:=an.ext.trans ar;have j:=bz.ext ag;have d:=bx.ext ag;clear a3 ac ae a4 a5 bm an a7 ax;refine Hh ?_
  refine Xi Qb (ι:=Unit) (fun _=>[(0,Pj pc),(3,Pj u),(4,Pj l),(5,Pj A)])
   (fun _ w'=>Qeo w' b (Qdy c e)/\Mod (fun k=>k∈b.all) a w') ?_ ?_
  . (conv=>whnf)
    refine⟨_,v.one rfl,Hh ?_⟩;refine⟨fun B=>?_,fun B=>?_⟩
    .have B:e.kind=0:=Su B;refine Hh ?_;refine Qdt (Xmm b.shown lnk (thing e) (Vj 0)) [(0,true),(1,true),(2,true),(3,true),(4,true),(5,false),(6,false)] [7,8] [9] [7,9] Qb mixed Kr (by first|(intro h;cases h;done)|(intro _;rfl)) (Hh ?_);replace m:At a.drew l _ _:=m;replace j:At a.drew pc _ _:=j;replace d:Qeo a.drew b c:=d.keep fun _ _=>rfl
     refine⟨_,j.one rfl,Hh ?_⟩;refine⟨Qqp (thing e),⟨rfl,m.all⟩,Hh ?_⟩;refine⟨_,Qz5 Xgx Qbe (e:=ty3) ty3_ok d.shown,?_⟩;rw[show (Qe (Xj vi c.shown) (thing e)).getD ty3.zero=vi ((Qe c.shown (thing e)).getD 0) from Xt vi _ _ 0];have bl:=aw.shown (thing e);refine Hh ?_;refine⟨(Qe c.shown (thing e)).getD 0+1,wrap_eq rfl ⟨Om,Om⟩,Hh ?_⟩;refine Qpg Xgx Qbe (e:=ty3) ty3_ok d.shown (thing e) fun s b7 f g=>?_
     refine⟨⟨Qj g rfl,fun L bt=>?_⟩,?_⟩
     .refine⟨_,f.at_,?_⟩;rw[Q8];have bu:∀k,Qe L k=Qe (Xj vi c.shown) k:=(by obtain⟨ay,x,au,ah⟩:=bt;obtain⟨az,b3,av,b1⟩:=d.shown;have H:=au.block;rw[av.block]at H;have bs:strip az=strip ay:=(by have aj:az.map (mkE lnk)=ay.map (mkE lnk):=(by injection H with H;injection H with H _;simpa using H);exact Qgz Xaq aj);intro k;rw[<- ah,<- b1,bs]);rw[bu];rfl
     refine Hh ?_;refine Qpi f (vi ((Qe c.shown (thing e)).getD 0+1)) fun W bi S=>?_
     rw[Qdp,Xc]at bi;refine Hh ?_;refine⟨(),⟨?_,(Mod.drew _).trans ((Qj g (by simp[CwB.all])).trans (Qj S (by simp[CwB.all])))⟩,Rr⟩;unfold Qdy;rw[if_pos B];exact d.upd_shown D ⟨S.os.trans g.os,S.tape.trans g.tape,S.output.trans g.output,S.size.trans g.size,fun k bb=>(S.block k bb).trans (g.block k bb)⟩ bi
    have B:¬e.kind=0:=Su B;refine Hh ?_;refine Xi Qb (ι:=Bool) (fun i=>[(0,Pj pc),(3,Pj u),(4,Pj l),(5,Pj A),(17,Vj e.kind),(29,.bool i)]) (fun i w'=>i=(decide (e.kind=2)||decide (e.kind=3))/\w'=a) ?_ ?_
    . (conv=>whnf)
      refine⟨fun q=>?_,fun q=>?_⟩
      . (conv=>whnf)
        exact⟨_,⟨by simp at q;simp[q],rfl⟩,⟨rfl,rfl,rfl,rfl,rfl,rfl,trivial⟩⟩
      refine Hh ?_;exact⟨_,⟨by simp at q;simp[q],rfl⟩,⟨rfl,rfl,rfl,rfl,rfl,rfl,trivial⟩⟩
    rintro _ W ⟨rfl,o⟩;replace o:=o.symm;subst o;refine Hh ?_;refine⟨fun E=>?_,fun E=>?_⟩
    .have E:e.kind=2\/e.kind=3:=Su E;refine Hh ?_;refine Dr .same [0,1,2,3,4] [5] (Hh ?_);replace v:At a.drew u _ _:=v;replace m:At a.drew l _ _:=m;replace y:At a.drew A _ _:=y;replace j:At a.drew pc _ _:=j;replace d:Qeo a.drew b c:=d.keep fun _ _=>rfl
     refine⟨_,j.one rfl,Hh ?_⟩;refine⟨Qqp (thing e),⟨rfl,m.all⟩,Hh ?_⟩;refine Qx Qiu Qbe d.done (thing e) (.bool true) fun s f g=>?_
     rw[Xc]at f;refine Hh ?_;refine⟨(),⟨?_,(Mod.drew _).trans (Qj g (by simp[CwB.all]))⟩,Rr⟩;unfold Qdy;rw[if_neg B,if_pos E];exact(d.upd_done D g f)
    have E:¬(e.kind=2\/e.kind=3):=Su E;refine Hh ?_;refine Xi Qb (ι:=Bool) (fun i=>[(0,Pj pc),(3,Pj u),(4,Pj l),(5,Pj A),(17,Vj e.kind),(37,.bool i)]) (fun i w'=>i=(decide (e.kind=5)||decide (e.kind=6))/\w'=a) ?_ ?_
    . (conv=>whnf)
      refine⟨fun q=>?_,fun q=>?_⟩
      . (conv=>whnf)
        exact⟨_,⟨by simp at q;simp[q],rfl⟩,⟨rfl,rfl,rfl,rfl,rfl,rfl,trivial⟩⟩
      refine Hh ?_;exact⟨_,⟨by simp at q;simp[q],rfl⟩,⟨rfl,rfl,rfl,rfl,rfl,rfl,trivial⟩⟩
    rintro _ W ⟨rfl,o⟩;replace o:=o.symm;subst o;refine Hh ?_;refine⟨fun I=>?_,fun I=>?_⟩
    .have I:e.kind=5\/e.kind=6:=Su I;refine Hh ?_;refine Dr .same [0,1,2,3,4,5,6,7] [8] (Hh ?_);replace v:At a.drew u _ _:=v;replace m:At a.drew l _ _:=m;replace y:At a.drew A _ _:=y;replace j:At a.drew pc _ _:=j;replace d:Qeo a.drew b c:=d.keep fun _ _=>rfl
     refine⟨_,j.one rfl,Hh ?_⟩;refine⟨Qqp (thing e),⟨rfl,m.all⟩,Hh ?_⟩;refine⟨_,v.one rfl,Hh ?_⟩;refine Qx Qiu Qbe d.hidden (thing e) (.bool (decide (e.kind=5))) fun s f g=>?_
     rw[Xc]at f;refine Hh ?_;refine⟨(),⟨?_,(Mod.drew _).trans (Qj g (by simp[CwB.all]))⟩,Rr⟩;unfold Qdy;rw[if_neg B,if_neg E,if_pos I];exact(d.upd_hidden D g f)
    have I:¬(e.kind=5\/e.kind=6):=Su I;refine Hh ?_;refine Xi Qb (ι:=Bool) (fun i=>[(0,Pj pc),(3,Pj u),(4,Pj l),(5,Pj A),(17,Vj e.kind),(48,.bool i)]) (fun i w'=>i=(decide (e.kind=7)||decide (e.kind=8))/\w'=a) ?_ ?_
    . (conv=>whnf)
      refine⟨fun q=>?_,fun q=>?_⟩
      . (conv=>whnf)
        exact⟨_,⟨by simp at q;simp[q],rfl⟩,⟨rfl,rfl,rfl,rfl,rfl,rfl,trivial⟩⟩
      refine Hh ?_;exact⟨_,⟨by simp at q;simp[q],rfl⟩,⟨rfl,rfl,rfl,rfl,rfl,rfl,trivial⟩⟩
    rintro _ W ⟨rfl,o⟩;replace o:=o.symm;subst o;refine Hh ?_;refine⟨fun K=>?_,fun K=>?_⟩
    .have K:e.kind=7\/e.kind=8:=Su K;refine Hh ?_;refine Dr .same [0,1,2,3,4,5,6,7] [8] (Hh ?_);replace v:At a.drew u _ _:=v;replace m:At a.drew l _ _:=m;replace y:At a.drew A _ _:=y;replace j:At a.drew pc _ _:=j;replace d:Qeo a.drew b c:=d.keep fun _ _=>rfl
     refine⟨_,j.one rfl,Hh ?_⟩;refine⟨Qqp (mkr e),⟨rfl,y.all⟩,Hh ?_⟩;refine⟨_,v.one rfl,Hh ?_⟩;refine Qx Qiu Qbe d.follows (mkr e) (.bool (decide (e.kind=7))) fun s f g=>?_
     rw[Xc]at f;refine Hh ?_;refine⟨(),⟨?_,(Mod.drew _).trans (Qj g (by simp[CwB.all]))⟩,Rr⟩;unfold Qdy;rw[if_neg B,if_neg E,if_neg I,if_pos K];exact(d.upd_follows D g f)
    have K:¬(e.kind=7\/e.kind=8):=Su K;refine Hh ?_;refine Xi Qb (ι:=Bool) (fun i=>[(0,Pj pc),(3,Pj u),(4,Pj l),(5,Pj A),(17,Vj e.kind),(59,.bool i)]) (fun i w'=>i=(decide (e.kind=9)||decide (e.kind=10))/\w'=a) ?_ ?_
    . (conv=>whnf)
      refine⟨fun q=>?_,fun q=>?_⟩
      . (conv=>whnf)
        exact⟨_,⟨by simp at q;simp[q],rfl⟩,⟨rfl,rfl,rfl,rfl,rfl,rfl,trivial⟩⟩
      refine Hh ?_;exact⟨_,⟨by simp at q;simp[q],rfl⟩,⟨rfl,rfl,rfl,rfl,rfl,rfl,trivial⟩⟩
    rintro _ W ⟨rfl,o⟩;replace o:=o.symm;subst o;refine Hh ?_;refine⟨fun V=>?_,fun V=>?_⟩
    .have V:e.kind=9\/e.kind=10:=Su V;refine Hh ?_;refine Dr .same [0,1,2,3,4,5,6,7] [8] (Hh ?_);replace v:At a.drew u _ _:=v;replace m:At a.drew l _ _:=m;replace y:At a.drew A _ _:=y;replace j:At a.drew pc _ _:=j;replace d:Qeo a.drew b c:=d.keep fun _ _=>rfl
     refine⟨_,j.one rfl,Hh ?_⟩;refine⟨Qqp (mkr e),⟨rfl,y.all⟩,Hh ?_⟩;refine⟨_,v.one rfl,Hh ?_⟩;refine Qx Qiu Qbe d.mutes (mkr e) (.bool (decide (e.kind=9))) fun s f g=>?_
     rw[Xc]at f;refine Hh ?_;refine⟨(),⟨?_,(Mod.drew _).trans (Qj g (by simp[CwB.all]))⟩,Rr⟩;unfold Qdy;rw[if_neg B,if_neg E,if_neg I,if_neg K,if_pos V];exact(d.upd_mutes D g f)
    have V:¬(e.kind=9\/e.kind=10):=Su V;refine Hh ?_;refine⟨(),⟨?_,Mod.refl _ _⟩,Rr⟩;unfold Qdy;rw[if_neg B,if_neg Om,if_neg Om,if_neg Om,if_neg Om];exact d
  rintro _ s ⟨Z,f⟩
  have ao:∀k,k=pc\/w.heap.size<=k->¬k∈b.all:=by
   intro k ak a9;rcases ak with rfl|ak
   .exact br _ a9 rfl
   .have:=bo k a9;omega
  have Y:At s u _ _:=v.mod f (ao u (.inr Om));have aa:At s l _ _:=m.mod f (ao l (.inr Om));have af:At s pc _ _:=j.mod f (ao pc (.inl rfl));have ab:Mod (fun k=>k∈b.all) w s:=(Mod.of_ext ag).trans f;obtain⟨au,ah,av⟩:=Qjj aw e;have bk:Qee c e=Qt5 (Qdy c e) e:=rfl;generalize Qdy c e=x at Z au ah av bk;rw[bk];clear v m y j d f ag ar;refine Hh ?_;refine Dr .ext [0,1,2,3,4,5,6,7,8,9,10,11] [] (Hh ?_);replace Y:At s.drew u _ _:=Y;replace aa:At s.drew l _ _:=aa;replace af:At s.drew pc _ _:=af;replace Z:Qeo s.drew b x:=Z.keep fun _ _=>rfl
  replace ab:Mod (fun k=>k∈b.all) w s.drew:=ab.trans (Mod.drew _);generalize s.drew=W at Y aa af Z ab⊢;refine⟨evC e,⟨rfl,Y.all⟩,Hh ?_⟩;refine(Qc2 e W).mono ?_;rintro _ ai ⟨rfl,U⟩;refine⟨U,?_⟩;have bv:=Y.ext U;have a0:=aa.ext U;have aq:=af.ext U;have O:=Z.ext U;have bg:Mod (fun k=>k∈b.all) w ai:=ab.trans (Mod.of_ext U);refine Hh ?_;refine⟨_,fun _=>aq.one rfl,Hh ?_⟩;refine⟨Qqp (thing e),fun _=>⟨rfl,a0.all⟩,Hh ?_⟩
  refine⟨.bool ((Qe x.liked (thing e)).getD false),fun _=>(by
   have:=X5 Qiu Qbe (e:=ty4) ty4_ok (cl:= .ext) (Qii O.liked.lt) O.liked (thing e);rw[show (Qe (Xj Value.bool x.liked) (thing e)).getD ty4.zero=Value.bool ((Qe x.liked (thing e)).getD false) from Xt Value.bool _ _ false]at this;exact this),Hh ?_⟩
  constructor
  .intro C;have C:(decide (0<Qz e)&&!((Qe x.liked (thing e)).getD false))=true:=C;rw[Zk,decide_eq_true_eq,Zam]at C;refine Hh ?_;refine Dr .same [0,1,2,3,4] [5] (Hh ?_);refine⟨.map (some b.liked),show ai.drew.cell? _=_ from aq.one rfl,Hh ?_⟩;refine⟨Qqp (thing e),⟨rfl,show Xq ai.drew _ _ from a0.all⟩,Hh ?_⟩;refine Qx (w:=ai.drew) Qiu Qbe (O.liked.keep rfl) (thing e) (.bool true) fun F al z=>?_
   rw[Xc]at al;have bw:At F u _ _:=z.at_ bv (by have:=bo b.liked (by simp[CwB.all]);omega);have b0:At F pc _ _:=z.at_ aq (br _ (by simp[CwB.all]));have a8:MapAt F b.fans Value.string (Xj vi x.fans):=(O.upd_liked (w':=F) D ⟨z.os,z.tape,z.output,z.size,z.block⟩ al).fans;refine Hh ?_;refine Dr .same [0,1,2,3,4,5,6,7] [8] (Hh ?_);refine⟨.map (some b.fans),show F.drew.cell? _=_ from b0.one rfl,Hh ?_⟩;refine⟨_,show F.drew.cell? _=_ from bw.one rfl,Hh ?_⟩
   refine⟨vi ((Qe x.fans e.item).getD 0),(by
    have:=X5 Xg2 (Qr Xd) (e:=ty3) ty3_ok (cl:= .same) Qs (a8.keep (w':=F.drew) rfl) e.item;rw[show (Qe (Xj vi x.fans) e.item).getD ty3.zero=vi ((Qe x.fans e.item).getD 0) from Xt vi _ _ 0]at this;exact this),Hh ?_⟩
   have bl:=aw.fans e.item;rw[<- ah]at bl;refine⟨(Qe x.fans e.item).getD 0+1,wrap_eq rfl ⟨Om,Om⟩,Hh ?_⟩;refine Qx (w:=F.drew) Xg2 (Qr Xd) (a8.keep rfl) e.item (vi ((Qe x.fans e.item).getD 0+1)) fun b8 bh R=>?_
   rw[Xc]at bh;refine Hh ?_;refine⟨rfl,?_,bg.trans ((Mod.drew _).trans ((Qj z (by simp[CwB.all])).trans ((Mod.drew _).trans (Qj R (by simp[CwB.all])))))⟩;unfold Qt5;rw[if_pos C];exact(O.upd_liked (w':=F) D ⟨z.os,z.tape,z.output,z.size,z.block⟩ al).upd_fans D ⟨R.os,R.tape,R.output,R.size,R.block⟩ bh
  .intro C;have C:(decide (0<Qz e)&&!((Qe x.liked (thing e)).getD false))=false:=C;refine Hh ?_;refine⟨rfl,?_,bg⟩;unfold Qt5
   rw[if_neg (by
    rintro ⟨H,aj⟩;rw[aj,decide_eq_true H]at C;cases C)]
   exact O
abbrev SV:=Option Addr×Nat×Nat
def Qg8(d:Ev×SV):List Value:= [.string d.1.src,Vj d.1.num,Vj d.1.at_,Vj d.1.kind,.string d.1.person,.string d.1.item,Vj d.1.val,.string d.1.text,.slice d.2.1 d.2.2.1 d.2.2.2]
theorem Qf1(d):(Qg8 d).length=9:=rfl
theorem Qf2(d):∀u∈Qg8 d,u.oneCell'=true:=by simp[Qg8,Value.oneCell']
def X3(D:List (Ev×SV))(person:Bj):List (Ev×SV):=D.filter fun d=>decide (d.1.person=person)
theorem Q4v(D e v):Qm6 (X3 D) e.person (X3 D e.person++[(e,v)])=X3 (D++[(e,v)]):=by
 funext x;unfold Qm6 X3;rw[Zq]
 by_cases h:x=e.person
 .subst h;simp
 .have a:¬e.person=x:=fun q=>h q.symm
  simp[h,a]
abbrev Row:=Ev×List Bj
def evs(rs:List Row):List Ev:=rs.map (·.1)
def Cw0:Cw:=⟨[],[],[],[],[],[],[]⟩
def Xk(rs:List Row):Cw:=(evs rs).foldl Qee Cw0
theorem Qhv(rs r):Xk (rs++[r])=Qee (Xk rs) r.1:=by unfold Xk evs;rw[Zp,Zv];rfl
theorem Qt4:∀rs:List Row,Qhg (Xk rs) rs.length:=by
 refine Qw ?_ ?_
 .exact⟨fun k=>by simp[Xk,evs,Cw0,Qe],fun k=>by simp[Xk,evs,Cw0,Qe]⟩
 .intro rs b a;rw[Qhv];have:=Q51 a b.1;simpa using this
structure Qfx(w:World)(T:Nat->Prop)(D:List (Ev×SV))(rs:List Row):Prop where
 len:D.length=rs.length
 ev:∀(i:Nat) (d:Ev×SV) (r:Row),D[i]?=some d->rs[i]?=some r->d.1=r.1/\d.2.2.1=r.2.length/\SlT w d.2.1 r.2/\∀a,d.2.1=some a->T a.block
theorem Qfx.evs{w:World}{T:Nat->Prop}{D:List (Ev×SV)}{rs:List Row}(h:Qfx w T D rs):D.map (·.1)=evs rs:=by
 apply Zb9;intro a;unfold Go.Proofs.YtnpacgccajekgaaGreatDoor.evs;rw[Zaf,Zaf];have e:=h.len
 by_cases d:a<D.length
 .have b:=Zb d;have c:=Zb (l:=rs) (i:=a) Om;rw[b,c];simp[(h.ev a _ _ b c).1]
 .rw[Zcg Om,Zcg Om];rfl
structure Q1w(w:World)(S:Nat->Prop)(p:Nat)(half:Int)(rs:List Row)(bp:Nat)(b:CwB)(D:List (Ev×SV))(L:List (Bj×(Option Addr×Nat)))(R Tg:Nat->Prop):Prop where
 mine:∀k∈p::b.all,S k
 nodup:(p::b.all).Nodup
 head:At w p 255 (crC half rs.length (Qe2 (evs rs)) bp b)
 maps:Qeo w b (Xk rs)
 rows:Qbu Qg8 9 280 w R bp (X3 D) L
 rset:∀k,R k->S k/\k<w.heap.size/\k∉p::b.all/\¬Tg k
 tset:∀k,Tg k->S k/\k<w.heap.size/\k∉p::b.all
 tags:Qfx w Tg D rs
def X7(w:World)(S:Nat->Prop)(p:Nat)(half:Int)(rs:List Row):Prop:=∃d b D L a c,Q1w w S p half rs d b D L a c
theorem Qhs{w w1:World}{k}(h:k<w.heap.size)(a:w1.heap[k]?=w.heap[k]?):k<w1.heap.size:=by
 rw[Array.getElem?_eq_getElem h]at a;exact lt_of_block a
theorem Qa7{α:Type}{enc sz w w1 A}{l:List α}(h:Sl enc sz w A l)(f:∀a,A=some a->w1.heap[a.block]?=w.heap[a.block]?):Sl enc sz w1 A l:=fun i x d=>by
 obtain⟨a,b,c⟩:=h i x d;exact⟨a,b,fun g v e=>by rw[World.cell?_of_block (w:=w) (by rw[add_block,add_block];exact f a b)];exact c g v e⟩
theorem Q1w.keep{w w1 S S' p half rs o b D L R n}(h:Q1w w S p half rs o b D L R n)
 (c:∀k,k<w.heap.size->S k->w1.heap[k]?=w.heap[k]? /\ S' k):Q1w w1 S' p half rs o b D L R n:=by
 have m:∀k∈p::b.all,k<w.heap.size:=fun k e=>by
  rcases Zr.1 e with rfl|e
  .exact h.head.lt
  .exact h.maps.lt k e
 refine⟨fun k e=>(c k (m k e) (h.mine k e)).2,h.nodup,(c p (m p (by simp)) (h.mine p (by simp))).1.trans h.head,h.maps.keep fun k e=>(c k (m k (by simp[e])) (h.mine k (by simp[e]))).1,?_,?_,?_,h.tags.len,?_⟩
 .exact h.rows.keep fun k x j=>⟨(c k x (h.rset k j).1).1,j⟩
 .intro k j;obtain⟨g,f,l⟩:=h.rset k j;exact⟨(c k f g).2,Qhs f (c k f g).1,l⟩
 .intro k j;obtain⟨g,f,l⟩:=h.tset k j;exact⟨(c k f g).2,Qhs f (c k f g).1,l⟩
 .intro i d r v y;obtain⟨g,f,l,s⟩:=h.tags.ev i d r v y;refine⟨g,f,Qa7 l fun a u=>?_,s⟩;obtain⟨z,A,_⟩:=h.tset _ (s a u);exact(c _ A z).1
theorem X7.keep{w w1 S S' p half rs}(h:X7 w S p half rs)(e:∀k,k<w.heap.size->S k->w1.heap[k]?=w.heap[k]? /\ S' k):X7 w1 S' p half rs:=by
 obtain⟨d,b,D,L,a,c,h⟩:=h;exact⟨d,b,D,L,a,c,h.keep e⟩
theorem X7.ext{w w1 S p half rs}(h:X7 w S p half rs)(hx:Ext w w1):X7 w1 S p half rs:=h.keep fun k a b=>⟨hx.block k a,b⟩
def Xf(h:Int):Int:=min (max h 1) 1099511627776
theorem Qs7(half w):Cal Tryz.prog 91 [Vj half] w fun r w'=>∃p,r=Pj p/\X7 w' (fun k=>w.heap.size<=k) p (Xf half) []/\Ext w w':=by
 refine Fi Tryz.func91 rfl _ rfl rfl (Hh ?_);intro o ak b;refine Hh ?_;intro C al c;refine Hh ?_;intro D an e;refine Hh ?_;intro E ao f;refine Hh ?_;intro F w5 g;refine Hh ?_;intro H aq j;refine Hh ?_;intro I ar l;refine Hh ?_;intro J au m;refine Hh ?_;intro K av n;refine Hh ?_;have N:=b.block;have O:=c.block;have P:=e.block;have R:=f.block;have U:=g.block;have V:=j.block;have W:=l.block;have Y:=m.block;have Z:=n.block;have aa:=b.size;have ab:=c.size;have ac:=e.size;have ae:=f.size;have af:=g.size;have ag:=j.size;have ah:=l.size;have ai:=m.size;have aj:=n.size;have B:=n.ext;have A:=m.ext.trans B;have z:=l.ext.trans A;have y:=j.ext.trans z;have x:=g.ext.trans y;have v:=f.ext.trans x;have u:=e.ext.trans v;have s:=c.ext.trans u;refine⟨K,rfl,⟨o,⟨C,D,E,F,H,I,J⟩,[],[],fun k=>k=o,fun _=>False,?_⟩,b.ext.trans s⟩;refine⟨?_,?_,n.At,⟨(MapAt.new c).ext u,(MapAt.new e).ext v,(MapAt.new f).ext x,(MapAt.new g).ext y,(MapAt.new j).ext z,(MapAt.new l).ext A,(MapAt.new m).ext B⟩,?_,?_,fun k a=>a.elim,rfl,fun i d r L=>by simp at L⟩
 .intro k a;simp only[CwB.all,Zr,Zcl,or_false]at a;omega
 .simp[CwB.all];omega
 .exact(Qbu.new (S:=fun k=>k=o) b rfl).keep fun k a M=>⟨s.block k a,M⟩
 .rintro k rfl;refine⟨Om,Om,?_,fun h=>h⟩;simp only[CwB.all,Zr,Zcl,or_false];omega
theorem Qgj:Tryz.prog.underlying 251=some (.map 9 281):=by kernel_rfl
theorem Xgw:Tryz.prog.underlying 281=some (.slice 280):=by kernel_rfl
def hist(l:List Ev)(person:Bj):List Ev:=l.filter fun e=>decide (e.person=person)
theorem Qlo{w T D rs}(h:Qfx w T D rs)(person):(X3 D person).map (·.1)=hist (evs rs) person:=by
 rw[<- h.evs];unfold X3 hist;rw[List.filter_map];rfl
theorem Qhp(w S p half rs)(h:X7 w S p half rs)(person:Bj)(ag:rs.length<1000000) :
 Cal Tryz.prog 147 [Pj p,.string person] w fun r w'=>∃A c,r=.slice A (hist (evs rs) person).length c/\Own evC 8 69 w.heap.size w' A c (hist (evs rs) person)/\Ext w w':=by
 obtain⟨C,b,D,L,R,aa,h⟩:=h;have K:=Qlo h.tags person;rw[<- K];have V:=(h.rows.own person).1;have af:(X3 D person).length<=rs.length:=(by rw[<- h.tags.len];exact Zc _ _);refine Fi Tryz.func147 rfl _ rfl rfl (Hh ?_);refine⟨.map (some C),h.head.one rfl,Hh ?_⟩;refine⟨_,h.rows.look Qgj Xd (e:=ty281) ty281_ok rfl person Qs,Hh ?_⟩;generalize X3 D person=row at*;generalize (rowAt L person).1=A at*;generalize (rowAt L person).2=c at*;have W:=V.sl Qf1
 refine Qh Qb (fun(q:Nat×Option Addr×Nat) w'=>q.1<=row.length/\Ext w w'/\Own evC 8 69 w.heap.size w' q.2.1 q.2.2 ((row.take q.1).map (·.1)))
  (fun|(k,f,g)=>[(13,.slice A row.length c),(14,Vj row.length),(15,Vj k),(5,.slice f k g)]) (fun q=>row.length-q.1) (0,none,0) ⟨by simp,Ext.refl _,Su Own.nil⟩ Rr ?_
 rintro ⟨k,f,g⟩ Z ⟨M,l,i⟩;simp only at M i;refine Hh ?_;constructor
 .intro j;have j:k<row.length:=Su j;have O:((row.take k).map (·.1)).length=k:=by simp;omega
  have x:(row.take (k+1)).map (·.1)=(row.take k).map (·.1)++[(row[k]).1]:=(by rw[Za j,Zp];rfl);obtain⟨a,I,s⟩:=(W.ext l).get j;subst I;generalize row[k]=d at s x;refine Hh ?_;refine⟨a,Ix,Hh ?_⟩;refine⟨Qg8 d,⟨rfl,s⟩,Hh ?_⟩;intro B ah n;refine Hh ?_;refine Qc Qb (e:=ty280) rfl n.At rfl rfl rfl (Qf2 d) fun y F U=>?_
  have H:At y B 280 ([]++(evC d.1++[.slice d.2.1 d.2.2.1 d.2.2.2])):=F;have ac:=n.block;have Y:Ext Z y:=U.ext n.ext Om;refine Hh ?_;refine⟨evC d.1,⟨rfl,At.sub H⟩,Hh ?_⟩;intro ab ai u;refine Hh ?_;have o:=Y.trans u.ext;have P:Value.slice f k g=.slice f ((row.take k).map (·.1)).length g:=by rw[O]
  rw[P];refine Qib (news:= [d.1]) (i.ext o) (Qai Qau u) (by simp;omega) (Zw l.size o.size) ?_;intro z E w5 v J ae;rw[<- x]at v⊢;have N:((row.take (k+1)).map (·.1)).length=k+1:=by simp;omega
  rw[N];refine Hh ?_;refine⟨_,wrap_succ Om,Hh ?_⟩;refine⟨(k+1,z,E),Sj,⟨Sj,Qu (l.trans o) J (Xhw i),v⟩,Rr⟩
 .intro m;have m:k=row.length:=by simp at m;omega
  subst m;rw[Zck]at i;refine Hh ?_;exact⟨f,g,by simp,i,l⟩
theorem Qpl:Qql Tryz.prog 29:=⟨_,Tryz.func29,rfl,rfl⟩
theorem Qs6(l A c base)(x:Bj)(w)(h:Own Qac 1 9 base w A c l)(B:l.length<1000000000000) :
 Cal Tryz.prog 29 [.slice A l.length c,.string x] w fun r w'=>r=.bool (Lib.containsS l x)/\w'=w:=by
 cases l with
 |nil =>
  refine Qae Qpl (Tryz.slices_Contains_string_empty A c x w) fun w' d=>⟨?_,d⟩
  have:Lib.containsS [] x=false:=by
   cases b:Lib.containsS [] x with
   |false=>rfl
   |true=>rw[Lib.containsS_iff]at b;simp at b
  rw[this]
 |cons y l =>
  rcases h.2 with⟨f,i⟩|⟨g,cap,u,f,b,z,v⟩
  .simp at i
  .have k:A=some ⟨g,0,none⟩:=by injection f
   subst k;have s:=Own.sl Qv h;refine Qae Qpl (Tryz.slices_Contains_string g 0 (y::l).length c (y::l) x w (Zf _) Om ?_) fun w' d=>⟨by rw[Zck],d⟩
   intro j e;obtain⟨a,m,o⟩:=s.get e;have n:(⟨g,0,none⟩:Addr)=a:=by injection m
   subst n;have:=Qp o;rw[Zbl,Q7]at this;rw[Za6,this,Zbt,Zb e];rfl
theorem Qob{w A c base l R ty}(f:Own Qac 1 9 base w A c l){B d news}(g:SlT w B news)(i:l.length+news.length<1000000000000)(e:base<=w.heap.size)
 (h:∀a b w',Own Qac 1 9 base w' a b (l++news)->w.grownBy w' (A.map (·.block))->(a=A\/a.map (·.block)=A.map (·.block)\/a.map (·.block)=some w.heap.size)->R (.slice a (l++news).length b) w') :
 Qi7 Tryz.prog (Builtin.append_ #[42,42] ty [.slice A l.length c,.slice B news.length d].toArray) w R:=
 Qek (bytes:=16) ty9_ok Xme by9 rfl rfl (by decide) Qv Qux f g Om Om e h
def Qb8(l:List Bj)(t:Bj):List Bj:=if(Qo t&&!Lib.containsS l t)=true then l++[t] else l
def Qbw(a:List Bj):List Bj:=a.foldl Qb8 []
theorem Q63(a:List Bj)(k)(h:k<a.length):Qbw (a.take (k+1))=Qb8 (Qbw (a.take k)) a[k]:=by
 unfold Qbw;rw[Za h,Zv];rfl
theorem Qya(a):(Qbw a).length<=a.length:=by
 have:∀(a b:List Bj),(a.foldl Qb8 b).length<=b.length+a.length:=by
  intro a
  induction a with
  |nil=>intro b;simp
  |cons t a c =>
   intro b;have d:=c (Qb8 b t);have e:(Qb8 b t).length<=b.length+1:=by unfold Qb8;split<;>simp
   simp only[Zaq,Zx];omega
 have:=this a [];simpa [Qbw] using this
set_option maxHeartbeats 2000000 in
theorem Qoo(w S p half rs)(h:X7 w S p half rs)(hg:Gl w)(hS:∀k,S k->10<=k)(e)(hm:Xy e=true)(hk:e.kind<11)(ht:e.text.size<1000000)(hl:rs=[]\/Q5 (Qe2 (evs rs)) e=true)(hlen:rs.length<1000000)
 (tg TA tc)(hts:SlT w TA tg)(hta:∀a,TA=some a->¬S a.block)(htl:tg.length<1000000) :
 Cal Tryz.prog 103 [Pj p,evV e,.slice TA tg.length tc] w fun r w'=>r=.bool true/\X7 w' (Grow S w) p half (rs++[(e,Qbw tg)])/\Mod S w w':=by
 obtain⟨bp,b,D,L,R,Tg,h⟩:=h;have hplt:=h.head.lt;have hSp:S p:=h.mine p (by simp);have hblt:∀k∈b.all,k<w.heap.size:=h.maps.lt;have hpn:p∉b.all:=(Zbp.1 h.nodup).1;refine Fi Tryz.func103 rfl _ rfl rfl (Hh ?_);intro b1 w1 hn1;have hb1:=hn1.At;have hb1e:b1=w.heap.size:=hn1.block;refine Hh ?_;refine⟨evC e,⟨rfl,hb1.all⟩,Hh ?_⟩;refine(Qki e w1 (hg.ext hn1.ext) Om).mono ?_;rintro _ w2 ⟨rfl,hx2⟩;have hb2:=hb1.ext hx2;have hxx2:=hn1.ext.trans hx2;have hp2:=h.head.ext hxx2;refine Hh ?_;refine⟨_,fun _=>hp2.one rfl,Hh ?_⟩;have hcond:((!Xy e)||decide (1048576<=(rs.length:Int)))=false:=(by rw[hm,decide_eq_false Om];rfl);constructor
 .intro hc;have hc:=hcond.symm.trans hc;cases hc
 intro _;clear hcond;refine Hh ?_;refine Xi Qb (ι:=Unit) (fun _=>[(0,Pj p),(4,Pj b1),(2,.slice TA tg.length tc)]) (fun _ w'=>w'=w2) ?_ ?_
 . (conv=>whnf)
   refine⟨_,hb2.one rfl,Hh ?_⟩;refine Xi Qb (ι:=Bool) (fun i=>[(0,Pj p),(4,Pj b1),(2,.slice TA tg.length tc),(22,.bool i)]) (fun i w'=>i=false/\w'=w2) ?_ ?_
   . (conv=>whnf)
     refine⟨fun q=>?_,fun q=>?_⟩
     .simp at q;omega
     refine Hh ?_;refine⟨fun q=>?_,fun q=>?_⟩
     .simp at q;omega
     refine Hh ?_;refine⟨fun q=>?_,fun q=>?_⟩
     .simp at q;omega
     refine Hh ?_;exact⟨_,⟨by simp;omega,rfl⟩,⟨rfl,rfl,rfl,rfl,trivial⟩⟩
   rintro _ w3 ⟨rfl,rfl⟩;refine Hh ?_;refine⟨fun q=>?_,fun q=>?_⟩
   .cases q
   refine Hh ?_;exact⟨(),rfl,Rr⟩
 rintro _ _ rfl;refine Hh ?_;refine Dr .same [0,1,2,3,4,5,6,7,8,9,10] [11,12,13] (Hh ?_);rename_i w2;have hb3:At w2.drew b1 _ _:=hb2;have hx3:Ext w w2.drew:=hxx2.drew;generalize w2.drew=w3 at hb3 hx3⊢;have hp3:=h.head.ext hx3;refine⟨_,hp3.one rfl,Hh ?_⟩;refine⟨evC e,fun _=>⟨rfl,hb3.all⟩,Hh ?_⟩;refine⟨evC (Qe2 (evs rs)),fun _=>⟨rfl,At.sub (pre:= [vi half,vi rs.length]) hp3⟩,Hh ?_⟩;refine⟨Unit,fun _=>Vj (Qj4 e (Qe2 (evs rs))),fun _ w'=>Ext w3 w',(),fun _=>(Qbh e (Qe2 (evs rs)) w3).mono (fun r w' h=>⟨(),h.1,h.2⟩),fun _ w4 h4=>?_⟩
 have hx34:Ext w3 w4:=by
  rcases h4 with⟨_,h⟩|⟨_,h⟩
  .exact h
  .rw[h];exact Ext.refl _
 clear h4
 have hcond:(decide (0<(rs.length:Int))&&decide (Qj4 e (Qe2 (evs rs))<=0))=false:=by
  rcases hl with rfl|hl
  .rfl
  .rw[Q18 hl];simp
 refine Hh ?_;constructor
 .intro hc;have hc:=hcond.symm.trans hc;cases hc
 intro _;clear hcond;have hx4:=hx3.trans hx34;have hb4:=hb3.ext hx34;have hp4:=h.head.ext hx4;refine Hh ?_;refine⟨_,hp4.one rfl,Hh ?_⟩;refine⟨((rs.length+1:Nat):Int),wrap_succ Om,Hh ?_⟩;refine Qc Qb (e:=ty3) rfl hp4 rfl rfl rfl Oj fun w5 h5 ho5=>?_
 have hb5:=ho5.at_ hb4 Om;refine Hh ?_;refine⟨evC e,⟨rfl,hb5.all⟩,Hh ?_⟩;refine Qc Qb (e:=ty69) rfl h5 rfl rfl rfl (Qbn e) fun w6 h6 ho6=>?_
 have hb6:=ho6.at_ hb5 Om;have hp6:At w6 p 255 (crC half (rs.length+1:Nat) e bp b):=h6;have hm6:Mod S w w6:=(Mod.of_ext hx4).trans ((Qj ho5 hSp).trans (Qj ho6 hSp));have hsame6:∀k,k<w.heap.size->k≠p->w6.heap[k]?=w.heap[k]? := fun k hk1 hk2=>by rw[ho6.block k hk2,ho5.block k hk2,hx4.block k hk1]
 have hs6:w.heap.size<w6.heap.size:=by have:=hb6.lt;omega
 clear h6 h5 ho5 ho6 hp4 hb4 hb5 hx34 hx3 hb3 hp3 hb2 hx4;refine Hh ?_;refine⟨evC e,⟨rfl,hb6.all⟩,Hh ?_⟩;intro b7 w7 hn7;refine Hh ?_;have e7:b7=w6.heap.size:=hn7.block;refine Qc Qb (e:=ty280) rfl hn7.At rfl rfl rfl (Qf2 (e,(none,0,0))) fun w8 h8 ho8=>?_
 have hx8:Ext w6 w8:=ho8.ext hn7.ext Om;have h8':At w8 b7 280 (Qg8 (e,(none,0,0))):=h8;clear h8 ho8 hn7;have hts6:SlT w6 TA tg:=fun i x hi=>(by obtain⟨a,ha,hc⟩:=hts i x hi;exact⟨a,ha,fun j v hj=>Mod.cell hm6 (hc j v hj) (by rw[add_block,add_block];exact hta a ha)⟩)
 refine Hh ?_
 refine Qh Qb (fun(q:Nat×Option Addr×Nat) w'=>q.1<=tg.length/\Ext w6 w'/\At w' b7 280 (Qg8 (e,(q.2.1,(Qbw (tg.take q.1)).length,q.2.2)))/\Own Qac 1 9 (w6.heap.size+1) w' q.2.1 q.2.2 (Qbw (tg.take q.1)))
  (fun|(k,_,_)=>[(0,Pj p),(4,Pj b1),(7,Pj b7),(54,.slice TA tg.length tc),(55,Vj tg.length),(56,Vj k)]) (fun q=>tg.length-q.1) (0,none,0) ⟨by simp,hx8,h8',by simpa [Qbw] using Own.nil⟩ Rr ?_
 clear h8' hx8;rintro ⟨k,A,c⟩ w8 ⟨hkt,hx8,h8,hown8⟩;simp only at hkt h8 hown8;have hdlen:=Qya (tg.take k);have hdlen2:(Qbw (tg.take k)).length<=k:=by rw[Zn]at hdlen;omega
 refine Hh ?_;constructor
 .intro hlt;have hlt:k<tg.length:=Su hlt;have hstep:=Q63 tg k hlt;obtain⟨a,hA,hc⟩:=(hts6.ext hx8).get hlt;subst hA;generalize tg[k]=t at hc hstep;generalize hld:Qbw (tg.take k)=l at*;refine Hh ?_
  refine Xi Qb (ι:=Option Addr×Nat) (fun _=>[(0,Pj p),(4,Pj b1),(7,Pj b7),(54,.slice (some a) tg.length tc),(55,Vj tg.length),(56,Vj k)])
   (fun q w'=>Ext w6 w'/\At w' b7 280 (Qg8 (e,(q.1,(Qb8 l t).length,q.2)))/\Own Qac 1 9 (w6.heap.size+1) w' q.1 q.2 (Qb8 l t)) ?_ ?_
  . (conv=>whnf)
    refine⟨a,Ix,Hh ?_⟩;refine⟨.string t,Qp hc,Hh ?_⟩;refine(Qbd t w8).mono ?_;rintro _ w9 ⟨rfl,hw9⟩;replace hw9:=hw9.symm;subst hw9;refine Hh ?_;refine⟨.slice A l.length c,fun _=>h8.one rfl,Hh ?_⟩;refine⟨Unit,fun _=>.bool (Lib.containsS l t),fun _ w'=>w'=w8,(),fun _=>(Qs6 l A c _ t w8 hown8 Om).mono (fun r w' h=>⟨(),h.1,h.2⟩),fun _ w9 h9=>?_⟩;have hw9:w8=w9:=(by rcases h9 with⟨_,h⟩|⟨_,h⟩<;>exact h.symm);clear h9;subst hw9;refine Hh ?_;constructor
    .intro hcd;have hcd:(Qo t&&!Lib.containsS l t)=true:=hcd;have hts:Qb8 l t=l++[t]:=by unfold Qb8;rw[if_pos hcd]
     rw[hts];refine Hh ?_;refine⟨.slice A l.length c,h8.one rfl,Hh ?_⟩;intro b10 w10 hn10;refine Hh ?_;have e10:=hn10.block;have hs8:=hx8.size;have hb7lt:=h8.lt;refine Qob (news:= [t]) (hown8.ext hn10.ext) (Qai Qv hn10) (by simp;omega) (by have:=hn10.ext.size;omega) ?_;intro A2 c2 w11 hown11 hg11 hA11
     have h811:At w11 b7 280 (Qg8 (e,(A,l.length,c))):=by
      have h1:=h8.ext hn10.ext;refine(hg11.block b7 h1.lt ?_).trans h1;intro e'
      cases A with
      |none=>simp at e'
      |some a' =>
       have:=(hown8.block (a:=a') rfl).1;have:a'.block=b7:=Su e'.symm;omega
     have hx11:Ext w6 w11:=Qu (hx8.trans hn10.ext) hg11 fun k hk'=>by
      cases A with
      |none=>simp at hk'
      |some a' =>
       have h1:=(hown8.block (a:=a') rfl).1;have h2:a'.block=k:=Su hk';omega
     refine Hh ?_;refine Qc Qb (e:=ty42) rfl h811 rfl rfl rfl Oj fun w12 h12 ho12=>?_
     refine Hh ?_;refine⟨(A2,c2),⟨ho12.ext hx11 Om,h12,hown11.keep fun a' ha'=>ho12.block _ ?_⟩,Rr⟩;have:=(hown11.block ha').1;omega
    .intro hcd;have hcd:(Qo t&&!Lib.containsS l t)=false:=hcd;have hts:Qb8 l t=l:=by unfold Qb8;rw[hcd];rfl
     rw[hts];refine Hh ?_;exact⟨(A,c),⟨hx8,h8,hown8⟩,Rr⟩
  rintro ⟨A2,c2⟩ w9 ⟨hx9,h9,hown9⟩;refine Hh ?_;refine⟨_,wrap_succ Om,Hh ?_⟩;exact⟨(k+1,A2,c2),Sj,⟨Sj,hx9,by simp only[hstep];exact h9,by simp only[hstep];exact hown9⟩,Rr⟩
 intro hge;have hge:k=tg.length:=by simp at hge;omega
 subst hge;rw[Zck]at h8 hown8;clear hdlen hdlen2;have hp8:=hp6.ext hx8;have hb8:=hb6.ext hx8;have hm8:Mod S w w8:=hm6.trans (Mod.of_ext hx8);have hRlt:∀k,R k->k<w.heap.size/\k≠p:=fun k hk'=>⟨(h.rset k hk').2.1,fun q=>(h.rset k hk').2.2.1 (by simp[q])⟩
 have hsame8:∀k,k<w.heap.size->k≠p->w8.heap[k]?=w.heap[k]? := fun k hk1 hk2=>(hx8.block k Om).trans (hsame6 k hk1 hk2)
 have hrows8:Qbu Qg8 9 280 w8 R bp (X3 D) L:=h.rows.keep fun k hk1 hk2=>⟨hsame8 k hk1 (hRlt k hk2).2,hk2⟩
 have hs8:=hx8.size;have hb7lt:=h8.lt;refine Hh ?_;generalize hA0:(rowAt L e.person).1=A0;generalize hc0:(rowAt L e.person).2=c0;have hrl:=h.rows.own e.person;rw[hA0,hc0]at hrl;have hA0b:∀a,A0=some a->R a.block/\a.block<w.heap.size/\a.block≠p/\a.block≠bp:=fun a ha=>⟨(hrl.2 a ha).1,(hRlt _ (hrl.2 a ha).1).1,(hRlt _ (hrl.2 a ha).1).2,(hrl.2 a ha).2⟩
 have hbpR:=h.rows.mine;refine Dr (.mods (fun k=>∃a,A0=some a/\k=a.block)) [0,1,2,3,4,5,6,7,8,9,10,11,12,13,14,15] [16] (Hh ?_);replace hp8:At w8.drew p _ _:=hp8;replace hb8:At w8.drew b1 _ _:=hb8;replace h8:At w8.drew b7 _ _:=h8;replace hrows8:Qbu Qg8 9 280 w8.drew R bp (X3 D) L:=hrows8.keep fun k _ hk2=>⟨rfl,hk2⟩
 replace hm8:Mod S w w8.drew:=hm8.trans (Mod.drew _);replace hown8:Own Qac 1 9 (w6.heap.size+1) w8.drew A c (Qbw tg):=hown8;replace hsame8:∀k,k<w.heap.size->k≠p->w8.drew.heap[k]?=w.heap[k]? := hsame8;have hsz:w8.drew.heap.size=w8.heap.size:=rfl;generalize w8.drew=w9 at hp8 hb8 h8 hrows8 hm8 hown8 hsame8 hsz⊢;have hnb:∀k,w.heap.size<=k\/k=p\/k=bp->¬∃a,A0=some a/\k=a.block:=(by rintro k hk' ⟨a,ha,rfl⟩;obtain⟨q1,q2,q3,q4⟩:=hA0b a ha;omega);refine⟨.map (some bp),⟨hp8.one rfl,by rw[add_block];exact hnb p (.inr (.inl rfl))⟩,Hh ?_⟩;refine⟨_,⟨hb8.one rfl,by rw[add_block];exact hnb b1 (.inl Om)⟩,Hh ?_⟩;refine⟨.map (some bp),⟨hp8.one rfl,by rw[add_block];exact hnb p (.inr (.inl rfl))⟩,Hh ?_⟩;refine⟨_,⟨hb8.one rfl,by rw[add_block];exact hnb b1 (.inl Om)⟩,Hh ?_⟩
 refine⟨.slice A0 (X3 D e.person).length c0,(by
  have:=hrows8.look Qgj Xd (e:=ty281) ty281_ok rfl e.person (Qww (S:=fun k=>∃a,A0=some a/\k=a.block) hrows8.map.lt (hnb bp (.inr (.inr rfl))));rw[hA0,hc0]at this;exact this),Hh ?_⟩
 refine⟨Qg8 (e,(A,(Qbw tg).length,c)),⟨rfl,h8.all,hnb b7 (.inl Om)⟩,Hh ?_⟩;intro b10 w10 hn10;refine⟨Mod.of_ext hn10.ext,Hh ?_⟩;have hown10:Own Qg8 9 280 0 w10 A0 c0 (X3 D e.person):=(by have:=(hrows8.own e.person).1;rw[hA0,hc0]at this;exact this.ext hn10.ext);have hdl:(X3 D e.person).length<=rs.length:=(by rw[<- h.tags.len];exact Zc _ _);refine Qek (news:= [(e,(A,(Qbw tg).length,c))]) ty280_ok Xgw by280 rfl rfl (by decide) Qf1 Qf2 hown10 (Qai Qf1 hn10) (by simp;omega) (by simp;omega) (Zt _) ?_;intro A2 c2 w11 hown11 hg11 hA11
 have hrow11:∀k,A0.map (·.block)=some k->∃a,A0=some a/\k=a.block:=by
  intro k hk'
  cases A0 with
  |none=>simp at hk'
  |some a=>exact⟨a,rfl,Su hk'.symm⟩
 refine⟨Xn hg11 hrow11,?_⟩;refine Hh ?_;have hbm11:MapAt w11 bp Value.string (toV (X3 D) L):=(by refine(hrows8.map.ext hn10.ext).keep (hg11.block bp (hrows8.map.ext hn10.ext).lt ?_);intro e';obtain⟨a,ha,q⟩:=hrow11 bp e'.symm;exact(hA0b a ha).2.2.2 q.symm);refine Qx Qgj (Qr Xd) hbm11 e.person _ fun w12 hm12 ho12=>?_
 have hpush:=hrows8.push (k:=e.person) (r:=X3 D e.person++[(e,(A,(Qbw tg).length,c))]) (by simp) hn10.ext (by rw[hA0];exact hg11) (by rw[hA0];exact hA11) hown11 hm12 ho12;rw[Q4v]at hpush;have e10:=hn10.block;have hs10:=hn10.ext.size;have hs11:=hg11.size;have hs12:=ho12.size;have hbpc:=h.rset bp hbpR
 -- whatever is no row,and no map of rows,stays
 have hstay:∀k,k<w9.heap.size->k≠bp->¬(∃a,A0=some a/\k=a.block)->w12.heap[k]?=w9.heap[k]? := by
  intro k hk1 hk2 hk3;rw[ho12.block k hk2,hg11.block k Om (fun q=>hk3 (hrow11 k q.symm)),hn10.ext.block k hk1]
 have hbpn:bp≠p/\bp∉b.all:=⟨fun q=>hbpc.2.2.1 (by simp[q]),fun q=>hbpc.2.2.1 (by simp[q])⟩;have hp12:At w12 p _ _:=(hstay p hp8.lt (Ne.symm hbpn.1) (hnb p (.inr (.inl rfl)))).trans hp8;have hb12:At w12 b1 _ _:=(hstay b1 hb8.lt Om (hnb b1 (.inl Om))).trans hb8;have hall:∀k∈b.all,k≠p/\k≠bp/\¬∃a,A0=some a/\k=a.block:=(by intro k hk';refine⟨fun q=>hpn (q▸hk'),fun q=>hbpn.2 (q▸hk'),?_⟩;rintro ⟨a,ha,rfl⟩;exact(h.rset _ (hA0b a ha).1).2.2.1 (by simp[hk']));have hmaps12:Qeo w12 b (Xk rs):=h.maps.keep fun k hk'=>(by obtain⟨q1,q2,q3⟩:=hall k hk';have:=hblt k hk';rw[hstay k (by have:=hm8.size;omega) q2 q3,hsame8 k this q1])
 have hm12':Mod S w w12:=Qn hm8 ((Mod.of_ext hn10.ext).trans ((Xn hg11 fun k hk'=>by
  obtain⟨a,ha,q⟩:=hrow11 k hk';rw[q];exact .inl (h.rset _ (hA0b a ha).1).1).trans (Qj ho12 (.inl hbpc.1))))
 refine Hh ?_;refine⟨evC e,⟨rfl,hb12.all⟩,Hh ?_⟩;refine(Xba w12 p half _ e bp b (Xk rs) hp12 hmaps12 h.nodup e rs.length (Qt4 rs) Om).mono ?_;rintro _ w13 ⟨rfl,hc13,hm13⟩;refine Hh ?_;have hs13:=hm13.size;have hp13:At w13 p _ _:=hp12.mod hm13 hpn
 have htg12:∀k,Tg k->w12.heap[k]?=w.heap[k]? := by
  intro k hk';obtain⟨q1,q2,q3⟩:=h.tset k hk';have hkp:k≠p:=fun q=>q3 (by simp[q])
  rw[hstay k (by have:=hm8.size;omega) (fun q=>hbpc.2.2.2 (q▸hk')) ?_,hsame8 k q2 hkp];rintro ⟨a,ha,rfl⟩;exact(h.rset _ (hA0b a ha).1).2.2.2 hk'
 refine⟨rfl,⟨bp,b,D++[(e,(A,(Qbw tg).length,c))],Xe L e.person (A2,c2),fun k=>Grow R w9 k/\k<w13.heap.size,fun k=>Tg k\/(w6.heap.size+1<=k/\k<w9.heap.size),?_⟩,hm12'.trans (hm13.mono fun k _ hk'=>h.mine k (by simp[hk']))⟩;have hevs:evs (rs++[(e,Qbw tg)])=evs rs++[e]:=by simp[evs]
 refine⟨fun k hk'=>.inl (h.mine k hk'),h.nodup,?_,?_,?_,?_,?_,?_,?_⟩
 .rw[hevs,Qpa,Zo];exact hp13
 .rw[Qhv];exact hc13
 .refine hpush.keep fun k hk1 hk2=>⟨hm13.block k hk1 ?_,hk2,Om⟩
  intro hin;rcases hk2 with hk2|hk2
  .exact(h.rset k hk2).2.2.1 (by simp[hin])
  .have:=hblt k hin;have:=hm8.size;omega
 .rintro k ⟨hk1,hk2⟩;have:=hm8.size;rcases hk1 with hk1|hk1
  .obtain⟨q1,q2,q3,q4⟩:=h.rset k hk1;exact⟨.inl q1,hk2,q3,fun q=>q.elim q4 (fun q=>Om)⟩
  .refine⟨.inr Om,hk2,fun hin=>?_,fun q=>?_⟩
   .rcases Zr.1 hin with q|q
    .omega
    .have:=hblt k q;omega
   .rcases q with q|q
    .have:=(h.tset k q).2.1;omega
    .omega
 .intro k hk1;have:=hm8.size;rcases hk1 with hk1|hk1
  .obtain⟨q1,q2,q3⟩:=h.tset k hk1;exact⟨.inl q1,Om,q3⟩
  .refine⟨.inr Om,Om,fun hin=>?_⟩;rcases Zr.1 hin with q|q
   .omega
   .have:=hblt k q;omega
 .rw[Zo,Zo,h.tags.len];rfl
 .intro i d r hd hr;have hlD:=h.tags.len
  by_cases hi:i<D.length
  .rw[Zy hi]at hd;rw[Zy Om]at hr;obtain⟨q1,q2,q3,q4⟩:=h.tags.ev i d r hd hr;refine⟨q1,q2,Qa7 q3 fun a ha=>?_,fun a ha=>.inl (q4 a ha)⟩;have ht':=q4 a ha;have hz:=h.tset _ ht';rw[hm13.block _ (by have:=hm12'.size;omega) (fun hin=>hz.2.2 (by simp[hin])),htg12 _ ht']
  .have hil:i=D.length:=(by have:=(Zi.1 hd).1;simp at this;omega);subst hil;rw[Z8 (Zf _),Nat.sub_self]at hd;rw[hlD,Z8 (Zf _),Nat.sub_self]at hr;obtain rfl:(e,(A,(Qbw tg).length,c))=d:=Su hd;obtain rfl:(e,Qbw tg)=r:=Su hr;refine⟨rfl,rfl,?_,fun a ha=>.inr ⟨(hown8.block ha).1,(hown8.block ha).2⟩⟩;refine Qa7 (hown8.sl Qv) fun a ha=>?_
   have h1:=(hown8.block ha).1;have h2:=(hown8.block ha).2;rw[hm13.block _ Om (fun hin=>by have:=hblt _ hin;omega),hstay _ h2 Om (hnb _ (.inl Om))]
section
variable {κ:Type}{β:Type}{enc:κ->Value}{I:World->(Nat->Prop)->Nat->β->Prop}{w w1:World}{S S':Nat->Prop}{bm:Nat}{m:List (κ×β)}{P:Program}{mt kt et:TypeId}
structure Local(I:World->(Nat->Prop)->Nat->β->Prop):Prop where
 keep:∀{w w1:World} {S S':Nat->Prop} {b:Nat} {v:β},I w S b v->(∀k,k<w.heap.size->S k->w1.heap[k]?=w.heap[k]? /\ S' k)->I w1 S' b v
 lt:∀{w:World} {S:Nat->Prop} {b:Nat} {v:β},I w S b v->b<w.heap.size/\S b
structure Q72(enc:κ->Value)(I:World->(Nat->Prop)->Nat->β->Prop)(w:World)(S:Nat->Prop)(bm:Nat)(m:List (κ×β))(L:List (κ×(Nat×β)))(col:Nat->Option κ):Prop where
 mine:S bm
 map:MapAt w bm enc (L.map fun x=>(x.1,Value.map (some x.2.1)))
 eq:(L.map fun x=>(x.1,x.2.2))=m
 own:∀x∈L,I w (fun k=>S k/\k≠bm/\col k=some x.1) x.2.1 x.2.2
def MapOf(enc:κ->Value)(I:World->(Nat->Prop)->Nat->β->Prop)(w:World)(S:Nat->Prop)(bm:Nat)(m:List (κ×β)):Prop:=∃L col,Q72 enc I w S bm m L col
theorem Q72.keys{L col}(h:Q72 enc I w S bm m L col):L.Pairwise (fun x y=>x.1≠y.1):=by
 have:=h.map.keys;rw[Z5]at this;exact this
theorem MapOf.keep(c:Local I)(h:MapOf enc I w S bm m)(a:∀k,k<w.heap.size->S k->w1.heap[k]?=w.heap[k]? /\ S' k):MapOf enc I w1 S' bm m:=by
 obtain⟨L,col,h⟩:=h;refine⟨L,col,(a bm h.map.lt h.mine).2,h.map.keep (a bm h.map.lt h.mine).1,h.eq,fun x hx=>c.keep (h.own x hx) fun k d b=>?_⟩;obtain⟨e,f⟩:=a k d b.1;exact⟨e,f,b.2⟩
theorem MapOf.lt(h:MapOf enc I w S bm m):bm<w.heap.size/\S bm:=by
 obtain⟨L,col,h⟩:=h;exact⟨h.map.lt,h.mine⟩
theorem Qz7(a:Local I):Local (fun w S b (m:List (κ×β))=>MapOf enc I w S b m) where
 keep h c:=MapOf.keep a h c
 lt h:=MapOf.lt h
theorem MapOf.new{b}(c:New w w1 b (.map #[] 0))(a:S b):MapOf enc I w1 S b []:=⟨[],fun _=>none,a,MapAt.new c,rfl,by simp⟩
variable [DecidableEq κ]
theorem Qdx{a:Type}(f:β->a)(k):∀l:List (κ×β),Qe (l.map fun x=>(x.1,f x.2)) k=(Qe l k).map f
 |[]=>rfl
 |x::l=>by
  simp only[Zm,Qe]
  by_cases e:k=x.1
  .rw[if_pos e,if_pos e];rfl
  .rw[if_neg e,if_neg e];exact Qdx f k l
theorem Qec{a:Type}(f:β->a)(k v):∀l:List (κ×β),(Xe l k v).map (fun x=>(x.1,f x.2))=Xe (l.map fun x=>(x.1,f x.2)) k (f v)
 |[]=>rfl
 |x::l=>by
  simp only[Zm,Xe]
  by_cases e:k=x.1
  .rw[if_pos e,if_pos e];rfl
  .rw[if_neg e,if_neg e,Zm,Qec f k v l]
theorem Qoc{k:κ}{v:β}{y l}(c:l.Pairwise (fun x y=>x.1≠y.1))(b:y∈Xe l k v):y=(k,v)\/(y∈l/\y.1≠k):=by
 by_cases e:y.1=k
 .left
  have a:=Qcl (Qan (k:=k) (v:=v) c) (k:=y.1) (v:=y.2) (Su b);rw[e,Q8]at a;have:v=y.2:=Su a;rw[this,<- e]
 .right
  rcases Qby b with h|h
  .rw[h]at e;exact absurd rfl e
  .exact⟨h,e⟩
theorem Qvn{k v}:∀{l:List (κ×β)},Qe l k=some v->Xe l k v=l
 |[],h=>by simp[Qe]at h
 |x::l,h=>by
  simp only[Qe]at h;simp only[Xe]
  by_cases e:k=x.1
  .rw[if_pos e]at h⊢;have:x.2=v:=Su h;rw[<- this]
  .rw[if_neg e]at h⊢;rw[Qvn h]
theorem MapOf.look(n:Local I)(h:MapOf enc I w S bm m)(D:P.underlying mt=some (.map kt et))(K:Qu6 P kt enc){e}(A:Xb P et=some e)(F:e.zero=.map none)(k) :
 (Qe m k=none/\(∀cl,Kept cl w bm->RdS P cl w (Instr.lookup mt (.map (some bm)) (enc k) false) (.map none))) \/
 ∃b v g,Qe m k=some v/\(∀cl,Kept cl w bm->RdS P cl w (Instr.lookup mt (.map (some bm)) (enc k) false) (.map (some b)))/\I w g b v/\(∀j,g j->S j/\j≠bm) /\
  ∀(w1:World) (f:β),I w1 (Grow g w) b f->Mod g w w1->MapOf enc I w1 (Grow S w) bm (Xe m k f):=by
 obtain⟨L,col,h⟩:=h;have s:=fun cl (c:Kept cl w bm)=>X5 D K A c h.map k
 have i:Qe m k=(Qe L k).map (·.2):=by rw[<- h.eq];exact Qdx (fun p:Nat×β=>p.2) k L
 have d:Qe (L.map fun x=>(x.1,Value.map (some x.2.1))) k=(Qe L k).map (fun p=>Value.map (some p.1)):=Qdx (fun p:Nat×β=>Value.map (some p.1)) k L
 cases l:Qe L k with
 |none =>
  left
  rw[l]at i d;refine⟨i,fun cl c=>?_⟩;have:=s cl c;rw[d,F]at this;exact this
 |some p =>
  right
  rw[l]at i d;have B:=Qax l;refine⟨p.1,p.2,fun j=>S j/\j≠bm/\col j=some k,i,fun cl c=>?_,h.own _ B,fun j o=>⟨o.1,o.2.1⟩,fun w1 f z u=>?_⟩
  .have:=s cl c;rw[d]at this;exact this
  .refine⟨Xe L k (p.1,f),fun j=>if j<w.heap.size then col j else some k,.inl h.mine,?_,?_,fun x hx=>?_⟩
   .have y:(Xe L k (p.1,f)).map (fun x=>(x.1,Value.map (some x.2.1)))=L.map fun x=>(x.1,Value.map (some x.2.1)):=(by rw[Qec (fun q:Nat×β=>Value.map (some q.1))];exact Qvn d)
    rw[y];exact h.map.keep (u.block bm h.map.lt (fun q=>q.2.1 rfl))
   .rw[Qec (fun q:Nat×β=>q.2),h.eq]
   .have H:=h.map.lt;rcases Qoc h.keys hx with rfl|⟨E,C⟩
    .refine n.keep z fun j _ a=>⟨rfl,?_⟩
     rcases a with a|a
     .refine⟨.inl a.1,a.2.1,?_⟩
      by_cases q:j<w.heap.size
      .simp only[if_pos q];exact a.2.2
      .simp only[if_neg q]
     .refine⟨.inr a,Om,?_⟩;simp only[if_neg (Nat.not_lt.2 a)]
    .refine n.keep (h.own x E) fun j r a=>⟨u.block j r fun q=>?_,.inl a.1,a.2.1,?_⟩
     .have:=a.2.2;rw[q.2.2]at this;exact C (Su this.symm)
     .simp only[if_pos r];exact a.2.2
theorem MapOf.insert(f:Local I)(h:MapOf enc I w S bm m)(s:P.underlying mt=some (.map kt et))(K:Qu6 P kt enc)(k)(n:Qe m k=none){b v}(hx:Ext w w1)(l:I w1 (fun j=>w.heap.size<=j) b v){R}
 (i:∀c,MapOf enc I c (Grow S w) bm (Xe m k v)->Only w1 c bm->R undef c):Qys P (Instr.mapUpdate mt (.map (some bm)) (enc k) (.map (some b))) w1 R:=by
 obtain⟨L,col,h⟩:=h;refine Qx s K (h.map.ext hx) k _ fun c o e=>i c ⟨Xe L k (b,v),fun j=>if j<w.heap.size then col j else some k,.inl h.mine,?_,?_,fun x u=>?_⟩ e
 .rw[Qec (fun q:Nat×β=>Value.map (some q.1))];exact o
 .rw[Qec (fun q:Nat×β=>q.2),h.eq]
 .have A:=h.map.lt;have d:Qe m k=(Qe L k).map (·.2):=by rw[<- h.eq];exact Qdx (fun p:Nat×β=>p.2) k L
  have z:Qe L k=none:=by
   rw[n]at d
   cases r:Qe L k with
   |none=>rfl
   |some q=>rw[r]at d;simp at d
  rcases Qoc h.keys u with rfl|⟨y,B⟩
  .refine f.keep l fun j _ a=>⟨e.block j Om,.inr a,Om,?_⟩
   simp only[if_neg (Nat.not_lt.2 a)]
  .refine f.keep (h.own x y) fun j g a=>⟨(e.block j a.2.1).trans (hx.block j g),.inl a.1,a.2.1,?_⟩
   simp only[if_pos g];exact a.2.2
end
