import Derived.RangeFuncBox
import Derived.RangeFuncLeaves
import Derived.Shelf.Abstract
import Derived.WalkKit
import Derived.OwnWalkIn
import Derived.TacticsInMore
import Derived.LoopNIn
import Derived.LoopIn
import Derived.Sort.OwnSorted
import Derived.Test.YtnpacgccajekgaaGreatDoorGI
set_option linter.all false
namespace Go.Proofs.YtnpacgccajekgaaGreatDoor
open Go.Se Go.RowKit
theorem Xas{d:Type}{enc P w b L mt k e ty}(j:P.underlying mt=some (.map k e))(i:MapAt w b enc L){R}
 (h:∀w',MapAt w' b enc ([]:List (d×Value))->Only w w' b->R (.tuple #[]) w'):Qi7 P (Builtin.clear_ #[mt] ty #[.map (some b)]) w R:=by
 obtain⟨E,c,a,rfl⟩:=i;refine⟨_,Go.ChangeMaps.setBlock w b (.map #[] c),?_,h _ ⟨[],c,⟨Qaf a.block,by simp,by simp,by simp⟩,rfl⟩ (Qao w b _)⟩;have f:=Qdo (P:=P) a.block;have g:=Qgw (P:=P) (.map #[] c) a.block;simp[Builtin.clear_,run_underlying j,f,g,Go.ChangeMaps.setBlock]
theorem Q84(w a d)(b c:List (Bj×Value))(J:a≠d)(n:MapAt w a Value.string b)(K:MapAt w d Value.string c) :
 Cal Tryz.prog 379 [.map (some a),.map (some d)] w fun r w'=>r=.tuple #[]/\∃L,MapAt w' a Value.string L/\(∀x,x∈L.map (·.1)↔x∈b.map (·.1)\/x∈c.map (·.1))/\L.length<=b.length+c.length/\Mod (fun k=>k=a) w w':=by
 have O:=n.lt;refine Fi Tryz.func379 rfl _ rfl rfl (Hh ?_);refine map_range Qqh K fun W g l=>?_
 generalize U:w.heap.size=r at g⊢;refine Gg ?_
 refine Qh Qb (fun(q:List (Bj×Value)×List (Bj×Value)) w'=>Mod (fun k=>k=a) w w'/\Iter w' r d Value.string c q.1/\MapAt w' a Value.string q.2/\(∀x,x∈q.2.map (·.1)↔x∈b.map (·.1)\/x∈q.1.map (·.1))/\q.2.length<=b.length+q.1.length)
  (fun _=>[(0,.map (some a)),(7,Pj r)]) (fun q=>c.length-q.1.length) ([],b) ⟨Mod.of_ext l,g,n.ext l,by simp,by simp⟩ Rr ?_
 clear g l;rintro ⟨v,L⟩ Y ⟨m,o,e,i,I⟩;simp only at o e i I;refine Gg ?_;refine Qff o (fun u=>?_) (fun x z P S R E s D=>?_)
 .have V:=u.length_eq;refine Gg ?_;constructor
  .intro f;cases f
  intro _;refine Gg ?_;refine⟨rfl,L,e,fun x=>?_,Om,m⟩;rw[i x,(u.map _).mem_iff]
 .have C:Mod (fun k=>k=a) w z:=Qn m (Qj s (.inr Om));have A:=e.only s Om;refine Gg ?_;constructor
  .intro _;refine Gg ?_;refine Qa1 (D z rfl rfl) ?_;refine Gg ?_;refine Qx Qqh (Qr Xd) A x.1 x.2 fun M B j=>?_
   have F:Iter M r d Value.string c (v++[x]):=E.keep (j.block d (Ne.symm J)) (j.block r Om);have N:=Qcb x.1 x.2 L;refine Gg ?_;refine⟨(v++[x],Xe L x.1 x.2),by simp;omega,⟨C.trans (Qj j rfl),F,B,fun y=>?_,by simp;omega⟩,Rr⟩;simp only;rw[Qeq,Zp,Zj,Zm,Zbk,Zl,<- or_assoc,<- i y];split
   .next H =>
    constructor
    .exact .inl
    .rintro (h|h)
     .exact h
     .rw[h];exact H
   .rw[Zj,Zl]
  .intro f;cases f
abbrev SnH:=Bj×Int×Int×SV
def seC(x:SnH):List Value:= [.string x.1,Vj x.2.1,Vj x.2.2.1,.slice x.2.2.2.1 x.2.2.2.2.1 x.2.2.2.2.2]
theorem Qh2(x):(seC x).length=4:=rfl
theorem Xch(x):∀u∈seC x,u.oneCell'=true:=by simp[seC,Value.oneCell']
theorem Xjx:Qle Tryz.prog 314 387 seC 4 56:=⟨by kernel_rfl,⟨_,ty387_ok,rfl,rfl⟩,by387,by decide,by decide,Qh2,Xch⟩
theorem Q3a{α:Type}{enc sz f base w A c}{l:List α}(h:Own enc sz f base w A c l){a}(d:A=some a):a.spot=none:=by
 rcases h.2 with⟨b,_⟩|⟨g,cap,i,b,_⟩
 .injection b with e _ _;rw[d]at e;cases e
 .injection b with e _ _;rw[d]at e;injection e with e;rw[e]
theorem Q6l(w base A c T y b9 n)(I:List (Bj×Value))(z:At w y 314 [.slice A T.length c])(R:At w b9 79 [.map (some n)])(U:MapAt w n Value.string I)(u:Own seC 4 387 base w A c T)
 (Y:∀x∈I,x.1.size<=1000000)(Z:I.length<=1000000000)(ag:T.length<1000000) :
 Cal Tryz.prog 376 [Pj y,Pj b9] w fun r w'=>r=.tuple #[]/\(T=[]->w'=w)/\∀L d,T=L++[d]->∃B g,Own seC 4 387 base w' A c (L++[(d.1,d.2.1,d.2.2.1,(B,(Xh (I.map (·.1))).length,g))])/\SlT w' B (Xh (I.map (·.1)))/\(∀a,B=some a->w.heap.size<=a.block/\a.block<w'.heap.size)/\(∀a,B=some a->a.spot=none/\(Xh (I.map (·.1))).length<=g)/\Mod (fun k=>∃a,A=some a/\k=a.block) w w':=by
 refine Fi Tryz.func376 rfl _ rfl rfl (Hh ?_);refine⟨_,z.one0,Gg ?_⟩;constructor
 .intro i;have i:0<T.length:=Su i;have ai:=u;refine Gg ?_;refine Dr .ext [0,1,2,3,4,5,6,7] [8] (Hh ?_);refine⟨_,z.one0,Gg ?_⟩;refine⟨((T.length-1:Nat):Int),wrap_eq Om ⟨Om,Om⟩,Gg ?_⟩;refine⟨_,R.one0,Gg ?_⟩;have N:Ext w w.drew:=(Ext.refl w).drew;refine(Qlq (some n) w.drew).mono ?_;rintro _ ab ⟨rfl,W,m⟩;refine⟨m,Gg ?_⟩;refine(Qh8 W (U.ext (N.trans m)) Y Z).mono ?_;rintro _ ac ⟨B,g,rfl,j,M⟩;refine⟨M,?_⟩;have J:=N.trans (m.trans M);have E:=j.sl Qv;have C:∀a,B=some a->w.heap.size<=a.block/\a.block<ac.heap.size:=fun a l=>(by have:=j.block l;have:=m.size;exact⟨Zw (show w.heap.size<=ab.heap.size from m.size) (j.block l).1,(j.block l).2⟩)
  have D:∀a,B=some a->a.spot=none/\(Xh (I.map (·.1))).length<=g:=fun a l=>⟨Q3a j l,j.le⟩
  generalize Xh (I.map (·.1))=K at E D⊢;clear j;have H:=u.ext J;obtain⟨a,S,ah⟩:=(H.sl Qh2).get (k:=T.length-1) Om;subst S;refine Gg ?_;refine⟨a,Ix,Gg ?_⟩;have aa:seC ((T[T.length-1]'Om).1,(T[T.length-1]'Om).2.1,(T[T.length-1]'Om).2.2.1,(B,K.length,g))=spl (seC (T[T.length-1]'Om)) 3 (Qg (.slice B K.length g)):=rfl;refine Qjs Qb (e:=ty42) rfl Qh2 rfl Oj (k:=T.length-1) (f:=3) Om (by decide) _ aa (a:=a) (by rw[Q9];rfl) H fun aj v s=>?_
  refine Gg ?_;refine⟨rfl,fun h=>(by rw[h]at i;simp at i),fun L d F=>⟨B,g,?_,?_,?_,D,?_⟩⟩
  .have O:T[T.length-1]'Om=d:=by simp[F]
   rw[O]at v;have P:T.set (T.length-1) (d.1,d.2.1,d.2.2.1,(B,K.length,g))=L++[(d.1,d.2.1,d.2.2.1,(B,K.length,g))]:=(by rw[F];simp);rw[P]at v;exact v
  .exact s.sl E fun b o e=>(by have ae:=(C b o).1;have af:=(u.block rfl).2;omega)
  .intro b o;rw[s.size];exact C b o
  .exact(Mod.of_ext J).trans (Qj s ⟨a,rfl,rfl⟩)
 .intro i;have i:T.length=0:=(by have:¬(0:Int)<T.length:=Su i;omega);have V:T=[]:=Zao.1 i;refine Gg ?_;exact⟨rfl,fun _=>rfl,fun L d h=>by rw[V]at h;simp at h⟩
def SnR(w:World)(n0:Nat)(R:Nat->Prop)(d:SnH)(q:Sn):Prop:=
 d.1=q.person/\d.2.1=q.from_/\d.2.2.1=q.to_/\d.2.2.2.2.1=q.items.length/\SlT w d.2.2.2.1 q.items/\(∀a,d.2.2.2.1=some a->n0<=a.block/\a.block<w.heap.size/\¬R a.block)/\∀a,d.2.2.2.1=some a->a.spot=none/\q.items.length<=d.2.2.2.2.2
structure Qb9(w:World)(n0:Nat)(R:Nat->Prop)(T:List SnH)(Q:List Sn):Prop where
 len:T.length=Q.length
 at_:∀(i:Nat) (d:SnH) (q:Sn),T[i]?=some d->Q[i]?=some q->SnR w n0 R d q
theorem SnR.keep{w w1 n0 R R1 d q}(h:SnR w n0 R d q)(i:∀k,n0<=k->k<w.heap.size->¬R k->w1.heap[k]?=w.heap[k]? /\ ¬R1 k)(s:w.heap.size<=w1.heap.size):SnR w1 n0 R1 d q:=by
 obtain⟨j,l,m,n,o,g,r⟩:=h;refine⟨j,l,m,n,Qa7 o fun a c=>?_,fun a c=>?_,r⟩
 .obtain⟨b,e,f⟩:=g a c;exact(i _ b e f).1
 .obtain⟨b,e,f⟩:=g a c;exact⟨b,Om,(i _ b e f).2⟩
theorem Qb9.keep{w w1 n0 R R1 T Q}(h:Qb9 w n0 R T Q)(b:∀k,n0<=k->k<w.heap.size->¬R k->w1.heap[k]?=w.heap[k]? /\ ¬R1 k)(e:w.heap.size<=w1.heap.size):Qb9 w1 n0 R1 T Q:=⟨h.len,fun f d q a c=>(h.at_ f d q a c).keep b e⟩
theorem Qb9.ext{w w1 n0 R T Q}(h:Qb9 w n0 R T Q)(hx:Ext w w1):Qb9 w1 n0 R T Q:=h.keep (fun k _ a b=>⟨hx.block k a,b⟩) hx.size
theorem Qb9.nil{w n0 R}:Qb9 w n0 R [] []:=⟨rfl,by simp⟩
theorem Qb9.append{w n0 R T c Q P}(h:Qb9 w n0 R T Q)(k:Qb9 w n0 R c P):Qb9 w n0 R (T++c) (Q++P):=by
 refine⟨by simp[h.len,k.len],fun e d q b a=>?_⟩;have g:=h.len
 by_cases f:e<T.length
 .rw[Zy f]at b;rw[Zy Om]at a;exact h.at_ e d q b a
 .rw[Z8 Om]at b a;rw[<- g]at a;exact k.at_ _ d q b a
theorem Qb9.snoc{w n0 R T Q}(h:Qb9 w n0 R T Q){d q}(e:SnR w n0 R d q):Qb9 w n0 R (T++[d]) (Q++[q]):=
 h.append ⟨rfl,fun c f g a b=>by
  cases c with
  |zero=>simp at a b;subst a;subst b;exact e
  |succ c=>simp at a⟩
theorem Xi8{gap G t its}(h:∀g,G.getLast?=some g->gap<t-g.2.1):Qdh gap G t its=G++[(t,t,its)]:=by
 unfold Qdh
 cases a:G.getLast? with
 |none=>rw[List.getLast?_eq_none_iff.1 a];rfl
 |some g=>simp only;rw[if_pos (h g a)]
theorem Xi9{gap a g t its}(h:¬gap<t-g.2.1):Qdh gap (a++[g]) t its=a++[(g.1,t,g.2.2++its)]:=by
 unfold Qdh;simp[h]
theorem Xgo{k:Qe1}{t}(h:t∈k.map (·.1)):∃v,Qe k t=some v:=by
 cases a:Qe k t with
 |some v=>exact⟨v,rfl⟩
 |none =>
  have:=Qej.1 a;obtain⟨x,hx,rfl⟩:=Zh.1 h;exact absurd rfl (this x hx)
structure Xmj(k:Qe1):Prop where
 tick:∀x∈k,0<=x.1/\x.1<=1099511627776
 name:∀x∈k,∀y∈x.2,y.1.size<=1000
 num:k.length<1000000
 sum:(k.map fun x=>x.2.length).sum<1000000
def rowB(A:Option Addr)(k:Nat):Prop:=∃a,A=some a/\k=a.block
def Qfl(k:Qe1)(ts:List Int):Nat:=(ts.map fun t=>(Xv k t).length).sum
theorem Q1m{k}:∀{ts:List Int},ts.Nodup->(∀t∈ts,t∈k.map (·.1))->k.Pairwise (fun x y=>x.1≠y.1)->Qfl k ts<=(k.map fun x=>x.2.length).sum:=by
 intro ts e h f;have g:∃a,(k.map (·.1)).Perm (ts++a):=Qg0 e h;obtain⟨a,d⟩:=g;have b:((k.map (·.1)).map fun t=>(Xv k t).length).sum=(k.map fun x=>x.2.length).sum:=(by rw[Zz];congr 1;apply Zbq;intro x hx;simp only[Function.comp,Xv];rw[Qcl f (show (x.1,x.2)∈k from hx)];simp);have c:=(d.map fun t=>(Xv k t).length).sum_nat;rw[Zp,Zbj,b]at c;unfold Qfl;omega
theorem Xla(gap k):∀ts:List Int,∀g∈Qg9 gap k ts,g.2.1∈ts:=by
 refine Qw (by simp[Qg9]) fun e t b g a=>?_
 rw[Qih]at a;unfold Qdh at a;split at a
 .next c d =>
  split at a
  .rcases Zj.1 a with a|a
   .exact Zj.2 (.inl (b g a))
   .simp at a;rw[a];simp
  .rcases Zj.1 a with a|a
   .exact Zj.2 (.inl (b g (List.dropLast_subset _ a)))
   .simp at a;rw[a];simp
 .simp at a;rw[a];simp
def GInv(w:World)(n0:Nat)(A:Option Addr)(person:Bj)(T:List SnH)(c:List (Bj×Value))(G:List Grp):Prop:=
 (G=[]/\T=[]/\c=[])\/∃(L:List SnH) (b:List Grp) (a:Grp),T=L++[(person,a.1,a.2.1,((none:Option Addr),0,0))]/\G=b++[a]/\Qb9 w n0 (rowB A) L (b.map (Xd7 person))/\∀x,x∈c.map (·.1)↔x∈a.2.2
theorem GInv.keep{w w1 n0 A person T d G}(h:GInv w n0 A person T d G)(m:∀k,n0<=k->k<w.heap.size->¬rowB A k->w1.heap[k]?=w.heap[k]?)(n:w.heap.size<=w1.heap.size):GInv w1 n0 A person T d G:=by
 rcases h with h|⟨L,e,g,f,i,j,l⟩
 .exact .inl h
 .exact .inr ⟨L,e,g,f,i,j.keep (fun k a b c=>⟨m k a b c,c⟩) n,l⟩
theorem Qjq(w n0 A c T d b9 e)(I:List (Bj×Value))(person G)(v:At w d 314 [.slice A T.length c])(y:At w b9 79 [.map (some e)])(m:MapAt w e Value.string I)(i:Own seC 4 387 n0 w A c T)
 (J:∀x∈I,x.1.size<=1000000)(K:I.length<=1000000000)(E:T.length<1000000)(V:n0<=w.heap.size)(C:GInv w n0 A person T I G) :
 Cal Tryz.prog 376 [Pj d,Pj b9] w fun r w'=>r=.tuple #[]/\∃b,b.length=T.length/\Own seC 4 387 n0 w' A c b/\Qb9 w' n0 (rowB A) b (G.map (Xd7 person))/\Mod (rowB A) w w':=by
 refine(Q6l w n0 A c T d b9 e I v y m i J K E).mono ?_;rintro r w' ⟨N,s,u⟩;refine⟨N,?_⟩;rcases C with⟨rfl,rfl,rfl⟩|⟨L,P,g,rfl,rfl,D,M⟩
 .have:=s rfl;subst this;exact⟨[],rfl,i,Qb9.nil,Mod.refl _ _⟩
 .obtain⟨B,S,n,o,z,l,h⟩:=u L _ rfl;have O:Xh (I.map (·.1))=Qci g.2.2:=Qh4 (Qah m.keys) M;rw[O]at n o l;refine⟨_,by simp,n,?_,h⟩;rw[Zp];refine(D.keep (fun k _ f j=>⟨h.block k f j,j⟩) h.size).snoc ⟨rfl,rfl,rfl,rfl,o,fun a F=>?_,l⟩;have f:=z a F;refine⟨Om,f.2,?_⟩;rintro ⟨R,H,U⟩;have:=(i.block H).2;omega
theorem Q69{k}(h:Xmj k){t x}(hx:x∈Xv k t):x.size<=1000:=by
 unfold Xv at hx
 cases a:Qe k t with
 |none=>rw[a]at hx;simp at hx
 |some v =>
  rw[a]at hx;simp only[Zas,Zh]at hx;obtain⟨y,b,rfl⟩:=hx;exact h.name _ (Qax a) y b
theorem Xgk{c w S b}{m:Qe1}(h:MapOf vi c w S b m):∃L,MapAt w b vi L/\L.map (·.1)=m.map (·.1):=by
 obtain⟨L,col,a⟩:=h;refine⟨_,a.map,?_⟩;rw[<- a.eq];simp
set_option maxHeartbeats 4000000 in
theorem Xci(w S p gap s)(h:Q1y w S p gap s)(f4:0<=gap/\gap<=1099511627776)(person)(ag:Xmj ((Qe s person).getD [])) :
 Cal Tryz.prog 344 [Pj p,.string person,Vj 1099511627776] w fun r w'=>∃A c T,r=.slice A T.length c/\Own seC 4 387 w.heap.size w' A c T/\Qb9 w' w.heap.size (rowB A) T (Qgc gap s person)/\Ext w w':=by
 obtain⟨bm,h⟩:=h;have ep:=h.head;have f6:=h.head.lt;unfold Qgc;refine Fi Tryz.func344 rfl _ rfl rfl (Hh ?_);refine⟨_,h.head.one rfl,Hh ?_⟩;rcases h.sums.look Qap Xgz (Qr Xd) (e:=ty286) ty286_ok rfl person with⟨b6,aw⟩|⟨bk,v,dv,ez,aw,ck,ft,_⟩
 .refine⟨_,aw .same Qs,Hh ?_⟩;rw[b6];intro b fj ae;refine Hh ?_;intro i fk Y;refine Hh ?_;intro o fl W;refine Hh ?_;have e1:=ae.block;have e2:=Y.block;have e3:=W.block;have fd:=ae.size;have fe:=Y.size;refine Qc Qb (e:=ty79) rfl W.At rfl rfl rfl Oj fun Z a4 af=>?_
  have C:At Z o 79 [.map (some i)]:=a4;have m:At Z b 314 [.slice none ([]:List SnH).length 0]:=(af.block b Om).trans ((ae.At.ext Y.ext).ext W.ext);have B:MapAt Z i Value.string []:=((MapAt.new Y).ext W.ext).only af Om;have R:Ext w Z:=af.ext (ae.ext.trans (Y.ext.trans W.ext)) Om;clear af a4;refine Gg ?_;refine(Qrt none Z).mono ?_;rintro _ w5 ⟨rfl,b1,ax⟩;refine Hh ?_;refine(Q01 b1).mono ?_;rintro _ D ⟨cg,c6,rfl,_,cb⟩;refine Hh ?_;have hx:=ax.trans cb;replace m:=m.ext hx;replace C:=C.ext hx;replace B:=B.ext hx;replace R:=R.trans hx;refine Qh Qb (fun(_:Unit) w'=>w'=D) (fun _=>[(25,Vj 0),(26,Vj 0),(8,Pj b),(10,.func (.func 376) #[] #[Pj b,Pj o])]) (fun _=>0) () rfl Rr ?_;rintro _ aa rfl;refine Hh ?_;constructor
  .intro en;simp at en
  intro _;refine Hh ?_;refine(Qjq aa w.heap.size none 0 [] b o i [] person [] m C B Own.nil (by simp) (by simp) (by simp) R.size (.inl ⟨rfl,rfl,rfl⟩)).mono ?_;rintro _ ak ⟨rfl,N,a9,F,b0,cl⟩;have ee:N=[]:=Su a9;subst ee;have cc:Ext aa ak:=cl.ext fun k _ n=>by obtain⟨a,ah,_⟩:=n;cases ah
  refine Hh ?_;refine⟨_,(m.ext cc).one0,Hh ?_⟩;have ei:Xlb gap []=[]:=by simp[Xlb,Qg9,Qp3]
  rw[show (none:Option Qe1).getD []=[] from rfl,ei];exact⟨none,0,[],rfl,F,Qb9.nil,R.trans cc⟩
 .refine⟨_,aw .same Qs,Hh ?_⟩;rw[ez]at ag⊢;simp only[Zas]at ag⊢;have dt:v.Pairwise (fun x y=>x.1≠y.1):=(by obtain⟨L,col,da⟩:=ck;have:=da.keys;rw[<- da.eq,Z5];exact this);intro b fj ae;refine Hh ?_;intro i fk Y;refine Hh ?_;intro o fl W;refine Hh ?_;have e1:=ae.block;have e2:=Y.block;have e3:=W.block;have fd:=ae.size;have fe:=Y.size;have gf:=W.size;refine Qc Qb (e:=ty79) rfl W.At rfl rfl rfl Oj fun Z a4 af=>?_
  have C:At Z o 79 [.map (some i)]:=a4;have m:At Z b 314 [.slice none ([]:List SnH).length 0]:=(af.block b Om).trans ((ae.At.ext Y.ext).ext W.ext);have B:MapAt Z i Value.string []:=((MapAt.new Y).ext W.ext).only af Om;have R:Ext w Z:=af.ext (ae.ext.trans (Y.ext.trans W.ext)) Om;clear af a4;refine Gg ?_;have fz:=m.lt;have fw:=B.lt;obtain⟨LK,db,bx⟩:=Xgk ck;refine(Qrt (some bk) Z).mono ?_;rintro _ w5 ⟨rfl,b1,ax⟩;refine Hh ?_
  refine(Qxx b1 (db.ext (R.trans ax)) (fun x hx=>by
   have:x.1∈v.map (·.1):=by rw[<- bx];exact Zh.2 ⟨x,hx,rfl⟩
   obtain⟨y,K,eh⟩:=Zh.1 this;have:=ag.tick y K;omega) (by have:=congrArg List.length bx;simp at this;have:=ag.num;omega)).mono ?_
  rintro _ D ⟨cg,c6,rfl,b7,cb⟩;rw[bx]at b7⊢;have hx:=ax.trans cb;replace m:=m.ext hx;replace C:=C.ext hx;replace B:=B.ext hx;replace R:=R.trans hx;have fx:=m.lt;have f1:=C.lt;have fu:=B.lt;have dr:=b7.sl X8;have c4:∀a,cg=some a->a.block<D.heap.size/\a.block≠b/\a.block≠i:=fun a ah=>(by have a3:=b7.block ah;have fs:=ax.size;exact⟨a3.2,Om,Om⟩)
  have gg:=ax.size;have gh:=cb.size;unfold Xlb;have b5:∀t∈Qe5 (v.map (·.1)),t∈v.map (·.1):=fun t cx=>Qp2.1 cx
  have dk:(Qe5 (v.map (·.1))).Nodup:=(Qem _).nodup_iff.2 (by rw[Zaj,Z5];exact dt);have bj:(Qe5 (v.map (·.1))).length<1000000:=by rw[Qxt,Zg];exact ag.num
  generalize Qe5 (v.map (·.1))=z at dr b5 dk bj⊢;have dp:∀j,Qfl v (z.take j)<1000000:=fun j=>Zbw (Q1m (dk.sublist (Zc8 _ _)) (fun t cx=>b5 t (Zay cx)) dt) ag.sum
  clear b7 b1 db bx;refine Hh ?_
  refine Qh Qb (fun(q:Nat×Option Addr×Nat×List SnH×List (Bj×Value)) w'=>q.1<=z.length/\Mod (fun k=>k=b\/k=i) D w'/\At w' b 314 [.slice q.2.1 q.2.2.2.1.length q.2.2.1]/\At w' o 79 [.map (some i)]/\MapAt w' i Value.string q.2.2.2.2/\Own seC 4 387 D.heap.size w' q.2.1 q.2.2.1 q.2.2.2.1/\(∀x∈q.2.2.2.2,x.1.size<=1000)/\q.2.2.2.2.length<=Qfl v (z.take q.1)/\q.2.2.2.1.length<=q.1/\GInv w' D.heap.size q.2.1 person q.2.2.2.1 q.2.2.2.2 (Qg9 gap v (z.take q.1)))
   (fun|(j,_,_,_,_)=>[(0,Pj p),(1,.string person),(2,Vj 1099511627776),(7,.map (some bk)),(8,Pj b),(9,Pj o),(10,.func (.func 376) #[] #[Pj b,Pj o]),(24,.slice cg z.length c6),(25,Vj z.length),(26,Vj j)]) (fun q=>z.length-q.1) (0,none,0,[],[]) ⟨by simp,Mod.refl _ _,m,C,B,Own.nil,by simp,by simp,by simp,.inl ⟨rfl,rfl,rfl⟩⟩ Rr ?_
  have bu:∀{w':World},Mod (fun k=>k=b\/k=i) D w'->Ext w w':=fun cl=>(Qn (Mod.of_ext (S:=fun _=>False) R) (cl.mono fun k _ n=>.inr (by rcases n with rfl|rfl<;>omega))).ext fun _ _ h=>h
  clear m C B hx;rintro ⟨j,A,c,T,ay⟩ aa ⟨er,O,m,C,B,F,bw,cj,bb,U⟩;simp only at er m C B F bw cj bb U;have du:=O.size;have f7:=dp j;refine Hh ?_;constructor
  .intro au;have au:j<z.length:=Su au;obtain⟨a,d3,dh⟩:=(Qa7 dr fun a ah=>O.block a.block (c4 a ah).1 (fun n=>by have:=c4 a ah;omega)).get au;subst d3;have cy:=b5 _ (Zu au);have b2:Qg9 gap v (z.take (j+1))=Qdh gap (Qg9 gap v (z.take j)) z[j] (Xv v z[j]):=by rw[Za au,Qih]
   have eu:Qfl v (z.take (j+1))=Qfl v (z.take j)+(Xv v z[j]).length:=(by unfold Qfl;rw[Za au,Zp,Zbj];simp);have f8:=dp (j+1);obtain⟨y,K,bl⟩:=Zh.1 cy;have dq:=ag.tick y K;rw[bl]at dq;obtain⟨bo,ca⟩:=Xgo cy;generalize z[j]=t at dh cy b2 eu dq ca;clear bl K;generalize d4:Qg9 gap v (z.take j)=G at U b2;refine Gg ?_;refine⟨a,Ix,Hh ?_⟩;refine⟨Vj t,Qp dh,Hh ?_⟩;constructor
   .intro u;have u:1099511627776<t:=Su u;omega
   intro _;refine Hh ?_;have fy:=m.lt;have f2:=C.lt;have fv:=B.lt;have bh:∀k,rowB A k->k≠b/\k≠o/\k≠i:=fun k n=>(by obtain⟨ab,J,rfl⟩:=n;have:=(F.block J).1;omega)
   refine Xi Qb (ι:=Option Addr×Nat×List SnH×List (Bj×Value)) (fun _=>[(0,Pj p),(1,.string person),(2,Vj 1099511627776),(7,.map (some bk)),(8,Pj b),(9,Pj o),(10,.func (.func 376) #[] #[Pj b,Pj o]),(12,Vj t),(24,.slice (some a) z.length c6),(25,Vj z.length),(26,Vj j)])
    (fun q w'=>Mod (fun k=>k=b\/k=i) D w'/\At w' b 314 [.slice q.1 q.2.2.1.length q.2.1]/\At w' o 79 [.map (some i)]/\MapAt w' i Value.string q.2.2.2/\Own seC 4 387 D.heap.size w' q.1 q.2.1 q.2.2.1/\(∀x∈q.2.2.2,x.1.size<=1000)/\q.2.2.2.length<=Qfl v (z.take j)/\q.2.2.1.length<=j+1/\∃L f0 cz M cd,q.2.2.1=L++[(person,f0,cz,((none:Option Addr),0,0))]/\Qb9 w' D.heap.size (rowB q.1) L (M.map (Xd7 person))/\(∀x,x∈q.2.2.2.map (·.1)↔x∈cd)/\Qg9 gap v (z.take (j+1))=M++[(f0,t,cd++Xv v t)]) ?_ ?_
   . (conv=>whnf)
     refine⟨_,m.one0,Hh ?_⟩
     have be:0<T.length->A=some (A.getD ⟨0,0,none⟩)/\aa.cell? (((A.getD ⟨0,0,none⟩).add ((T.length-1)*4)).add 2)=some (Vj ((G.getLast?.map (·.2.1)).getD 0)):=fun dd=>by
      rcases U with⟨_,az,_⟩|⟨L,M,g,P,bv,_,_⟩
      .rw[az]at dd;simp at dd
      .obtain⟨ab,J,df⟩:=(F.sl Qh2).get (k:=T.length-1) Om;have e1:T[T.length-1]'Om=(person,g.1,g.2.1,((none:Option Addr),0,0)):=by simp[P]
       rw[e1]at df;rw[J,bv];simp only[Zas,Zc3,List.getLast?_singleton,Option.some_or,Zcc,true_and];exact df 2 _ rfl
     have ej:0<=(G.getLast?.map (·.2.1)).getD 0/\(G.getLast?.map (·.2.1)).getD 0<=1099511627776:=by
      cases bd:G.getLast? with
      |none=>simp
      |some g =>
       have ek:=Xla gap v (z.take j) g (by rw[d4];exact Zbu bd);obtain⟨y,K,bl⟩:=Zh.1 (b5 _ (Zay ek));have:=ag.tick y K;simp only[Zcc,Zas];omega
     have cr:(T.length=0\/gap<t-(G.getLast?.map (·.2.1)).getD 0)->Qdh gap G t (Xv v t)=G++[(t,t,Xv v t)]:=fun u=>Xi8 fun g bd=>by
      rw[bd]at u;simp only[Zcc,Zas]at u;rcases u with u|u
      .rcases U with⟨az,_⟩|⟨L,M,fr,P,_⟩
       .rw[az]at bd;simp at bd
       .rw[P]at u;simp at u
      .exact u
     have cu:¬(T.length=0\/gap<t-(G.getLast?.map (·.2.1)).getD 0)->∃(L:List SnH) (M:List Grp) (g:Grp),T=L++[(person,g.1,g.2.1,((none:Option Addr),0,0))]/\Qb9 aa D.heap.size (rowB A) L (M.map (Xd7 person))/\(∀x,x∈ay.map (·.1)↔x∈g.2.2)/\Qdh gap G t (Xv v t)=M++[(g.1,t,g.2.2++Xv v t)]:=fun u=>by
      rcases U with⟨_,az,_⟩|⟨L,M,g,P,bv,b0,cq⟩
      .rw[az]at u;simp at u
      .refine⟨L,M,g,P,b0,cq,?_⟩;rw[bv];refine Xi9 fun em=>u (.inr ?_)
       rw[bv];simpa using em
     generalize A.getD ⟨0,0,none⟩=a0 at be;generalize (G.getLast?.map (·.2.1)).getD 0=bq at be ej cr cu;have eo:=ep.ext (bu O);refine Dr .same [0,1,2,3,4,5,6,7,8,9,10,11,12,13,14,15,16] [] (Hh ?_);refine⟨_,fun _=>m.one0,Hh ?_⟩;refine⟨((T.length-1:Nat):Int),fun ar=>wrap_eq (by have:=of_decide_eq_false ar;omega) ⟨Om,Om⟩,Hh ?_⟩;refine⟨a0,fun ar=>⟨(be (by have:=of_decide_eq_false ar;omega)).1,Om,(by have:=of_decide_eq_false ar;omega)⟩,Hh ?_⟩;refine⟨Vj bq,fun ar=>(be (by have:=of_decide_eq_false ar;omega)).2,Hh ?_⟩;refine⟨t-bq,fun _=>wrap_eq rfl ⟨Om,Om⟩,Hh ?_⟩;refine⟨Vj gap,fun _=>eo.one rfl,Hh ?_⟩;have aj:Ext aa aa.drew:=(Ext.refl aa).drew;replace m:=m.ext aj;replace C:=C.ext aj;replace B:=B.ext aj;replace F:=F.ext aj;replace O:=O.trans (Mod.of_ext aj);replace U:=U.keep (w1:=aa.drew) (fun k _ n _=>aj.block k n) aj.size;constructor
     .intro u;have u:T.length=0\/gap<t-bq:=Su u;have bi:=cr u;rw[<- b2]at bi;clear cu cr be;generalize aa.drew=ak at*;refine Hh ?_;refine(Qjq ak D.heap.size A c T b o i ay person G m C B F (fun x hx=>by have:=bw x hx;omega) Om Om O.size U).mono ?_;rintro _ ac ⟨rfl,N,a9,b8,a8,I⟩;have ff:=O.size;have fh:=I.size;have al:At ac b 314 [.slice A N.length c]:=by rw[a9];exact(I.block b m.lt (fun n=>(bh _ n).1 rfl)).trans m
      have a7:At ac o 79 [.map (some i)]:=(I.block o C.lt (fun n=>(bh _ n).2.1 rfl)).trans C;have c7:MapAt ac i Value.string ay:=B.keep (I.block i B.lt (fun n=>(bh _ n).2.2 rfl))
      have bz:Mod (fun k=>k=b\/k=i) D ac:=Qn O (I.mono fun k _ n=>.inr (by
       obtain⟨ab,J,rfl⟩:=n;exact(F.block J).1))
      clear m C B F O I U;refine Hh ?_;refine⟨_,a7.one0,Hh ?_⟩;refine Xas Qqh c7 fun ao d5 E=>?_
      have c3:At ao b 314 [.slice A N.length c]:=(E.block b Om).trans al;have dy:At ao o 79 [.map (some i)]:=(E.block o Om).trans a7;have bg:=b8.keep (w':=ao) fun ab J=>E.block ab.block (fun e=>(bh ab.block ⟨ab,J,rfl⟩).2.2 e)
      have cm:Qb9 ao D.heap.size (rowB A) N (G.map (Xd7 person)):=a8.keep (fun k b3 _ V=>⟨E.block k Om,V⟩) (by rw[E.size];exact Zf _);have d9:Mod (fun k=>k=b\/k=i) D ao:=bz.trans (Qj E (.inr rfl));have ga:=E.size;clear al a7 c7 b8 a8 E bz;refine Hh ?_;refine⟨_,c3.one0,Hh ?_⟩;intro fq gi ai;refine Hh ?_;have gb:=ai.ext.size;refine Qq Xjx (l:=N) (news:= [(person,t,t,((none:Option Addr),0,0))]) rfl (bg.ext ai.ext) rfl (Xjx.new1 (x:=(person,t,t,((none:Option Addr),0,0))) ai) (by simp;omega) Om fun cf c12 bp cv an d1=>?_
      have bs:∀k,A.map (·.block)=some k->D.heap.size<=k:=Xm bg;have dw:At bp b 314 [.slice A N.length c]:=(an.block b Om (fun e=>by have:=bs b e.symm;omega)).trans (c3.ext ai.ext);have dz:At bp o 79 [.map (some i)]:=(an.block o Om (fun e=>by have:=bs o e.symm;omega)).trans (dy.ext ai.ext);have d6:MapAt bp i Value.string ([]:List (Bj×Value)):=(d5.ext ai.ext).keep (an.block i Om (fun e=>by have:=bs i e.symm;omega));have gd:=an.size;have ea:Mod (fun k=>k=b\/k=i) D bp:=Qn d9 ((Mod.of_ext ai.ext).trans (Xn an fun k n=>.inr (bs k n)))
      have eb:Qb9 bp D.heap.size (rowB cf) N (G.map (Xd7 person)):=(cm.ext ai.ext).keep (fun k b3 b4 V=>by
       refine⟨an.block k b4 (fun e=>?_),?_⟩
       .cases A with
        |none=>simp at e
        |some x=>simp at e;exact V ⟨x,rfl,e⟩
       .rintro ⟨y,K,rfl⟩;subst K;rcases d1 with h|h|h
        .exact V ⟨y,h.symm,rfl⟩
        .cases A with
         |none=>simp at h
         |some x=>simp at h;exact V ⟨x,rfl,h⟩
        .simp at h;omega) an.size
      generalize cn:N++[(person,t,t,((none:Option Addr),0,0))]=H at cv⊢;refine Hh ?_;refine Qc Qb (e:=ty314) rfl dw rfl rfl rfl Oj fun gj dx av=>?_
      have d2:∀y,cf=some y->D.heap.size<=y.block:=fun y K=>(cv.block K).1
      refine Hh ?_;refine⟨(cf,c12,H,[]),⟨ea.trans (Qj av (.inl rfl)),dx,(av.block o Om).trans dz,d6.only av Om,cv.keep fun y K=>av.block _ (by have:=d2 y K;omega),by simp,by simp,?_,N,t,t,G,[],cn.symm,eb.keep (fun k b3 _ V=>⟨av.block k Om,V⟩) (by rw[av.size];exact Zf _),by simp,by rw[bi];simp⟩,Rr⟩;simp only;rw[<- cn];simp;omega
     .intro u;have u:¬(T.length=0\/gap<t-bq):=Su u;obtain⟨L,M,g,P,b0,cq,bi⟩:=cu u;rw[<- b2]at bi;refine Hh ?_;exact⟨(A,c,T,ay),⟨O,m,C,B,F,bw,cj,Sj,L,g.1,g.2.1,M,g.2.2,P,b0.ext aj,cq,bi⟩,Rr⟩
   .clear cj bb U m C B F bh O du;rintro ⟨c0,c1,H,c2⟩ ak ⟨aq,a5,br,c5,b9,c8,d7,de,L,f0,cz,M,cd,P,dc,di,el⟩;simp only at a5 br c5 b9 c8 d7 de P dc di;have ff:=aq.size;refine Hh ?_;refine⟨_,br.one0,Hh ?_⟩;rcases (ck.keep (S':=fun k=>dv k/\k<w.heap.size) Qay fun k n ey=>⟨(bu aq).block k n,ey,n⟩).look Qay Q7i (Qhq Xh5) (e:=ty79) ty79_ok rfl t with⟨b6,aw⟩|⟨bt,fi,St,dm,aw,c9,ed,_⟩
    .rw[ca]at b6;cases b6
    obtain rfl:bo=fi:=by rw[ca]at dm;simpa using dm
    have f3:bt<w.heap.size:=(ed bt c9.1).1.2;have bj:Xv v t=bo.map (·.1):=by unfold Xv;rw[ca];rfl
    refine⟨_,aw .same Qs,Hh ?_⟩;refine(Q84 ak i bt c2 (Xj Value.bool bo) (by have:=R.size;omega) c5 c9.2).mono ?_;rintro _ ac ⟨rfl,ch,d8,dj,et,I⟩;have fh:=I.size;have al:At ac b 314 [.slice c0 H.length c1]:=(I.block b a5.lt Om).trans a5;have a7:At ac o 79 [.map (some i)]:=(I.block o br.lt Om).trans br;have cw:=b9.keep (w':=ac) fun ab J=>I.block ab.block (b9.block J).2 (by have:=(b9.block J).1;omega)
    have ec:=dc.keep (w1:=ac) (R1:=rowB c0) (fun k b3 b4 V=>⟨I.block k b4 Om,V⟩) I.size;have bz:Mod (fun k=>k=b\/k=i) D ac:=aq.trans (I.mono fun k _ n=>.inr n);have cn:0<H.length:=by rw[P];simp
    obtain⟨a1,d0,_⟩:=(cw.sl Qh2).get (k:=H.length-1) Om;subst d0;refine Hh ?_;refine⟨_,al.one0,Hh ?_⟩;refine⟨_,al.one0,Hh ?_⟩;refine⟨((H.length-1:Nat):Int),wrap_eq Om ⟨Om,Om⟩,Hh ?_⟩;refine⟨a1,Ix,Hh ?_⟩;have e1:H[H.length-1]'Om=(person,f0,cz,((none:Option Addr),0,0)):=by simp[P]
    have e4:seC (person,f0,t,((none:Option Addr),0,0))=spl (seC (H[H.length-1]'Om)) 2 (Qg (Vj t)):=by rw[e1];rfl
    refine Qjs Qb (e:=ty3) rfl Qh2 rfl Oj (k:=H.length-1) (f:=2) Om (by decide) _ e4 (a:=a1) (by rw[Q9];rfl) cw fun ao bg E=>?_
    have e2:H.set (H.length-1) (person,f0,t,((none:Option Addr),0,0))=L++[(person,f0,t,((none:Option Addr),0,0))]:=(by rw[P];simp);rw[e2]at bg;have bb:H.length=(L++[(person,f0,t,((none:Option Addr),0,0))]).length:=by rw[P];simp
    have ef:=(cw.block rfl).1;rw[bb]at al;have cm:=ec.keep (w1:=ao) (R1:=rowB (some a1)) (fun k b3 b4 V=>⟨E.block k (fun e=>V ⟨a1,rfl,e⟩),V⟩) (by rw[E.size];exact Zf _);have f5:ch.length<=c2.length+bo.length:=by simpa [Xj] using et
    have f9:(Xv v t).length=bo.length:=by rw[bj];simp
    refine Hh ?_;refine⟨_,wrap_succ Om,Hh ?_⟩;refine⟨(j+1,some a1,c1,L++[(person,f0,t,((none:Option Addr),0,0))],ch),Sj,⟨Sj,Qn bz (Qj E (.inr ef)),(E.block b Om).trans al,(E.block o Om).trans a7,d8.only E Om,bg,fun x hx=>?_,Sj,by simp only;rw[<- bb];exact de,.inr ⟨L,M,(f0,t,cd++Xv v t),rfl,el,cm,fun x=>?_⟩⟩,Rr⟩
    .have e0:x.1∈ch.map (·.1):=Zh.2 ⟨x,hx,rfl⟩;rcases (dj x.1).1 e0 with a3|a3
     .obtain⟨y,K,bl⟩:=Zh.1 a3;rw[<- bl];exact c8 y K
     .refine Q69 ag (t:=t) ?_;rw[bj];simpa [Xj] using a3
    .rw[dj x,di x,Zj,bj];simp[Xj]
  .intro cp;have cp:z.length<=j:=Su cp;rw[Zd cp]at U;refine Hh ?_;refine(Qjq aa D.heap.size A c T b o i ay person _ m C B F (fun x hx=>by have:=bw x hx;omega) Om Om du U).mono ?_;rintro _ ak ⟨rfl,N,a9,b8,a8,aq⟩;have a5:At ak b 314 [.slice A N.length c]:=(by rw[a9];refine(aq.block b m.lt (fun n=>?_)).trans m;obtain⟨ab,J,eh⟩:=n;have:=(F.block J).1;omega)
   have cc:Ext w ak:=(Qn (Mod.of_ext (S:=fun _=>False) (bu O)) (aq.mono fun k _ n=>.inr (by
    obtain⟨ab,J,rfl⟩:=n;have:=(F.block J).1;have:=(bu O).size;have:=R.size;omega))).ext fun _ _ h=>h
   refine Hh ?_;refine⟨_,a5.one0,Hh ?_⟩
   exact⟨A,c,N,rfl,Qhk b8 R.size,⟨a8.len,fun e5 d q eg ew=>by
    obtain⟨e6,e7,e8,e9,fa,fb,fc⟩:=a8.at_ e5 d q eg ew
    exact⟨e6,e7,e8,e9,fa,fun a ah=>by
     obtain⟨fm,fo,fp⟩:=fb a ah;exact⟨Zw R.size fm,fo,fp⟩,fc⟩⟩,cc⟩
theorem Q6n(w S p gap s)(h:Q1y w S p gap s)(e:0<=gap/\gap<=1099511627776)(person)(f:Xmj ((Qe s person).getD [])) :
 Cal Tryz.prog 279 [Pj p,.string person] w fun r w'=>∃A c T,r=.slice A T.length c/\Own seC 4 387 w.heap.size w' A c T/\Qb9 w' w.heap.size (rowB A) T (Qgc gap s person)/\Ext w w':=by
 refine Fi Tryz.func279 rfl _ rfl rfl (Hh ?_);refine(Xci w S p gap s h e person f).mono ?_;rintro _ g ⟨A,c,T,rfl,a,b,d⟩;refine Gg ?_;exact⟨A,c,T,rfl,a,b,d⟩
theorem Q1y.ext{w w1 S p gap s}(h:Q1y w S p gap s)(hx:Ext w w1):Q1y w1 S p gap s:=h.keep fun k a b=>⟨hx.block k a,b⟩
theorem Qx7{β:Type}{c w S b}{m:List (Bj×β)}(h:MapOf Value.string c w S b m):∃L,MapAt w b Value.string L/\L.map (·.1)=m.map (·.1):=by
 obtain⟨L,col,a⟩:=h;refine⟨_,a.map,?_⟩;rw[<- a.eq];simp
theorem Qb9.mono{w n0 b R R1 T Q}(h:Qb9 w b R T Q)(y:n0<=b)(e:∀k,b<=k->k<w.heap.size->¬R k->¬R1 k):Qb9 w n0 R1 T Q:=⟨h.len,fun i d q g j=>by
 obtain⟨l,m,n,o,r,s,u⟩:=h.at_ i d q g j
 exact⟨l,m,n,o,r,fun a f=>by
  obtain⟨v,c,x⟩:=s a f;exact⟨Om,c,e _ v c x⟩,u⟩⟩
structure Xmp(gap:Int)(s:Ses):Prop where
 name:∀x∈s,x.1.size<=1000
 tick:∀person,Xmj ((Qe s person).getD [])
 num:s.length<1000000
 all:∀l:List Bj,l.Sublist (Xh (s.map (·.1)))->(l.flatMap (Qgc gap s)).length<1000000
set_option maxHeartbeats 1000000 in
theorem Q6k(w S p gap s)(h:Q1y w S p gap s)(aw:0<=gap/\gap<=1099511627776)(j:Xmp gap s) :
 Cal Tryz.prog 200 [Pj p] w fun r w'=>∃A c T,r=.slice A T.length c/\Own seC 4 387 w.heap.size w' A c T/\Qb9 w' w.heap.size (rowB A) T (Qky gap s)/\Ext w w':=by
 have aq:=h;obtain⟨ah,h⟩:=h;obtain⟨LK,O,v⟩:=Qx7 h.sums;have I:=j.all;have az:(Xh (s.map (·.1))).length<1000000:=by rw[Qcn,Zg];exact j.num
 unfold Qky;refine Fi Tryz.func200 rfl _ rfl rfl (Hh ?_);refine⟨_,h.head.one rfl,Gg ?_⟩;refine(Q5g (some ah) w).mono ?_;rintro _ be ⟨rfl,R,aa⟩;refine Gg ?_
 refine(Qxz R (O.ext aa) (fun x hx=>by
  have:x.1∈s.map (·.1):=by rw[<- v];exact Zh.2 ⟨x,hx,rfl⟩
  obtain⟨y,M,av⟩:=Zh.1 this;have:=j.name y M;rw[<- av];omega) (by have:=congrArg List.length v;simp at this;have:=j.num;omega)).mono ?_
 rintro _ o ⟨ae,ai,rfl,K,a4⟩;rw[v]at K⊢;have E:=aa.trans a4;have V:=K.sl Qv;generalize Xh (s.map (·.1))=b at V I az⊢;clear K R O v;refine Gg ?_
 refine Qh Qb (fun(q:Nat×Option Addr×Nat×List SnH) w'=>q.1<=b.length/\Ext o w'/\Own seC 4 387 o.heap.size w' q.2.1 q.2.2.1 q.2.2.2/\Qb9 w' o.heap.size (rowB q.2.1) q.2.2.2 ((b.take q.1).flatMap (Qgc gap s)))
  (fun|(k,A,c,T)=>[(0,Pj p),(11,.slice ae b.length ai),(12,Vj b.length),(13,Vj k),(3,.slice A T.length c)]) (fun q=>b.length-q.1) (0,none,0,[]) ⟨by simp,Ext.refl _,Own.nil,Qb9.nil⟩ Rr ?_
 rintro ⟨k,A,c,T⟩ ab ⟨ax,n,D,g⟩;simp only at ax D g;have ar:=I (b.take k) (Zc8 _ _);have au:=g.len;refine Gg ?_;constructor
 .intro C;have C:k<b.length:=Su C;obtain⟨a,an,P⟩:=(V.ext n).get C;subst an;have m:(b.take (k+1)).flatMap (Qgc gap s)=(b.take k).flatMap (Qgc gap s)++Qgc gap s b[k]:=(by rw[Za C,Zbn];simp);have z:=I (b.take (k+1)) (Zc8 _ _);generalize b[k]=person at P m;refine Gg ?_;refine⟨a,Ix,Gg ?_⟩;refine⟨.string person,Qp P,Gg ?_⟩;refine(Q6n ab S p gap s (aq.ext (E.trans n)) aw person (j.tick person)).mono ?_;rintro _ ac ⟨a7,a8,H,rfl,a0,L,F⟩;rw[m]at z;rw[Zo]at z;have ay:=L.len;have bb:=n.size;have bd:=F.size;have Z:=g.ext F;have Y:=D.ext F;have a3:=D;generalize (b.take k).flatMap (Qgc gap s)=Q at m ar z au Z;generalize Qgc gap s person=af at m z ay L;clear g;refine Gg ?_;refine Qq Xjx (l:=T) (news:=H) rfl Y rfl (a0.sl Qh2) Om Om fun u aj w5 W B ao=>?_
  have a5:=Qu (n.trans F) B (Xm Y)
  have U:∀d,d<ac.heap.size->¬rowB A d->w5.heap[d]?=ac.heap[d]? /\ ¬rowB u d:=fun d i f=>by
   refine⟨B.block d i (fun e=>?_),?_⟩
   .cases A with
    |none=>simp at e
    |some x=>simp at e;exact f ⟨x,rfl,e⟩
   .rintro ⟨y,M,rfl⟩;subst M;rcases ao with h|h|h
    .exact f ⟨y,h.symm,rfl⟩
    .cases A with
     |none=>simp at h
     |some x=>simp at h;exact f ⟨x,rfl,h⟩
    .simp at h;omega
  have ak:Qb9 w5 o.heap.size (rowB u) T Q:=Z.keep (fun d _ i f=>U d i f) B.size
  have al:Qb9 w5 o.heap.size (rowB u) H af:=by
   refine((L.mono (n0:=ab.heap.size) (R1:=rowB A) (Zf _) fun d a9 _ _=>?_).keep (fun d _ i f=>U d i f) B.size).mono Om fun _ _ _ h=>h
   rintro ⟨x,hx,rfl⟩;have:=(a3.block hx).2;omega
  have N:=ak.append al;generalize T++H=ag at W N⊢;refine Gg ?_;refine⟨_,wrap_succ Om,Gg ?_⟩;exact⟨(k+1,u,aj,ag),Sj,⟨Sj,a5,W,by simp only;rw[m];exact N⟩,Rr⟩
 .intro J;have J:b.length<=k:=Su J;rw[Zd J]at g;refine Gg ?_;exact⟨A,c,T,rfl,Qhk D E.size,g.mono E.size fun _ _ _ h=>h,E.trans n⟩
end Go.Proofs.YtnpacgccajekgaaGreatDoor
namespace Go.Proofs.YtnpacgccajekgaaGreatDoor
open Go.RowKit Go.Shelf Go.Se
attribute [local go_sem] Oper.semAt_some
def Qu2(l:List Bj)(j:Nat):Bj:=l[j]?.getD ⟨#[]⟩
def Qqj(l:List Bj)(k:Nat):List Bj:=(List.range k).map (Qu2 l)
theorem Qsj(l k):Qqj l (k+1)=Qqj l k++[Qu2 l k]:=by simp[Qqj,Zch]
theorem Qyk(l k):(Qqj l k).length=k:=by simp[Qqj]
theorem Xdy(l):Qqj l l.length=l:=by
 apply List.ext_getElem
 .simp[Qqj]
 .intro c b a;simp[Qqj,Qu2,a]
set_option maxRecDepth 100000 in
set_option maxHeartbeats 2000000 in
theorem values1_in(F n)(h7:F.fn 358)(hro:F.round=none)(hn:1<=n)(l Bs n₀ b off cap zs)(hreach:zs.length*16<=140737488351232)(hb:b<n₀)(J Jx:List Bj->World->Prop)
 (hY:∀pre x W,J pre W->pre.length<zs.length->YieldAt F (n-1) Tryz.prog l #[.string x] W fun e W' =>
  (e=.returned (.bool true)/\J (pre++[x]) W'/\Below n₀ W W')\/(e=.returned (.bool false)/\Jx (pre++[x]) W'))
 (W)(hBs:W.cell? ⟨Bs,0,none⟩=some (.slice (some ⟨b,off,none⟩) zs.length cap))(hc:∀j,j<zs.length->W.cell? ⟨b,off+j,none⟩=some (.string (Qu2 zs j)))(h0:J [] W) :
 CallsIn F n Tryz.prog 358 #[.func (.yield l) #[] #[],Pj Bs] W fun e W'=>(∃v,e=.returned v) /\
  ((∃ys,ys=Qqj zs zs.length/\J ys W')\/(∃pre,(∃k,k<=zs.length/\pre=Qqj zs k)/\Jx pre W')):=by
 refine callsIn_of_wp Tryz.func358 rfl h7 ?_ hro;simp only[Tryz.ntmps358,Za4,Zx,Zae,Nat.reduceAdd,Nat.reduceSub,Zcm,Zcn,Zdb,Zcr,Zah,Za1]
 gi_wp2
 gi_loopw [7] (fun i wr=>∃k:Nat,k<=zs.length/\i=Vj k/\J (Qqj zs k) wr/\Below n₀ W wr)
  (fun i _=>zs.length-(intOf i).toNat)
 case atStart=>exact⟨0,Zt _,rfl,h0,Below.refl _ _⟩
 case round =>
  obtain⟨k,hk,rfl,hJs,hnx⟩:=hrel;have hcx:k<zs.length->wr.cell? ⟨b,off+k,none⟩=some (.string (Qu2 zs k)):=fun h=>(hnx.cell (p:=⟨b,off+k,none⟩) hb).trans (hc k h)
  by_cases hlt:k<zs.length
  .obtain⟨fn,tmps,assign,body,hy,hR⟩:=hY _ (Qu2 zs k) wr hJs (by rw[Qyk];exact hlt);have hcx':=hcx hlt
   gi_wp2
   refine hR.mono ?_;rintro e W3 (⟨rfl,hJ3,hk3⟩|⟨rfl,hJx3⟩)
   .gi_wp2
    go_roundw
    case rel=>exact⟨k+1,Om,by simp,by rw[Qsj];exact hJ3,hnx.trans hk3⟩
    case measure=>simp[intOf];omega
   .gi_wp2
    refine bodyPost_ret (results_none rfl _ _ _) rfl ?_;exact⟨⟨_,rfl⟩,.inr ⟨_,⟨k+1,Om,(Qsj _ _).symm⟩,hJx3⟩⟩
  .obtain rfl:k=zs.length:=Om
   gi_wp2
   go_end0
   exact⟨⟨_,rfl⟩,.inl ⟨_,rfl,hJs⟩⟩
set_option maxRecDepth 100000 in
set_option maxHeartbeats 1000000 in
theorem values1_nil_in(F n)(h7:F.fn 358)(hro:F.round=none)(l Bs a cap)(J:List Bj->World->Prop)(W)(hBs:W.cell? ⟨Bs,0,none⟩=some (.slice a 0 cap))(h0:J [] W) :
 CallsIn F n Tryz.prog 358 #[.func (.yield l) #[] #[],Pj Bs] W fun e W'=>(∃v,e=.returned v)/\J [] W':=by
 refine callsIn_of_wp Tryz.func358 rfl h7 ?_ hro;simp only[Tryz.ntmps358,Za4,Zx,Zae,Nat.reduceAdd,Nat.reduceSub,Zcm,Zcn,Zdb,Zcr,Zah,Za1]
 gi_wp2
 gi_loopw [7] (fun i wr=>i=Vj 0/\J [] wr) (fun _ _=>0)
 case atStart=>exact⟨rfl,h0⟩
 case round =>
  obtain⟨rfl,hJs⟩:=hrel
  gi_wp2
  go_end0
  exact⟨⟨_,rfl⟩,hJs⟩
theorem values_stops(F n)(s:F.fn 358)(B:F.round=none)(P:1<=n)(c i A cap zs)(U:zs.length*16<=140737488351232)(w)(K:c<w.heap.size)(R:i<=w.heap.size)
 (M:w.cell? ⟨c,0,none⟩=some (.slice A zs.length cap))(u:SlT w A zs)(I:∀a,A=some a->a.block<i/\a.spot=none) :
 SeqStopsK F n Tryz.prog 358 #[Pj c] (fun x:Bj=>#[Value.string x]) (Below i) (fun ys=>ys=zs) (fun _=>True) zs.length w:=fun l J C W v _ _ L o=>by
 have z:=(v.cell (p:=⟨c,0,none⟩) K).trans M
 by_cases g:zs=[]
 .subst g;exact(values1_nil_in F n s B l c A cap J W z o).mono fun e D ⟨h,b⟩=>⟨h,.inl ⟨_,rfl,b⟩⟩
 .have S:0<zs.length:=Zad.2 g;obtain⟨a,rfl,_⟩:=u.get S;obtain⟨m,y⟩:=I a rfl;obtain⟨d,f,ap⟩:=a;simp only at m y;subst y
  have O:∀j,j<zs.length->W.cell? ⟨d,f+j,none⟩=some (.string (Qu2 zs j)):=fun j b=>by
   obtain⟨E,k,N⟩:=u.get b;have k:(⟨d,f,none⟩:Addr)=E:=Su k;subst k;have r:=N 0 (.string zs[j]) rfl;rw[show Qu2 zs j=zs[j] by simp[Qu2,b]];refine(v.cell (p:=⟨d,f+j,none⟩) (Zat m R)).trans ?_
   have H:((⟨d,f,none⟩:Addr).add (j*1)).add 0=⟨d,f+j,none⟩:=by
    rw[Q9];simp only[Addr.add];split
    .next g=>simp at g;rw[g];rfl
    .simp
   rw[H]at r;exact r
  refine(values1_in F n s B P l c i d f cap zs U m J C L W z O o).mono ?_;rintro e D ⟨h,⟨ys,rfl,b⟩|⟨pre,_,b⟩⟩
  .exact⟨h,.inl ⟨_,Xdy zs,b⟩⟩
  .exact⟨h,.inr ⟨_,trivial,b⟩⟩
theorem Xjd:(Tryz.prog.info? 9).map (fun i=>(i.zero,i.size,i.bytes))=some (some (.string ⟨#[]⟩),1,16):=by kernel_rfl
set_option maxRecDepth 100000 in
set_option maxHeartbeats 2000000 in
theorem appendSeq_in(F n)(h3:F.fn 245)(h5:F.fn 358)(hro:F.round=none)(hn:3<=n)(Bs A cap zs)(hlen:zs.length<=maxLen)(hbytes:zs.length*16<=140737488351232)(w)(hBs:Bs<w.heap.size)
 (hc:w.cell? ⟨Bs,0,none⟩=some (.slice A zs.length cap))(hI:SlT w A zs)(hA:∀a,A=some a->a.block<w.heap.size/\a.spot=none) :
 CallsIn F n Tryz.prog 245 #[.slice none 0 0,.func (.func 358) #[] #[Pj Bs]] w fun e W'=>∃v,e=.returned v/\W'.ownsRow w.heap.size 9 1 v zs.length (zs.map Value.string)/\Below w.heap.size w W':=by
 have h1:1<=n:=Om;obtain⟨i0,hi,hz0,hz1,hz2⟩:=info_parts Xjd;refine callsIn_of_wp_marks Tryz.func245 rfl h3 ?_ hro;simp only[Tryz.ntmps245,Za4,Zx,Zae,Nat.reduceAdd,Nat.reduceSub,Zcm,Zcn,Zdb,Zcr,Zah,Za1]
 gi_wp2
 have bO:=Boxed.new w 42 (.slice none 0 0);have hB0:Below w.heap.size w (w.alloc (.cells #[.slice none 0 0] 42)):=(Below.refl _ w).alloc (Zf _) _
 refine wpIn_rangeFunc_ownG hro h1 (gf:=358) (lb:= #[Pj Bs]) rfl h5 (enters_of Tryz.func358 Kr rfl)
  (values_stops F (n-1) h5 hro Om Bs w.heap.size A cap zs hbytes _ (by simp<;>omega) (by simp) ((hB0.cell (p:=⟨Bs,0,none⟩) hBs).trans hc) (hI.ext hB0) hA) belowK_t (belowK_b (by simp<;>omega)) (Below.refl _ _) (fun _=>rfl)
  (fun pre W=>(∃v,Boxed W w.heap.size 42 v/\W.ownsRow w.heap.size 9 1 v pre.length (pre.map Value.string)/\True)/\Below w.heap.size w W)
  (fun _ _ _=>False)
  (OwnFrom.and (Own.from (holdsRow_own w.heap.size w.heap.size 42 9 1 (fun pre:List Bj=>pre.length) (fun pre=>pre.map Value.string) (fun _ _=>True)) _) (ownFrom_below (Zf _) (by simp<;>omega)))
  (fun _ _ _ _ _ hs _ _=>hs)
  ⟨⟨_,bO,World.ownsRow_nil _ _ _ _,trivial⟩,hB0⟩
  (fun x=>{ tmps:= #[.slice none 0 0,.func (.func 358) #[] #[Pj Bs],Pj w.heap.size,undef,.slice none 0 0,.string x,.func (.func 358) #[] #[Pj Bs],.string x,undef,undef,undef,undef,undef],defers:= [] }) ?assign ?body ?done ?stop
 case assign =>
  intro l x W K hK
  gi_wp2
  exact hK
 case body =>
  rintro l pre x W ⟨⟨v,hv,hrow,_⟩,hB⟩ hlt;have hc:=hv.cell
  gi_wp2_with (gi_at_builtin;refine wpListIn_append_own _ rfl _ _ 42 rfl w.heap.size 9 i0 (.string ⟨#[]⟩) 1 16 Tryz.underlying42 hi hz0 hz1 hz2 rfl (by decide) _ _ _ rfl (hrow.alloc _) ⟨W.heap.size,0,none⟩ 1 1 [.string x] rfl rfl (cell_one_new _ _ _) (by simp[Value.oneCell']) Om Om (by have:=hB.size;simp;omega) ?_;intro v' w1 hown' hgrow _;obtain⟨g',cap',rfl⟩:=ownsRow_succ hown';obtain⟨hv1,hv2,hr2,hk2,hb2⟩:=hv.appended (by decide) hrow hB.size (Zf _) hown' hgrow;have hc1:=hv1.cell;have hf1:=hv1.frozen)
  exact⟨hk2.from _,hb2,⟨_,hv2,Su hr2,trivial⟩,hB.trans hb2⟩
 case done =>
  rintro D ys W hD rfl ⟨⟨v,hv,hrow,_⟩,hB⟩ hK;have hc:=hv.cell
  gi_wp2
  refine⟨by simp,.inl ⟨_,_,rfl,run_takeDeferred hK,?_⟩⟩;exact⟨_,results_tmp rfl _ _ _,v,rfl,ownsRow_putObj hrow _ hK rfl,hB.trans (belowK_b (w:=w) (Zf _) W D _ _ (by simp at hD;omega) hK rfl rfl)⟩
 case stop =>
  rintro D c pre W _ _ h _;exact h.elim
end Go.Proofs.YtnpacgccajekgaaGreatDoor
namespace Go.Proofs.YtnpacgccajekgaaGreatDoor
open Go.Se Go.RowKit Go.Shelf Go.Maps Go.Sort
theorem Qh9(l:List Bj):l.flatMap Qac=(l.map fun x=>x.data.toList).map encStr:=by
 rw[show Qac=fun x=>[Value.string x] from rfl,Qfe,Zz];rfl
theorem Q6s(l):((l.map fun x=>x.data.toList).mergeSort fun x y=>decide (x<=y)).map encStr=(Xh l).flatMap Qac:=by
 have f:((l.map fun x=>x.data.toList).mergeSort fun x y=>decide (x<=y)).map (fun x=>(⟨x.toArray⟩:Bj))=Xh l:=by
  apply Qc1
  .have d:=Zby (l.map fun x=>x.data.toList) fun x y=>decide (x<=y)
   have e:=d.map (fun x=>(⟨x.toArray⟩:Bj));simpa [Zz,Function.comp_def] using e
  .unfold Srt;rw[Z5];have:=Zbf (le:=fun x y:List UInt8=>decide (x<=y)) (fun a b c d e=>by simp only[decide_eq_true_eq]at*;exact List.le_trans d e) (fun a b=>by simp only[Zbg,decide_eq_true_eq];exact List.le_total a b) (l.map fun x=>x.data.toList);refine this.imp fun {a b} h=>?_
   simp only[decide_eq_true_eq]at h;unfold bLt;rw[ByteArray.toList_eq,ByteArray.toList_eq,bytesLess_eq];simpa using h
 rw[<- f,show Qac=fun x=>[Value.string x] from rfl,Qfe,Zz];rfl
theorem Q6q(l A c base w)(j:Own Qac 1 9 base w A c l)(S:l.length<1000000) :
 Cal Tryz.prog 182 [.slice A l.length c] w fun r w'=>r=.tuple #[]/\Own Qac 1 9 base w' A c (Xh l)/\∀b,Ext b w->b.heap.size<=base->Ext b w':=by
 by_cases f:l=[]
 .subst f;refine Qae ⟨_,Tryz.func182,rfl,rfl⟩ (AnyM.slices_Sort_string_none Tryz.sort182 A c w) ?_;rintro w' rfl;rw[Qgf];exact⟨rfl,j,fun b h _=>h⟩
 .have U:0<l.length:=Zad.2 f;rcases j.2 with⟨_,P⟩|⟨d,cap,O,L,z,e,B,C,D,E⟩
  .omega
  injection L with u _ F;subst u;subst F;have a:(l.map fun x=>x.data.toList).length=l.length:=Zg _;have v:Holds encStr w d 0 (l.map fun x=>x.data.toList).toArray:=holds_of_block e (by rw[a,<- Qh9,<- E,Zbl]);have i:=AnyM.slices_Sort_string Tryz.sort182 d 0 c (l.map fun x=>x.data.toList) w v (lt_of_block e) (by rw[a];omega);rw[a]at i;refine Qae ⟨_,Tryz.func182,rfl,rfl⟩ i ?_;rintro w' ⟨n,os,rfl⟩;refine⟨rfl,?_,fun b hx R=>?_⟩
  .have m:=ownsRow_sorted (w:=w) (n:=n) (os:=os) (ss:=l.map fun x=>x.data.toList) (ts:=(l.map fun x=>x.data.toList).mergeSort fun x y=>decide (x<=y)) (by simp) z e (by rw[a];exact B) C D;rw[a,Q6s]at m;obtain⟨M,N,H,K⟩:=Qcz (enc:=Qac) (l:=Xh l) m (Qcn l).symm rfl;injection H with o _ s;rw[o,s];exact K
  .have I:=grownBy_sorted (w:=w) (g:=d) (n:=n) (os:=os) ((l.map fun x=>x.data.toList).mergeSort fun x y=>decide (x<=y)).toArray;exact Qu hx I fun k J=>by cases J;omega
theorem Qm7(A n c w):Cal Tryz.prog 307 [.slice A n c] w fun r w'=>∃b,r=.func (.func 358) #[] #[Pj b]/\At w' b 42 [.slice A n c]/\Ext w w':=by
 refine Fi Tryz.func307 rfl _ rfl rfl (Hh ?_);intro d e a;refine Hh ?_;exact⟨d,rfl,a.At,a.ext⟩
theorem Qs4(w b A c l)(g:At w b 42 [.slice A l.length c])(o:SlT w A l)(j:∀a,A=some a->a.block<w.heap.size/\a.spot=none)(s:l.length<1000000) :
 Cal Tryz.prog 181 [.func (.func 358) #[] #[Pj b]] w fun r w'=>∃d f,r=.slice d l.length f/\Own Qac 1 9 w.heap.size w' d f l/\Ext w w':=by
 refine Fi Tryz.func181 rfl _ rfl rfl (Hh ?_);refine Cal.mono (R:=fun r w'=>∃d f,r=.slice d l.length f/\Own Qac 1 9 w.heap.size w' d f l/\Ext w w') ⟨⟨_,Tryz.func245,rfl,rfl⟩,(callsIn_wide.1 (appendSeq_in Fence.wide 5 trivial trivial rfl Om b A c l (by unfold maxLen;omega) Om w g.lt g.one0 o j)).mono ?_⟩ ?_
 .rintro e w' ⟨v,rfl,n,k⟩;obtain⟨d,f,rfl,m⟩:=Qcz (enc:=Qac) (l:=l) n rfl (by rw[show Qac=fun x=>[Value.string x] from rfl,Qfe]);exact⟨_,rfl,d,f,rfl,m,k⟩
 .rintro _ u ⟨d,f,rfl,h,i⟩;refine Hh ?_;exact⟨d,f,rfl,h,i⟩
theorem Qm2(w b A c l)(m:At w b 42 [.slice A l.length c])(n:SlT w A l)(k:∀a,A=some a->a.block<w.heap.size/\a.spot=none)(f:l.length<1000000) :
 Cal Tryz.prog 114 [.func (.func 358) #[] #[Pj b]] w fun r w'=>∃d e,r=.slice d l.length e/\Own Qac 1 9 w.heap.size w' d e (Xh l)/\Ext w w':=by
 refine Fi Tryz.func114 rfl _ rfl rfl (Hh ?_);refine(Qs4 w b A c l m n k f).mono ?_;rintro _ o ⟨d,e,rfl,g,h⟩;refine Hh ?_;refine(Q6q l d e w.heap.size o g f).mono ?_;rintro _ s ⟨rfl,i,j⟩;refine Hh ?_;exact⟨d,e,rfl,i,j w h (Zf _)⟩
theorem Qs5{zs:List (List UInt8)}(h:zs.Nodup):Lib.compact zs=zs:=by
 refine Lib.compact_all zs fun a d=>?_
 unfold Lib.keeps;rw[decide_eq_true_eq]
 by_cases b:a=0
 .exact .inl b
 .right
  rw[getElem!_pos zs.toArray a (Su d),getElem!_pos zs.toArray (a-1) (by simp;omega)];simp only[List.getElem_toArray];intro c;have:=(List.getElem_inj h).1 c;omega
theorem Qy0{l:List Bj}(h:l.Nodup):(l.map fun x=>x.data.toList).Nodup:=by
 rw[Zaj]at h⊢;rw[Z5];refine h.imp fun c e=>c ?_
 rename_i a b;have:=congrArg List.toArray e;simp at this;cases a;cases b;simpa using this
theorem Q4s(l)(I:l.Nodup)(A c base w)(m:Own Qac 1 9 base w A c l)(R:l.length<1000000) :
 Cal Tryz.prog 306 [.slice A l.length c] w fun r w'=>r=.slice A l.length c/\Own Qac 1 9 base w' A c l/\∀d,Ext d w->d.heap.size<=base->Ext d w':=by
 by_cases e:l=[]
 .subst e;refine Qae ⟨_,Tryz.func306,rfl,rfl⟩ (Tryz.slices_Compact_string_empty A c w) ?_;rintro w' rfl;exact⟨rfl,m,fun d h _=>h⟩
 .have S:0<l.length:=Zad.2 e;rcases m.2 with⟨_,O⟩|⟨b,cap,N,K,v,j,f,y,z,B⟩
  .omega
  injection K with s _ C;subst s;subst C;have a:(l.map fun x=>x.data.toList).length=l.length:=Zg _;have u:Holds encStr w b 0 (l.map fun x=>x.data.toList).toArray:=holds_of_block j (by rw[a,<- Qh9,<- B,Zbl]);have i:=Tryz.slices_Compact_string b 0 c (l.map fun x=>x.data.toList) w u (by rw[a];omega) (by rw[a];exact f);rw[Qs5 (Qy0 I),a,Nat.sub_self,List.replicate_zero,Z4]at i;refine Qae ⟨_,Tryz.func306,rfl,rfl⟩ i ?_;rintro w' ⟨q,rfl⟩;have F:putRow encStr (Sort.ahead w q) b 0 (l.map fun x=>x.data.toList).toArray=grow (putRow encStr (Sort.ahead w q) b 0 (l.map fun x=>x.data.toList).toArray) #[]:=by rw[grow_empty]
  rw[F];refine⟨rfl,?_,fun d hx P=>?_⟩
  .have o:=ownsRow_sorted (w:=w) (n:=q) (os:= #[]) (ss:=l.map fun x=>x.data.toList) (ts:=l.map fun x=>x.data.toList) rfl v j (by rw[a];exact f) y z;rw[a,<- Qh9]at o;obtain⟨L,M,D,J⟩:=Qcz (enc:=Qac) (l:=l) o rfl rfl;cases D;exact J
  .have E:=grownBy_sorted (w:=w) (g:=b) (n:=q) (os:= #[]) (l.map fun x=>x.data.toList).toArray;exact Qu hx E fun k H=>by cases H;omega
theorem Q6r(l):Xh (Qci l)=Qci l:=(Qc1 (Za9 _) (Qgg _)).symm
end Go.Proofs.YtnpacgccajekgaaGreatDoor
namespace Go.Proofs.YtnpacgccajekgaaGreatDoor
open Go.Se Go.RowKit
theorem Q1r:Tryz.prog.underlying 125=some (.map 9 3):=by kernel_rfl
theorem Qyh:Tryz.prog.underlying 395=some (.map 9 125):=by kernel_rfl
theorem Ql3{w b}{m:List (Bj×Int)}(h:MapAt w b Value.string (Xj vi m))(a:Bj){cl}(c:Kept cl w b):RdS Tryz.prog cl w (Instr.lookup 125 (.map (some b)) (.string a) false) (vi ((Qe m a).getD 0)):=by
 have:=X5 Q1r (Qr Xd) (e:=ty3) ty3_ok (cl:=cl) c h a;rw[show (Qe (Xj vi m) a).getD ty3.zero=vi ((Qe m a).getD 0) from Xt vi _ _ 0]at this;exact this
theorem Q0u(w S t sg ct b1 b2)(h:Q76 w S t sg ct b1 b2)(a)(i:0<=(Qe sg a).getD 0/\(Qe sg a).getD 0<1000000000) :
 Cal Tryz.prog 283 [Pj t,.string a,Vj 1] w fun r w'=>r=.tuple #[]/\Q76 w' S t (Xe sg a ((Qe sg a).getD 0+1)) ct b1 b2/\Mod S w w':=by
 refine Fi Tryz.func283 rfl _ rfl rfl (Hh ?_);refine⟨.map (some b1),h.head.one rfl,Hh ?_⟩;refine⟨_,Ql3 h.sg a Qs,Hh ?_⟩;refine⟨(Qe sg a).getD 0+1,wrap_eq rfl ⟨Om,Om⟩,Hh ?_⟩;refine Qx Q1r (Qr Xd) h.sg a (vi ((Qe sg a).getD 0+1)) fun l b c=>?_
 rw[Xc]at b;have f:b1≠t:=h.mine.2.2;have d:=c.at_ h.head (Ne.symm f);refine Hh ?_;refine⟨.map (some b1),d.one rfl,Hh ?_⟩;refine⟨_,Ql3 b a Qs,?_⟩;rw[Q8];refine Hh ?_;constructor
 .intro g;exfalso;simp at g;omega
 intro _;refine Hh ?_;exact⟨rfl,⟨h.mine,d,b,h.ct.keep Qa5 fun k j e=>⟨c.block k e.2.2,e⟩⟩,Qj c h.mine.2.1⟩
theorem Xfh{a:Type}{enc:a->Value}{P w b L mt f c}(e:P.underlying mt=some (.map f c))(d:MapAt w b enc L):RdS P .same w (Builtin.len_ #[mt] 0 #[.map (some b)]) (Vj (L.length:Int)):=Xat e Qs d
theorem Xbi(w S t sg ct b1 b2)(h:Q76 w S t sg ct b1 b2)(a x)(J:0<=(Qe ((Qe ct a).getD []) x).getD 0/\(Qe ((Qe ct a).getD []) x).getD 0<1000000000) :
 Cal Tryz.prog 284 [Pj t,.string a,.string x,Vj 1] w fun r w'=>r=.tuple #[]/\Q76 w' (Grow S w) t sg (Xe ct a (Xe ((Qe ct a).getD []) x ((Qe ((Qe ct a).getD []) x).getD 0+1))) b1 b2/\Mod S w w':=by
 have aa:=h.head.lt;have W:=h.sg.lt;refine Fi Tryz.func284 rfl _ rfl rfl (Hh ?_)
 refine Xi Qb (ι:=Qyn) (fun _=>[(0,Pj t),(1,.string a),(2,.string x),(3,Vj 1)])
  (fun s w'=>(∃c,Qe s a=some c/\c=(Qe ct a).getD [])/\(∀v,Xe s a v=Xe ct a v)/\MapOf Value.string Xh9 w' (fun k=>Grow S w k/\k≠t/\k≠b1) b2 s/\At w' t 397 [.map (some b1),.map (some b2)]/\MapAt w' b1 Value.string (Xj vi sg)/\Mod S w w') ?_ ?_
 . (conv=>whnf)
   refine⟨.map (some b2),h.head.one rfl,Hh ?_⟩;rcases h.ct.look Qa5 Qyh (Qr Xd) (e:=ty125) ty125_ok rfl a with⟨m,l⟩|⟨b,v,I,o,l,g,B,_⟩
   .refine⟨_,l .same Qs,Hh ?_⟩;refine⟨_,Qaz Q1r none _ _,Hh ?_⟩;constructor
    .intro _;refine Hh ?_;refine⟨.map (some b2),h.head.one rfl,Hh ?_⟩;intro U R j;refine Hh ?_;have V:=j.block;refine h.ct.insert Qa5 Qyh (Qr Xd) a m j.ext (v:= []) ⟨Om,MapAt.new j⟩ fun H i f=>?_
     refine Hh ?_;have C:=h.ct.lt.2.2;refine⟨Xe ct a [],⟨⟨[],Q8 _ _ _,by rw[m];rfl⟩,fun v=>Qdp a [] v ct,?_,?_,?_,?_⟩,Rr⟩
     .refine i.keep Qa5 fun k _ d=>⟨rfl,?_⟩
      rcases d with d|d
      .exact⟨.inl d.1,d.2⟩
      .exact⟨.inr d,Om,Om⟩
     .exact f.at_ (h.head.ext j.ext) (Ne.symm C.1)
     .exact(h.sg.ext j.ext).only f (Ne.symm C.2)
     .exact(Mod.of_ext j.ext).trans (Qj f h.ct.lt.2.1)
    .intro q;cases q
   .refine⟨_,l .same Qs,Hh ?_⟩;refine⟨_,Qaz Q1r (some b) _ _,Hh ?_⟩;constructor
    .intro q;cases q
    .intro _;refine Hh ?_;refine⟨ct,⟨⟨v,o,by rw[o];rfl⟩,fun v=>rfl,h.ct.keep Qa5 fun k _ d=>⟨rfl,.inl d.1,d.2⟩,h.head,h.sg,Mod.refl _ _⟩,Rr⟩
 rintro s R ⟨⟨c,D,L⟩,P,O,A,F,E⟩;refine Hh ?_;refine⟨.map (some b2),A.one rfl,Hh ?_⟩;rcases O.look Qa5 Qyh (Qr Xd) (e:=ty125) ty125_ok rfl a with⟨m,l⟩|⟨b,v,I,o,l,g,B,K⟩
 .rw[D]at m;cases m
 obtain rfl:c=v:=by rw[D]at o;simpa using o
 rw[<- L]at J⊢;refine⟨_,l .same Qs,Gg ?_⟩;refine⟨_,Ql3 g.2 x Qs,Hh ?_⟩;refine⟨(Qe c x).getD 0+1,wrap_eq rfl ⟨Om,Om⟩,Hh ?_⟩;refine Qx Q1r (Qr Xd) g.2 x (vi ((Qe c x).getD 0+1)) fun H i f=>?_
 rw[Xc]at i;refine Hh ?_;refine⟨_,Ql3 i x Qs,?_⟩;rw[Q8];refine Hh ?_;constructor
 .intro z;exfalso;simp at z;omega
 intro _;refine Hh ?_;refine⟨_,Xfh Q1r i,?_⟩
 have M:0<(Xj vi (Xe c x ((Qe c x).getD 0+1))).length:=by
  have:Qe (Xe c x ((Qe c x).getD 0+1)) x=some ((Qe c x).getD 0+1):=Q8 _ _ _
  cases N:Xe c x ((Qe c x).getD 0+1) with
  |nil=>rw[N]at this;cases this
  |cons y ab=>simp[Xj]
 generalize (Xj vi (Xe c x ((Qe c x).getD 0+1))).length=n at M⊢;refine Hh ?_;constructor
 .intro z;exfalso;simp at z;omega
 intro _;refine Hh ?_;have u:=B b g.1;have hfin:=K H (Xe c x ((Qe c x).getD 0+1)) ⟨.inl g.1,i⟩ (Qj f g.1);rw[P]at hfin;have Y:=A.lt;have Z:=F.lt;refine⟨rfl,⟨⟨.inl h.mine.1,.inl h.mine.2.1,h.mine.2.2⟩,f.at_ A (fun q=>u.1.2.1 q.symm),F.only f (fun q=>u.1.2.2 q.symm),?_⟩,Qn E (Qj f u.1.1)⟩;refine hfin.keep Qa5 fun k _ d=>⟨rfl,?_⟩
 rcases d with d|d
 .exact d
 .exact⟨.inr (by have:=E.size;omega),Om,Om⟩
theorem Q0t(Ss s a):(Qa6 (Ss++[s]) a:Int)=Qa6 Ss a+if a∈s.items then 1 else 0:=by
 unfold Qa6 hasB;rw[Zq,Zo]
 by_cases h:a∈s.items<;>simp[h]
theorem Xbh(Ss s a b):(Qd6 (Ss++[s]) a b:Int)=Qd6 Ss a b+if a∈s.items/\b∈s.items then 1 else 0:=by
 unfold Qd6 hasB;rw[Zq,Zo]
 by_cases h:a∈s.items<;>by_cases c:b∈s.items<;>simp[h,c]
theorem Qkj{l:List Bj}{k}(a:k<l.length)(x):x∈l.take (k+1)↔x∈l.take k\/x=l[k]:=by
 rw[Za a,Zj,Zl]
theorem Qmo{l:List Bj}(c:l.Nodup){k}(d:k<l.length):l[k]∉l.take k:=by
 intro h;obtain⟨e,b,a⟩:=Za2 h;rw[Zn]at b;rw[List.getElem_take]at a;have:=(List.getElem_inj c).1 a;omega
theorem grow_grow{S w w1}(h:w.heap.size<=w1.heap.size)(k)(a:Grow (Grow S w) w1 k):Grow S w k:=by
 rcases a with a|a
 .exact a
 .exact .inr Om
theorem Qwn{m}(a x:Bj)(n:Int):(Qe (Xe m a n) x).getD 0=if x=a then n else(Qe m x).getD 0:=by
 rw[Xr];split<;>simp
theorem Q48{ct:Qyn}(a b x y n):(Qe ((Qe (Xe ct a (Xe ((Qe ct a).getD []) b n)) x).getD []) y).getD 0=if x=a/\y=b then n else(Qe ((Qe ct x).getD []) y).getD 0:=by
 rw[Xr]
 by_cases h:x=a
 .rw[if_pos h];simp only[Zas];rw[Qwn,h]
  by_cases c:y=b<;>simp[c]
 .rw[if_neg h,if_neg (fun d=>h d.1)]
set_option maxHeartbeats 1000000 in
theorem Q78(w S t Ss)(h:TabAt w S t Ss)(bj:Ss.length<1000000)(s)(aw:s.items.Nodup)(bi:s.items.length<1000000)(A c)(bd:SlT w A s.items)(al:∀a,A=some a->¬S a.block/\a.block<w.heap.size) :
 Cal Tryz.prog 341 [Pj t,.slice A s.items.length c,Vj 1] w fun r w'=>r=.tuple #[]/\TabAt w' (Grow S w) t (Ss++[s])/\Mod S w w':=by
 obtain⟨sg,ct,D,E,an,H⟩:=h;have az:∀a,0<=(Qe sg a).getD 0/\(Qe sg a).getD 0<1000000:=fun a=>by rw[H.sg a];have:=Qh5 Ss a;omega
 have av:∀a b,0<=(Qe ((Qe ct a).getD []) b).getD 0/\(Qe ((Qe ct a).getD []) b).getD 0<1000000:=fun a b=>(by rw[H.ct a b];have:=Q0f Ss a b;split<;>omega)
 have a0:∀{w':World},Mod S w w'->SlT w' A s.items:=fun a9=>Qa7 bd fun a aq=>a9.block a.block (al a aq).2 (al a aq).1
 have hfin:∀(ac:List (Bj×Int)) (N:Qyn),(∀a,(Qe ac a).getD 0=(Qe sg a).getD 0+if a∈s.items then 1 else 0)->(∀a b,(Qe ((Qe N a).getD []) b).getD 0=(Qe ((Qe ct a).getD []) b).getD 0+if a∈s.items/\b∈s.items/\a≠b then 1 else 0)->Q7q ac N->TabIs ac N (Ss++[s]):=by
  intro ac N d f g;refine⟨g,fun a=>by rw[d,H.sg,Q0t],fun a b=>?_⟩;rw[f,H.ct,Xbh]
  by_cases B:a=b
  .rw[if_pos B,if_pos B,if_neg (fun e=>e.2.2 B)];rfl
  .rw[if_neg B,if_neg B];simp[B]
 generalize s.items=l at*;refine Fi Tryz.func341 rfl _ rfl rfl (Hh ?_)
 refine Qh Qb (fun(q:Nat×List (Bj×Int)×Qyn) w'=>q.1<=l.length/\Q76 w' (Grow S w) t q.2.1 q.2.2 D E/\(∀a,(Qe q.2.1 a).getD 0=(Qe sg a).getD 0+if a∈l.take q.1 then 1 else 0)/\(∀a b,(Qe ((Qe q.2.2 a).getD []) b).getD 0=(Qe ((Qe ct a).getD []) b).getD 0+if a∈l.take q.1/\b∈l/\a≠b then 1 else 0)/\Q7q q.2.1 q.2.2/\Mod S w w')
  (fun|(k,_,_)=>[(0,Pj t),(1,.slice A l.length c),(2,Vj 1),(10,.slice A l.length c),(11,Vj l.length),(12,Vj k)]) (fun q=>l.length-q.1) (0,sg,ct) ⟨by simp,an.keep fun k _ K=>⟨rfl,.inl K⟩,by simp,by simp,H.pos,Mod.refl _ _⟩ Rr ?_
 clear an;rintro ⟨k,m,F⟩ be ⟨K,O,o,J,W,U⟩;simp only at K O o J W;refine Hh ?_;constructor
 .intro C;have C:k<l.length:=Su C;obtain⟨a,a5,e⟩:=(a0 U).get C;subst a5;have aa:=fun x=>Qkj C x
  have aj:=Qmo aw C;have bb:l[k]∈l:=Zu C;generalize l[k]=y at e aa aj bb;refine Hh ?_;refine⟨a,Ix,Hh ?_⟩;refine⟨.string y,Qp e,Hh ?_⟩;refine(Q0u be _ t m F D E O y (by rw[o];have:=az y;split<;>omega)).mono ?_;rintro _ bg ⟨rfl,ae,V⟩;have V:Mod S w bg:=Qn U V
  have ay:∀x,(Qe (Xe m y ((Qe m y).getD 0+1)) x).getD 0=(Qe sg x).getD 0+if x∈l.take (k+1) then 1 else 0:=by
   intro x;rw[Qwn]
   by_cases hx:x=y
   .subst hx;rw[if_pos rfl,o,if_neg aj,if_pos ((aa _).2 (.inr rfl))];omega
   .rw[if_neg hx,o];have:x∈l.take (k+1)↔x∈l.take k:=(aa x).trans ⟨fun h=>h.resolve_right hx,.inl⟩
    by_cases ab:x∈l.take k
    .rw[if_pos ab,if_pos (this.2 ab)]
    .rw[if_neg ab,if_neg (fun h=>ab (this.1 h))]
  have ag:Q7q (Xe m y ((Qe m y).getD 0+1)) F:=W.sg_set (by rw[o];have:=az y;split<;>omega);generalize Xe m y ((Qe m y).getD 0+1)=M at ae ay ag;clear o;refine Hh ?_
  refine Qh Qb (fun(q:Nat×Qyn) w'=>q.1<=l.length/\Q76 w' (Grow S w) t M q.2 D E/\(∀a b,(Qe ((Qe q.2 a).getD []) b).getD 0=(Qe ((Qe ct a).getD []) b).getD 0+if(a∈l.take k/\b∈l\/a=y/\b∈l.take q.1)/\a≠b then 1 else 0)/\Q7q M q.2/\Mod S w w')
   (fun|(j,_)=>[(0,Pj t),(1,.slice (some a) l.length c),(2,Vj 1),(10,.slice (some a) l.length c),(11,Vj l.length),(12,Vj k),(7,.string y),(20,.slice (some a) l.length c),(21,Vj l.length),(22,Vj j)]) (fun q=>l.length-q.1) (0,F) ⟨by simp,ae,fun x z=>by rw[J];simp[and_assoc],ag,V⟩ Rr ?_
  clear ae V J O U W ag;rintro ⟨j,i⟩ bh ⟨a8,P,n,Y,I⟩;simp only at a8 P n Y;refine Hh ?_;constructor
  .intro L;have L:j<l.length:=Su L;obtain⟨a2,a7,ar⟩:=(a0 I).get L;have Z:=fun x=>Qkj L x
   have ax:=Qmo aw L;obtain rfl:a=a2:=Su a7;generalize l[j]=z at ar Z ax;refine Gg ?_;refine⟨a,Ix,Hh ?_⟩;refine⟨.string z,Qp ar,Hh ?_⟩;constructor
   .intro v;have v:y≠z:=Su v;refine Hh ?_;refine(Xbi bh _ t M i D E P y z (by rw[n];have:=av y z;split<;>omega)).mono ?_;rintro _ a3 ⟨rfl,R,af⟩;have af:Mod S w a3:=Qn I af;have R:=R.keep (w1:=a3) (S':=Grow S w) fun k _ K=>⟨rfl,grow_grow I.size k K⟩
    have au:∀x u,(Qe ((Qe (Xe i y (Xe ((Qe i y).getD []) z ((Qe ((Qe i y).getD []) z).getD 0+1))) x).getD []) u).getD 0=(Qe ((Qe ct x).getD []) u).getD 0+if(x∈l.take k/\u∈l\/x=y/\u∈l.take (j+1))/\x≠u then 1 else 0:=by
     intro x u;rw[Q48]
     by_cases ak:x=y/\u=z
     .obtain⟨rfl,rfl⟩:=ak
      rw[if_pos ⟨rfl,rfl⟩,n,if_neg (fun e=>by
       rcases e.1 with e|e
       .exact aj e.1
       .exact ax e.2),if_pos ⟨.inr ⟨rfl,(Z _).2 (.inr rfl)⟩,v⟩]
      omega
     .rw[if_neg ak,n]
      have:((x∈l.take k/\u∈l\/x=y/\u∈l.take (j+1))/\x≠u)↔((x∈l.take k/\u∈l\/x=y/\u∈l.take j)/\x≠u):=by
       rw[Z u];constructor
       .rintro ⟨d|⟨d,f|f⟩,g⟩
        .exact⟨.inl d,g⟩
        .exact⟨.inr ⟨d,f⟩,g⟩
        .exact absurd ⟨d,f⟩ ak
       .rintro ⟨d|⟨d,f⟩,g⟩
        .exact⟨.inl d,g⟩
        .exact⟨.inr ⟨d,.inl f⟩,g⟩
      by_cases e:(x∈l.take k/\u∈l\/x=y/\u∈l.take j)/\x≠u
      .rw[if_pos e,if_pos (this.2 e)]
      .rw[if_neg e,if_neg (fun h=>e (this.1 h))]
    have ao:Q7q M (Xe i y (Xe ((Qe i y).getD []) z ((Qe ((Qe i y).getD []) z).getD 0+1))):=Y.ct_set (by rw[n];have:=av y z;split<;>omega);generalize Xe i y (Xe ((Qe i y).getD []) z ((Qe ((Qe i y).getD []) z).getD 0+1))=a4 at R au ao;refine Hh ?_;refine⟨_,wrap_succ Om,Hh ?_⟩;exact⟨(j+1,a4),Sj,⟨Sj,R,au,ao,af⟩,Rr⟩
   .intro v;have v:y=z:=Su v;subst v;refine Hh ?_;refine⟨_,wrap_succ Om,Hh ?_⟩;refine⟨(j+1,i),Sj,⟨Sj,P,fun x u=>?_,Y,I⟩,Rr⟩;simp only;rw[n]
    have:((x∈l.take k/\u∈l\/x=y/\u∈l.take (j+1))/\x≠u)↔((x∈l.take k/\u∈l\/x=y/\u∈l.take j)/\x≠u):=by
     rw[Z u];constructor
     .rintro ⟨d|⟨d,f|f⟩,g⟩
      .exact⟨.inl d,g⟩
      .exact⟨.inr ⟨d,f⟩,g⟩
      .exact absurd (d.trans f.symm) g
     .rintro ⟨d|⟨d,f⟩,g⟩
      .exact⟨.inl d,g⟩
      .exact⟨.inr ⟨d,.inl f⟩,g⟩
    by_cases e:(x∈l.take k/\u∈l\/x=y/\u∈l.take j)/\x≠u
    .rw[if_pos e,if_pos (this.2 e)]
    .rw[if_neg e,if_neg (fun h=>e (this.1 h))]
  .intro ai;have ai:l.length<=j:=Su ai;rw[Zd ai]at n;refine Hh ?_;refine⟨_,wrap_succ Om,Hh ?_⟩;refine⟨(k+1,M,i),Sj,⟨Sj,P,ay,fun x u=>?_,Y,I⟩,Rr⟩;simp only;rw[n]
   have:(x∈l.take (k+1)/\u∈l/\x≠u)↔((x∈l.take k/\u∈l\/x=y/\u∈l)/\x≠u):=by
    rw[aa x];constructor
    .rintro ⟨d|d,f,g⟩
     .exact⟨.inl ⟨d,f⟩,g⟩
     .exact⟨.inr ⟨d,f⟩,g⟩
    .rintro ⟨⟨d,f⟩|⟨d,f⟩,g⟩
     .exact⟨.inl d,f,g⟩
     .exact⟨.inr d,f,g⟩
   by_cases e:(x∈l.take k/\u∈l\/x=y/\u∈l)/\x≠u
   .rw[if_pos e,if_pos (this.2 e)]
   .rw[if_neg e,if_neg (fun h=>e (this.1 h))]
 .intro ah;have ah:l.length<=k:=Su ah;rw[Zd ah]at o J;refine Hh ?_;exact⟨rfl,⟨m,F,D,E,O,hfin m F o J W⟩,U⟩
theorem Q8p(w p t)(a:At w p 394 [Pj t,.bool false]) :
 Cal Tryz.prog 282 [Pj p] w fun r w'=>r=Pj t/\Ext w w':=by
 refine Fi Tryz.func282 rfl _ rfl rfl (Hh ?_)
 repeat(refine Sg ?_;(conv=>whnf))
 refine⟨_,a.one rfl,Gg ?_⟩;refine⟨fun h=>(by cases h),fun _=>?_⟩;refine Gg ?_;refine⟨_,a.one rfl,Gg ?_⟩;exact⟨rfl,Ext.refl _⟩
theorem Q1j(w d q n0 R)(F:SnR w n0 R d q)(X)(hit:q.items=Qci X)(n:q.items.length<1000000) :
 Cal Tryz.prog 342 [.agg (seC d).toArray] w fun r w'=>∃A c,r=.slice A q.items.length c/\SlT w' A q.items/\(∀a,A=some a->w.heap.size<=a.block/\a.block<w'.heap.size)/\Ext w w':=by
 obtain⟨_,_,_,j,k,l,m⟩:=F;obtain⟨z,B,C,e,dn,f⟩:=d;simp only at j k l m;subst j;have I:Xh q.items=q.items:=by rw[hit,Q6r]
 have H:q.items.Nodup:=by rw[hit];exact Qdi X
 refine Fi Tryz.func342 rfl _ rfl rfl (Hh ?_);intro x u o;refine Gg ?_;have D:At u x 387 (seC (z,B,C,e,q.items.length,f)):=o.At;refine⟨_,D.one rfl,Gg ?_⟩;refine(Qm7 e q.items.length f u).mono ?_;rintro _ v ⟨y,rfl,E,J⟩;refine Gg ?_;have hx:=o.ext.trans J;refine(Qm2 v y e f q.items E (k.ext hx) (fun a b=>⟨Zat (l a b).2.1 hx.size,(m a b).1⟩) n).mono ?_;rintro _ N ⟨h,i,rfl,s,K⟩;rw[I]at s;refine Gg ?_;refine(Q4s q.items H h i v.heap.size N s n).mono ?_;rintro _ O ⟨rfl,g,L⟩;refine Gg ?_;have M:Ext w O:=L w (hx.trans K) hx.size;exact⟨h,i,rfl,g.sl Qv,fun a b=>⟨Zw hx.size (g.block b).1,(g.block b).2⟩,M⟩
theorem Xbf(w p t S Ss)(n:At w p 394 [Pj t,.bool false])(z:TabAt w S t Ss)(j:∀k,S k->k≠p/\k<w.heap.size)(C:Ss.length<1000000)(d q n0 R)(B:SnR w n0 R d q)(X)(hit:q.items=Qci X)(m:q.items.length<1000000) :
 Cal Tryz.prog 277 [Pj p,.agg (seC d).toArray] w fun r w'=>r=.tuple #[]/\At w' p 394 [Pj t,.bool false]/\TabAt w' (Grow S w) t (Ss++[q])/\Mod S w w':=by
 refine Fi Tryz.func277 rfl _ rfl rfl (Hh ?_);intro v g f;refine Hh ?_;have J:=f.block;have y:At g v 387 (seC d):=f.At;refine Dr .ext [0,2,1] [3,4] (Hh ?_);refine⟨seC d,⟨rfl,y.all⟩,Hh ?_⟩;have s:Ext w g.drew:=f.ext.drew;refine(Q8p g.drew p t (n.ext s)).mono ?_;rintro _ H ⟨rfl,o⟩;refine⟨o,Hh ?_⟩;have c:=s.trans o;refine(Q1j H d q n0 R (B.keep (fun k _ b D=>⟨c.block k b,D⟩) c.size) X hit m).mono ?_;rintro _ I ⟨u,x,rfl,E,h,F⟩;have e:=c.trans F;refine Hh ?_;refine(Q78 I S t Ss (z.ext e) C q (by rw[hit];exact Qdi X) m u x E (fun a l=>⟨fun b=>by have:=(j _ b).2;have:=(h a l).1;have:=c.size;omega,(h a l).2⟩)).mono ?_;rintro _ K ⟨rfl,A,i⟩;refine Hh ?_;refine⟨rfl,(n.ext e).mod i (fun b=>(j p b).1 rfl),A.keep fun k _ b=>⟨rfl,?_⟩,(Mod.of_ext e).trans i⟩;rcases b with b|b
 .exact .inl b
 .exact .inr (by have:=e.size;omega)
def Q75(Q:List Sn):Prop:=∀q∈Q,∃X,q.items=Qci X/\q.items.length<1000000
set_option maxHeartbeats 1000000 in
theorem Qxc(w A c T Q n0 R)(l:Sl seC 4 w A T)(Z:Qb9 w n0 R T Q)(ai:Q75 Q)(a4:Q.length<1000000) :
 Cal Tryz.prog 199 [.slice A T.length c] w fun r w'=>∃p t,r=Pj p/\w.heap.size<=p/\At w' p 394 [Pj t,.bool false]/\TabAt w' (fun k=>w.heap.size<=k/\k≠p/\k<w'.heap.size) t Q/\Ext w w':=by
 have a9:=Z.len;refine Fi Tryz.func199 rfl _ rfl rfl (Hh ?_);refine Cal.mono (R:=fun r w'=>∃p t g i,r=Pj p/\w.heap.size<=p/\At w' p 394 [Pj t,.bool false]/\Q76 w' (fun k=>w.heap.size<=k/\k≠p/\k<w'.heap.size) t [] [] g i/\Ext w w') ?_ ?_
 .refine Fi Tryz.func201 rfl _ rfl rfl (Hh ?_);refine Cal.mono (R:=fun r w'=>∃t g i,r=Pj t/\w.heap.size<=t/\w.heap.size<=g/\w.heap.size<=i/\g≠t/\i≠t/\i≠g/\At w' t 397 [.map (some g),.map (some i)]/\MapAt w' g Value.string []/\MapAt w' i Value.string []/\Ext w w') ?_ ?_
  .refine Fi Tryz.func280 rfl _ rfl rfl (Hh ?_);intro g z y;refine Hh ?_;intro i J s;refine Hh ?_;intro o ab f;refine Hh ?_;have a0:=y.block;have a3:=s.block;have L:=f.block;have bd:=y.size;have az:=s.size;exact⟨o,g,i,rfl,Om,Om,Om,Om,Om,Om,f.At,((MapAt.new y).ext s.ext).ext f.ext,(MapAt.new s).ext f.ext,(y.ext.trans s.ext).trans f.ext⟩
  .rintro _ z ⟨t,g,i,rfl,aw,ak,al,ae,ag,af,C,F,H,u⟩;refine Hh ?_;intro o ab f;refine Hh ?_;have L:=f.block;have be:=f.ext.size;have ax:=u.trans f.ext;have an:=(C.ext f.ext).lt;have ao:=(F.ext f.ext).lt;have aq:=(H.ext f.ext).lt;have a5:=C.lt;have a7:=F.lt;have a8:=H.lt;refine⟨o,t,g,i,rfl,by have:=u.size;omega,f.At,⟨⟨⟨aw,Om,an⟩,⟨ak,Om,ao⟩,ae⟩,C.ext f.ext,F.ext f.ext,?_⟩,ax⟩;exact⟨[],fun _=>none,⟨⟨al,Om,aq⟩,ag,af⟩,H.ext f.ext,rfl,by simp⟩
 .rintro _ z ⟨p,t,g,i,rfl,ar,n,O,u⟩;have N:TabAt z (fun k=>w.heap.size<=k/\k≠p/\k<z.heap.size) t []:=⟨[],[],g,i,O,⟨fun _ h=>(by cases h),fun _ h=>(by cases h)⟩,fun a=>by simp[Qe,Qa6],fun a b=>by simp[Qe,Qd6]⟩;clear O;refine Hh ?_
  refine Qh Qb (fun(k:Nat) w'=>k<=T.length/\Ext w w'/\At w' p 394 [Pj t,.bool false]/\TabAt w' (fun k=>w.heap.size<=k/\k≠p/\k<w'.heap.size) t (Q.take k))
   (fun k=>[(3,Pj p),(7,.slice A T.length c),(8,Vj T.length),(9,Vj (k:Nat))]) (fun k=>T.length-k) 0 ⟨Zt _,u,n,N⟩ Rr ?_
  clear u n N;rintro k J ⟨j,v,n,x⟩;refine Hh ?_;constructor
  .intro E;have E:k<T.length:=Su E;obtain⟨a,ah,V⟩:=(l.ext v).get E;subst ah;have D:=(Z.ext v).at_ k T[k] (Q[k]'Om) (Zb _) (Zb _);obtain⟨X,P,U⟩:=ai _ (Zu (show k<Q.length by omega));have I:Q.take (k+1)=Q.take k++[Q[k]'Om]:=Za Om;have aa:(Q.take k).length<1000000:=by rw[Zn];omega
   generalize Q[k]'Om=q at D P U I;generalize T[k]=d at V D;generalize Q.take k=ac at I x aa;refine Hh ?_;refine⟨a,Ix,Hh ?_⟩;refine⟨seC d,⟨rfl,V⟩,Hh ?_⟩;intro o ab f;refine Hh ?_;refine Qc Qb (e:=ty387) rfl f.At rfl rfl rfl (Xch d) fun K B Y=>?_
   have B:At K o 387 (seC d):=B;have L:=f.block;have m:Ext J K:=Y.ext f.ext Om;clear Y;refine Hh ?_;refine⟨seC d,⟨rfl,B.all⟩,Hh ?_⟩;have az:=v.size;have bg:=m.size;refine(Xbf K p t (fun k=>w.heap.size<=k/\k≠p/\k<J.heap.size) ac (n.ext m) (x.ext m) (fun k j=>⟨j.2.1,Om⟩) aa d q n0 R (D.keep (fun k _ j av=>⟨m.block k j,av⟩) m.size) X P U).mono ?_;rintro _ w5 ⟨rfl,au,aj,M⟩;have bh:=M.size;have bb:=(n.ext m).lt;have ay:Ext w w5:=(Qn (Mod.of_ext (S:=fun _=>False) (v.trans m)) (M.mono fun k _ j=>.inr j.1)).ext fun _ _ h=>h
   refine Hh ?_;refine⟨_,wrap_succ Om,Hh ?_⟩;refine⟨k+1,Om,⟨Om,ay,au,?_⟩,Rr⟩;rw[I];refine aj.keep fun k j l=>⟨rfl,?_⟩
   rcases l with l|l
   .exact⟨l.1,l.2.1,j⟩
   .exact⟨Om,Om,j⟩
  .intro W;have W:T.length<=k:=Su W;rw[Zd Om]at x;refine Hh ?_;exact⟨p,t,rfl,ar,n,x,v⟩
structure Xmq(c:Cfg)(z:List Ev):Prop where
 ses:Xmp (Q9m c.gap) (Qi3 (z.filter wpB))
 sets:Q75 (Qhd c z)
 len:(Qhd c z).length<1000
theorem Q9n(g):0<=Q9m g/\Q9m g<=1099511627776:=by unfold Q9m;omega
set_option maxHeartbeats 1000000 in
theorem Qju{w T p c z}(h:WT w T p c z)(L:Xmq c z) :
 Cal Tryz.prog 140 [Pj p] w fun r w'=>∃pp B,r=Pj pp/\WT w' B p c z/\(∀k,B k->T k\/w.heap.size<=k)/\Mod T w w'/\w.heap.size<=pp/\¬B pp/\Qb2 w' (fun k=>k=pp\/B k) pp (Qhd c z):=by
 obtain⟨v,i,f,J,af,ac⟩:=h;refine Fi Tryz.func140 rfl _ rfl rfl (Hh ?_)
 refine Xi Qb (ι:=Nat×Nat×Bool) (fun _=>[(0,Pj p)])
  (fun q w'=>∃d:Nat->Prop,WQ w' i p c z (Pj q.1)/\d q.1/\¬i q.1/\At w' q.1 394 [Pj q.2.1,.bool q.2.2]/\TabAt w' (fun k=>d k/\k≠q.1/\¬i k) q.2.1 (Qhd c z)/\(∀k,i k->d k)/\(∀k,d k->k<w'.heap.size)/\(∀k,d k->T k\/w.heap.size<=k)/\Mod T w w') ?_ ?_
 .obtain⟨col,q,A,n,cap,any,last,j⟩:=f.at_;have C:=j.cts.ses;rw[(Qc7 c.width z).2.2]at C;refine Hh ?_;refine⟨_,j.head.one rfl,Hh ?_⟩;rcases ac with rfl|⟨o,t,sh,rfl,u,y,m,s⟩
  .refine⟨_,Qa4 Xkg _ _ _,Hh ?_⟩;constructor
   .intro _;refine Hh ?_;refine⟨_,j.head.one rfl,Hh ?_⟩;refine(Q6k w _ q.ps _ _ C (Q9n _) L.ses).mono ?_;rintro _ D ⟨Y,F,d,rfl,ao,aq,V⟩;refine Hh ?_;refine(Qxc D Y F d (Qhd c z) w.heap.size _ (ao.sl Qh2) aq L.sets (by have:=L.len;omega)).mono ?_;rintro _ W ⟨o,t,rfl,a0,m,s,g⟩;refine Hh ?_;have U:=V.trans g;have M:=j.keep fun k b=>U.block k b
    refine Qc Qb (e:=ty85) rfl M.head rfl rfl rfl Oj fun E aa l=>?_
    have ab:=M.set (v1:= Pj o) l aa;have au:=V.size;have av:=g.size;have aw:=l.size;have a3:=j.head.lt;have an:=m.lt;refine Hh ?_;refine⟨(o,t,false),⟨fun k=>i k\/(w.heap.size<=k/\k<E.heap.size),⟨⟨col,q,A,n,cap,any,last,ab⟩,f.may,f.rise,f.len⟩,.inr ⟨Om,Om⟩,fun b=>by have:=f.lt _ b;omega,(l.block o Om).trans m,s.keep fun k b C=>⟨l.block k Om,.inr ⟨Om,Om⟩,C.2.1,fun ai=>by have:=f.lt _ ai;omega⟩,fun k b=>.inl b,fun k b=>?_,fun k b=>?_,(Mod.of_ext U).trans (Qj l (J p f.tp))⟩,Rr⟩
    .rcases b with b|b
     .have:=f.lt _ b;omega
     .exact b.2
    .rcases b with b|b
     .exact .inl (J k b)
     .exact .inr b.1
   .intro K;cases K
  .refine⟨_,Qa4 Xkg _ _ _,Hh ?_⟩;constructor
   .intro K;cases K
   .intro _;refine Hh ?_;exact⟨(o,t,sh),⟨T,f,u,y,m,s,J,af,fun k b=>.inl b,Mod.refl _ _⟩,Rr⟩
 rintro ⟨o,t,sh⟩ D ⟨d,I,u,y,m,s,O,x,S,N⟩;simp only at I u y m s;have au:=N.size;refine Hh ?_;refine(Quf D).mono ?_;rintro _ W ⟨a,ax,F,Z,rfl,ay,a5,ah,ar,al,az,g⟩;refine Hh ?_;have ae:=I.ext g;obtain⟨col,q,A,n,cap,any,last,j⟩:=ae.at_;refine⟨_,j.head.one rfl,Hh ?_⟩;have an:=x o u;refine(Qz9 W a o ax t F Z false sh Om ah ar al (m.ext g)).mono ?_;rintro _ E ⟨rfl,ag,l,H⟩;refine Hh ?_
 have R:∀k,d k->k≠o->E.heap[k]?=D.heap[k]? := fun k b ak=>by
  have aj:=x k b;have a4:=g.size;refine(H.block k Om ?_).trans (g.block k aj);rintro (e|e)
  .omega
  .exact ak e
 have P:TabAt E (fun k=>d k/\k≠o/\¬i k) t (Qhd c z):=s.keep fun k _ b=>⟨R k b.1 b.2.1,b⟩
 have aw:=H.size;have av:=g.size;refine⟨a,d,rfl,⟨_,i,I.keep fun k b=>R k (O k b) (fun e=>y (e▸b)),O,fun k b=>by have:=x k b;omega,.inr ⟨o,t,true,rfl,u,y,l,P⟩⟩,S,?_,Om,fun b=>by have:=x a b;omega,t,true,ag,P.keep fun k _ b=>⟨rfl,.inr b.1,fun e=>by have:=x k b.1;omega⟩,.inl rfl⟩;refine Qn N ((Mod.of_ext g).trans (H.mono fun k _ b=>?_));rcases b with rfl|rfl
 .exact .inr Om
 .exact S _ u
theorem Q0s{w}(a:Bj){cl}:RdS Tryz.prog cl w (Instr.lookup 125 (.map none) (.string a) false) (vi 0):=fun b _=>by
 obtain⟨z,c,d⟩:∃z,(zeroValue 3).run Tryz.prog b=.ok z b/\z=vi 0:=⟨_,Tryz.zeroValue3 b,rfl⟩;have:=Qne Q1r (Qr Xd) c a false;rw[d]at this;exact this
theorem Qmq(w S p Ss)(h:Qb2 w S p Ss)(a:Bj) :
 Cal Tryz.prog 207 [Pj p,.string a] w fun r w'=>r=Vj (Qa6 Ss a:Nat)/\w'=w:=by
 obtain⟨t,sh,d,⟨sg,ct,e,f,b,c⟩,_⟩:=h;refine Fi Tryz.func207 rfl _ rfl rfl (Hh ?_);refine⟨_,d.one rfl,Hh ?_⟩;refine⟨_,b.head.one rfl,Hh ?_⟩;refine⟨_,Ql3 b.sg a Qs,?_⟩;rw[c.sg a];refine Hh ?_;exact⟨rfl,rfl⟩
theorem Qpp(w S p Ss)(h:Qb2 w S p Ss)(a b:Bj)(i:a≠b) :
 Cal Tryz.prog 208 [Pj p,.string a,.string b] w fun r w'=>r=Vj (Qd6 Ss a b:Nat)/\w'=w:=by
 obtain⟨t,sh,n,⟨sg,ct,u,v,g,j⟩,_⟩:=h;have c:=j.ct a b;rw[if_neg i]at c;refine Fi Tryz.func208 rfl _ rfl rfl (Hh ?_);constructor
 .intro d;have d:a=b:=Su d;exact absurd d i
 intro _;refine Hh ?_;refine⟨_,n.one rfl,Hh ?_⟩;refine⟨_,g.head.one rfl,Hh ?_⟩;rcases g.ct.look Qa5 Qyh (Qr Xd) (e:=ty125) ty125_ok rfl a with⟨l,f⟩|⟨x,m,s,o,f,k,_,_⟩
 .rw[l]at c;refine⟨_,f .same Qs,Hh ?_⟩;refine⟨_,Q0s b,Hh ?_⟩;exact⟨by rw[<- c];rfl,rfl⟩
 .rw[o]at c;refine⟨_,f .same Qs,Hh ?_⟩;refine⟨_,Ql3 k.2 b Qs,?_⟩;rw[show (Qe m b).getD 0=(Qd6 Ss a b:Int) from c];refine Hh ?_;exact⟨rfl,rfl⟩
theorem Qpe(w S p Ss)(h:Qb2 w S p Ss)(a b:Bj)(F:Ss.length<1000) :
 Cal Tryz.prog 143 [Pj p,.string a,.string b] w fun r w'=>r=Qns (Qha Ss a b)/\Ext w w':=by
 have m:=Qh5 Ss a;have o:=Qh5 Ss b;have u:=Q0f Ss a b;unfold Qha;refine Fi Tryz.func143 rfl _ rfl rfl (Hh ?_);intro D C d;refine Hh ?_;have g:=d.At;refine(Qmq C S p Ss (h.ext d.ext) a).mono ?_;rintro _ _ ⟨rfl,rfl⟩;refine Hh ?_;refine(Qmq _ S p Ss (h.ext d.ext) b).mono ?_;rintro _ M ⟨rfl,v⟩;subst v;generalize hx:Qa6 Ss a=x at m⊢;generalize H:Qa6 Ss b=y at o⊢;have E:=d.block;refine Gg ?_;constructor
 .intro f;have f:x=0\/y=0:=Su f;rw[if_pos f];refine Hh ?_;refine Qc Qb (e:=ty247) rfl g rfl rfl rfl Oj fun k i j=>?_
  refine Hh ?_;refine⟨_,⟨rfl,i.all⟩,Hh ?_⟩;exact⟨rfl,j.ext d.ext Om⟩
 intro f;have f:¬(x=0\/y=0):=Su f;rw[if_neg f];refine Hh ?_;constructor
 .intro c;have c:a=b:=Su c;rw[if_pos c];refine Hh ?_;refine Qc Qb (e:=ty247) rfl g rfl rfl rfl Oj fun k i j=>?_
  refine Hh ?_;refine⟨_,⟨rfl,i.all⟩,Hh ?_⟩;exact⟨rfl,j.ext d.ext Om⟩
 intro c;have c:¬a=b:=Su c;rw[if_neg c];refine Hh ?_;refine(Qpp _ S p Ss (h.ext d.ext) a b c).mono ?_;rintro _ k ⟨rfl,z⟩;subst z;generalize Qd6 Ss a b=n at u⊢;have I:(n:Int)*n<=1000*1000:=Zb2 Om Om Om Om;have J:(x:Int)*y<=1000*1000:=Zb2 Om Om Om Om;have K:0<=(n:Int)*n:=Zc1 Om Om;have L:0<=(x:Int)*y:=Zc1 Om Om;have A:(n:Int)*n=IntKind.i64.wrap ((n:Int)*n):=wrap_eq rfl ⟨Om,Om⟩;have B:(x:Int)*y=IntKind.i64.wrap ((x:Int)*y):=wrap_eq rfl ⟨Om,Om⟩;refine Hh ?_;refine⟨_,A,Hh ?_⟩;refine⟨_,B,Hh ?_⟩;refine Qc Qb (e:=ty247) rfl g rfl rfl rfl Oj fun N l s=>?_
 refine Hh ?_;refine⟨_,⟨rfl,l.all⟩,Hh ?_⟩;exact⟨rfl,s.ext d.ext Om⟩
theorem Q2d{a b}:0<Qqo a b↔Qxg b a=true:=by
 unfold Qqo Qxg;rw[decide_eq_true_eq];split
 .omega
 split
 .omega
 .omega
set_option maxHeartbeats 1000000 in
theorem Xa4{w T p c z}(h:WT w T p c z)(ay:Xmq c z)(person item:Bj)(now) :
 Cal Tryz.prog 250 [Pj p,.string person,.string item,Vj now] w fun r w'=>r=Vj (Xmy c z person item)/\Mod T w w'/\∃o,WT w' o p c z/\∀k,o k->T k\/w.heap.size<=k:=by
 have ar:=ay.len;have L:((Qhd c z).length:Int)*(Qhd c z).length<=1000000:=(by have:((Qhd c z).length:Int)*(Qhd c z).length<=1000*1000:=Zb2 Om Om Om Om;omega);refine Fi Tryz.func250 rfl _ rfl rfl (Hh ?_);refine(Qju h ay).mono ?_;rintro _ a8 ⟨pp,o,rfl,D,bu,aj,cf,cg,M⟩;refine Hh ?_;intro l cn U;refine Hh ?_;have ca:=U.block;refine Qc Qb (e:=ty247) rfl U.At rfl rfl rfl Oj fun a9 s aw=>?_
 have Y:Ext a8 a9:=aw.ext U.ext Om;have s:At a9 l 247 (Qmv (0,1)):=s;clear aw;refine Hh ?_;have bv:=D.ext Y;have bq:=M.ext Y;have b4:(Qak z).length<1000000:=(by obtain⟨_,_,bs,_⟩:=D;have bk:=Zc peB z;have:=bs.len;unfold Qak;omega);obtain⟨v,b8,bt,_⟩:=id bv;refine(Qad bt).mono ?_;rintro _ b6 ⟨pw,bg,rfl,bx,Z⟩;refine Hh ?_;have aq:=(Qb7 c.width z).2
 refine(Qhp b6 bg pw _ _ bx person (by
  have:(evs (Qi c.width z).rs).length=(Qak z).length:=by rw[aq]
  simp[evs]at this;omega)).mono ?_
 rintro _ w5 ⟨ac,bi,rfl,H,a3⟩;rw[aq]at H⊢;have bz:(hist (Qak z) person).length<1000000:=Zbw (Zc _ _) b4;unfold Xmy;rw[show Qfs z person=hist (Qak z) person from rfl];have az:=H.sl Qau;have bm:∀a,ac=some a->a.block≠l:=fun a E=>(by have cc:=(H.block E).1;have bk:=s.lt;have s:=Z.size;omega)
 generalize hist (Qak z) person=g at az bz⊢;have I:=Y.trans (Z.trans a3);have af:=s.ext (Z.trans a3);have ch:=I.size;have cd:=s.lt;generalize Qhd c z=f at ar L M bq;refine Hh ?_
 refine Qh Qb (fun(q:Nat×(Int×Int)) w'=>q.1<=g.length/\Mod (fun k=>k=l) w5 w'/\At w' l 247 (Qmv q.2)/\q.2=Qnb f item (g.take q.1))
  (fun|(k,_)=>[(2,.string item),(9,Pj pp),(10,Pj l),(22,.slice ac g.length bi),(23,Vj g.length),(24,Vj k)]) (fun q=>g.length-q.1) (0,(0,1)) ⟨by simp,Mod.refl _ _,af,rfl⟩ Rr ?_
 clear af;have br:∀{w':World},Mod (fun k=>k=l) w5 w'->Qb2 w' (fun k=>k=pp\/o k) pp f:=fun bo=>M.keep fun k x b2=>⟨(bo.block k Om Om).trans (I.block k x),b2⟩
 rintro ⟨k,d⟩ bb ⟨x,u,y,A⟩;simp only at x y A;have an:Qld 1000000 d:=by rw[A];exact Xii L Om item _
 refine Hh ?_;constructor
 .intro F;have F:k<g.length:=Su F;obtain⟨a,bl,ao⟩:=(Qa7 az fun a E=>u.block a.block (by have:=(H.block E).2;omega) (bm a E)).get F;subst bl;have j:Qnb f item (g.take (k+1))=Qe8 f item d g[k]:=by rw[Za F,Qre,A]
  generalize g[k]=e at ao j;refine Gg ?_;refine⟨a,Ix,Gg ?_⟩;refine⟨evC e,⟨rfl,ao⟩,Gg ?_⟩;intro b7 bd V;refine Gg ?_;have cb:=V.block;refine Qc Qb (e:=ty69) rfl V.At rfl rfl rfl (Qbn e) fun ab C ax=>?_
  have C:At ab b7 69 (evC e):=C;have b3:Ext bb ab:=ax.ext V.ext Om;clear ax;refine Gg ?_;refine⟨evC e,⟨rfl,C.all⟩,Gg ?_⟩;refine(Qc2 e ab).mono ?_;rintro _ be ⟨rfl,a5⟩;have ai:=C.ext a5;have J:=b3.trans a5;refine Gg ?_;refine⟨.string e.item,fun _=>ai.one rfl,Gg ?_⟩;constructor
  .intro m;have m:Qz e<=0\/e.item=item:=Su m;have W:Qe8 f item d e=d:=by unfold Qe8;rw[if_pos m]
   refine Gg ?_;refine⟨_,wrap_succ Om,Gg ?_⟩;exact⟨(k+1,d),Sj,⟨Sj,u.trans (Mod.of_ext J),y.ext J,by rw[j,W]⟩,Rr⟩
  intro m;have m:¬(Qz e<=0\/e.item=item):=Su m;refine Gg ?_;refine⟨.string e.item,ai.one rfl,Gg ?_⟩;have al:=u.trans (Mod.of_ext J);refine(Qpe be _ pp f (br al) item e.item ar).mono ?_;rintro _ ck ⟨rfl,a0⟩;have au:=Qz4 L Om item e.item;have W:Qe8 f item d e=if Qxg d (Qha f item e.item)=true then Qha f item e.item else d:=by unfold Qe8;rw[if_neg m]
  rw[W]at j;generalize Qha f item e.item=i at au j⊢;refine Gg ?_;intro bh cl S;refine Gg ?_;have b9:=S.block;refine Qc Qb (e:=ty247) rfl S.At rfl rfl rfl (Qkt i) fun aa B av=>?_
  have B:At aa bh 247 (Qmv i):=B;have a7:Ext be aa:=av.ext (a0.trans S.ext) (by have:=a0.size;omega);clear av;have ag:=y.ext (J.trans a7);have bp:=al.trans (Mod.of_ext a7);refine Gg ?_;refine⟨Qmv i,⟨rfl,B.all⟩,Gg ?_⟩;refine⟨Qmv d,⟨rfl,ag.all⟩,Gg ?_⟩;refine(Qef Om i d au an aa).mono ?_;rintro _ cm ⟨rfl,P⟩;have O:=Q2d (a:=i) (b:=d);generalize Qqo i d=ae at O⊢;have ah:=ag.ext P.ext;have bj:=B.ext P.ext;have ak:=bp.trans (Mod.of_ext P.ext);refine Gg ?_;constructor
  .intro n;have n:0<ae:=Su n;rw[if_pos (O.1 n)]at j;refine Gg ?_;refine⟨Qmv i,⟨rfl,bj.all⟩,Gg ?_⟩;refine Qc Qb (e:=ty247) rfl ah rfl rfl rfl (Qkt i) fun b5 K b1=>?_
   have K:At b5 l 247 (Qmv i):=K;refine Gg ?_;refine⟨_,wrap_succ Om,Gg ?_⟩;exact⟨(k+1,i),Sj,⟨Sj,ak.trans (Qj b1 rfl),K,j.symm⟩,Rr⟩
  .intro n;have n:¬0<ae:=Su n;rw[if_neg (fun h=>n (O.2 h))]at j;refine Gg ?_;refine⟨_,wrap_succ Om,Gg ?_⟩;exact⟨(k+1,d),Sj,⟨Sj,ak,ah,j.symm⟩,Rr⟩
 .intro R;have R:g.length<=k:=Su R;rw[Zd R]at A;rw[<- A];refine Hh ?_;refine⟨Vj d.1,y.one rfl,Hh ?_⟩;refine⟨Vj d.2,y.one rfl,Hh ?_⟩;refine(Qsc (N:=1000000) Om 1048576 ⟨Om,Om⟩ d an bb).mono ?_;rintro _ bd ⟨rfl,a4⟩;refine Hh ?_;have bw:∀k,o k->bd.heap[k]?=a8.heap[k]? := fun k x=>(by have b0:=D.lt k x;have cj:=u.size;exact(a4.block k Om).trans ((u.block k Om Om).trans (I.block k b0)))
  refine⟨rfl,?_,o,D.keep bw,bu⟩;refine Qn aj ((Mod.of_ext I).trans (Mod.trans ?_ (Mod.of_ext a4)));exact u.mono fun k _ x=>.inr (by have:=aj.size;omega)
def Q6b(c:Cfg)(z:List Ev)(person item:Bj)(now:Int)(k:Nat):Int:=
 if k=0 then min (Xhn (z.filter wpB) (Xf c.half) item now) 1099511627776
 else if k=1 then(if(Qnd z item now).listed=true then min (Qm5 (Xh3 (Xf c.half) now (rowsOf (Qxl z) person)) (Xg (Qg5 (Qnd z item now).tags))) 1099511627776 else 0)
 else if k=2 then Xmy c z person item
 else if k=3 then Q6d c (paE (z.filter wpB) c.width item ((Qjm c now-c.span)/Xf c.width) (Qjm c now/Xf c.width)) (paE (z.filter wpB) c.width item ((Qjm c now-2*c.span)/Xf c.width) ((Qjm c now-c.span)/Xf c.width))
 else if k=4 then(if(Qnd z item now).listed=true/\Q2m z person (Qnd z item now).maker=true then 1048576 else 0)
 else if k=5 then(if(Qnd z item now).listed=true then Qaw (now-(Qnd z item now).born) c.half else 0)
 else 0
structure Behind(now:Int)(person:Bj)(M:List Ev):Prop where
 at_:∀e∈M,now<e.at_
 worth:∀e∈M,Qz e<=0
 person:∀e∈M,e.person≠person
theorem Qk4{α:Type}{p}{l:List α}{k}(g:k<=l.length)(a:∀x∈l.take k,p x=true)(d:k=l.length\/∃x,l[k]?=some x/\p x=false):l.takeWhile p=l.take k/\l.dropWhile p=l.drop k:=by
 have b:(l.drop k).takeWhile p=[]/\(l.drop k).dropWhile p=l.drop k:=by
  rcases d with rfl|⟨x,hx,e⟩
  .simp
  .have c:k<l.length:=(Zi.1 hx).1;have f:l[k]=x:=by rw[Zb c]at hx;simpa using hx
   rw[Zak c,f];simp[e]
 constructor
 .conv=>lhs;rw[<- Zag k l]
  rw[Zco a,b.1,Z4]
 .conv=>lhs;rw[<- Zag k l]
  rw[List.dropWhile_append_of_pos a,b.2]
