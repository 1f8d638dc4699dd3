import Derived.Test.YtnpacgccajekgaaGreatDoorGM
import Derived.Test.YtnpacgccajekgaaGreatDoorHPl8
set_option linter.all false
namespace Go.Se
open Go.RowKit
section
variable {P:Program}{T:Tab}{N:Nat}{cl:Cl}{ops:List Oper}
end
inductive Pq where
 |done
 |one (i:Nat) (p:Pq)
 |two (i:Nat) (p:Pq) (j:Nat) (q:Pq)
 |three (i:Nat) (p:Pq) (j:Nat) (q:Pq) (k:Nat) (r:Pq)
def Pq.size:Pq->Nat
 |.done=>0
 |.one _ p=>p.size+1
 |.two _ p _ _=>p.size+1
 |.three _ p _ _ _ _=>p.size+1
def Pq.seq:List Nat->Pq->Pq
 |[],p=>p
 |i::a,p=>.one i (Pq.seq a p)
def Q7y(T:Tab)(ops:Array Oper):Pq->Array Bool->Bool
 |.done,listed=>(Region.ready .any ops listed).isEmpty
 |.one a p,listed=>match ops[a]? with
  |none=>false
  |some c=>(bif still T c.op then(Region.ready .any ops listed).contains a&&Region.free .any ops listed a else Region.ready .any ops listed == [a])&&Q7y T ops p (listed.setIfInBounds a true)
 |.two a p b q,listed=>match ops[a]? with
  |none=>false
  |some c=>match ops[b]? with
   |none=>false
   |some d=>!still T c.op&&!still T d.op&&Region.ready .any ops listed == [a,b]&&p.size == q.size&&Q7y T ops p (listed.setIfInBounds a true)&&Q7y T ops q (listed.setIfInBounds b true)
 |.three a p b q k e,listed=>match ops[a]? with
  |none=>false
  |some c=>match ops[b]? with
   |none=>false
   |some d=>match ops[k]? with
    |none=>false
    |some f=>!still T c.op&&!still T d.op&&!still T f.op&&Region.ready .any ops listed == [a,b,k]&&p.size == q.size&&p.size == e.size&&Q7y T ops p (listed.setIfInBounds a true)&&Q7y T ops q (listed.setIfInBounds b true)&&Q7y T ops e (listed.setIfInBounds k true)
section
variable {P:Program}{T:Tab}{N:Nat}{cl:Cl}{ops:List Oper}
def Xf0(P:Program)(T:Tab)(N:Nat)(cl:Cl)(ops:List Oper):Pq->Env->Loc->List Nat->World->(Env->Loc->List Nat->World->Prop)->Prop
 |.done,f,g,G,w,K=>K f g G w
 |.one i p,f,g,G,w,K=>match nth ops i with
  |some b=>Qfk P T N cl ops b f g G w fun d e a c=>Xf0 P T N cl ops p d e a c K
  |none=>False
 |.two i p j q,f,g,G,w,K=>(match nth ops i with
  |some b=>Qfk P T N cl ops b f g G w fun d e a c=>Xf0 P T N cl ops p d e a c K
  |none=>False)/\(match nth ops j with
  |some b=>Qfk P T N cl ops b f g G w fun d e a c=>Xf0 P T N cl ops q d e a c K
  |none=>False)
 |.three i p j q k h,f,g,G,w,K=>(match nth ops i with
  |some b=>Qfk P T N cl ops b f g G w fun d e a c=>Xf0 P T N cl ops p d e a c K
  |none=>False)/\(match nth ops j with
  |some b=>Qfk P T N cl ops b f g G w fun d e a c=>Xf0 P T N cl ops q d e a c K
  |none=>False)/\(match nth ops k with
  |some b=>Qfk P T N cl ops b f g G w fun d e a c=>Xf0 P T N cl ops h d e a c K
  |none=>False)
theorem Qfi(o:Qbl P T)(x:cl≠.same)(Y:Region.noSelect ops.toArray=true){K Q}(U:∀a H I G w,Ag N a H I G->K H I G w->Q .normal a w)(V:∀c a w,¬Q (.panic c) a w) :
 ∀(pl:Pq) (listed:Array Bool) (H:Env) (I:Loc) (G:List Nat) (a:Act) (w:World),Q7y T ops.toArray pl listed=true->Ag N a H I G ->
  Xf0 P T N cl ops pl H I G w K->wpT P ops.toArray Q (fun L w'=>noneOf [] L->cl.rel w w') pl.size listed a w
 |.done,listed,H,I,G,a,w,b,g,h=>by
  simp only[Q7y,List.isEmpty_iff]at b;exact⟨b,U a H I G w g h⟩
 |.one i pl,listed,H,I,G,a,w,b,g,h=>by
  simp only[Q7y]at b
  cases n:ops.toArray[i]? with
  |none=>rw[n]at b;simp at b
  |some ae =>
   rw[n]at b;simp only[Zk]at b;obtain⟨J,ab⟩:=b;have af:ops[i]?=some ae:=Su n;simp only[Xf0,Qa8,af]at h;unfold Qfk at h;obtain⟨p,O,ac⟩:=Xx g h;cases ah:still T ae.op<;>simp only[ah,cond_true,cond_false]at O J
   .have W:Region.ready .any ops.toArray listed=[i]:=Su J;refine⟨fun S=>(by rw[W]at S;cases S),fun j aj=>?_⟩;rw[W]at aj;obtain rfl:j=i:=Su aj
    have:=Qbz (Q:=Q) o g ac O (M:=fun e w'=>(noneOf [] (listed.setIfInBounds j true)->cl.rel w w')/\wpT P ops.toArray Q (fun L w'=>noneOf [] L->cl.rel w w') pl.size (listed.setIfInBounds j true) e w')
     fun e w' z A r F s f=>by
      have l:=F.resolve_left x;exact⟨fun _=>l,Qcr (fun L ai y E=>cl.trans l (y E)) _ _ _ _ (Qfi o x Y U V pl _ z A r e w' ab s f)⟩
    unfold wpOp;simpa only[n] using this
   .obtain⟨v,z,A,r,a5,s,f⟩:=still_step o g ac O;simp only[Zk]at J
    exact Qqk (B:= []) (D:= []) (C:=cl.rel w) n (Region.noSelect_spec Y) (fun c a w az=>(V _ _ _ az).elim) (by simp)
     (fun j aj=>by simp at aj) (fun d an=>by simp at an) _ listed a w (Region.free_spec n J.2) (Su J.1)
     (fun d an=>by simp at an) a5 (Cl.refl _ _) (Qfi o x Y U V pl _ z A r _ w ab s f)
 |.two i pl j aw,listed,H,I,G,a,w,b,g,h=>by
  simp only[Q7y]at b
  cases n:ops.toArray[i]? with
  |none=>rw[n]at b;simp at b
  |some ae =>
   rw[n]at b
   cases R:ops.toArray[j]? with
   |none=>rw[R]at b;simp at b
   |some u =>
    rw[R]at b;simp only[Zk,Zam,beq_iff_eq]at b;obtain⟨⟨⟨⟨⟨ah,aq⟩,W⟩,ar⟩,J⟩,ab⟩:=b;have af:ops[i]?=some ae:=Su n;have au:ops[j]?=some u:=Su R;obtain⟨Z,aa⟩:=h;simp only[Qa8,af]at Z;simp only[Qa8,au]at aa;unfold Qfk at Z aa;obtain⟨p,O,ac⟩:=Xx g Z;obtain⟨a7,ag,av⟩:=Xx g aa;simp only[ah,aq,cond_false]at O ag;refine⟨fun S=>(by rw[W]at S;cases S),fun k f=>?_⟩;rw[W]at f;have ao:k=i\/k=j:=Su f;rcases ao with rfl|rfl
    .have:=Qbz (Q:=Q) o g ac O (M:=fun e w'=>(noneOf [] (listed.setIfInBounds k true)->cl.rel w w')/\wpT P ops.toArray Q (fun L w'=>noneOf [] L->cl.rel w w') pl.size (listed.setIfInBounds k true) e w')
      fun e w' z A r F s f=>by
       have l:=F.resolve_left x;exact⟨fun _=>l,Qcr (fun L ai y E=>cl.trans l (y E)) _ _ _ _ (Qfi o x Y U V pl _ z A r e w' J s f)⟩
     unfold wpOp;simpa only[n] using this
    .have:=Qbz (Q:=Q) o g av ag (M:=fun e w'=>(noneOf [] (listed.setIfInBounds k true)->cl.rel w w')/\wpT P ops.toArray Q (fun L w'=>noneOf [] L->cl.rel w w') pl.size (listed.setIfInBounds k true) e w')
      fun e w' z A r F s f=>by
       have l:=F.resolve_left x;refine⟨fun _=>l,?_⟩;rw[ar];exact Qcr (fun L ai y E=>cl.trans l (y E)) _ _ _ _ (Qfi o x Y U V aw _ z A r e w' ab s f)
     unfold wpOp;simpa only[R] using this
 |.three i pl j aw k a8,listed,H,I,G,a,w,b,g,h=>by
  simp only[Q7y]at b
  cases n:ops.toArray[i]? with
  |none=>rw[n]at b;simp at b
  |some ae =>
   rw[n]at b
   cases R:ops.toArray[j]? with
   |none=>rw[R]at b;simp at b
   |some u =>
    rw[R]at b
    cases ak:ops.toArray[k]? with
    |none=>rw[ak]at b;simp at b
    |some v =>
     rw[ak]at b;simp only[Zk,Zam,beq_iff_eq]at b;obtain⟨⟨⟨⟨⟨⟨⟨⟨ah,aq⟩,a0⟩,W⟩,ar⟩,a3⟩,J⟩,ab⟩,ay⟩:=b;have af:ops[i]?=some ae:=Su n;have au:ops[j]?=some u:=Su R;have a4:ops[k]?=some v:=Su ak;obtain⟨Z,aa,al⟩:=h;simp only[Qa8,af]at Z;simp only[Qa8,au]at aa;simp only[Qa8,a4]at al;unfold Qfk at Z aa al;obtain⟨p,O,ac⟩:=Xx g Z;obtain⟨a7,ag,av⟩:=Xx g aa;obtain⟨a9,ax,y⟩:=Xx g al;simp only[ah,aq,a0,cond_false]at O ag ax;refine⟨fun S=>(by rw[W]at S;cases S),fun m f=>?_⟩;rw[W]at f;have ao:m=i\/m=j\/m=k:=Su f;rcases ao with rfl|rfl|rfl
     .have:=Qbz (Q:=Q) o g ac O (M:=fun e w'=>(noneOf [] (listed.setIfInBounds m true)->cl.rel w w')/\wpT P ops.toArray Q (fun L w'=>noneOf [] L->cl.rel w w') pl.size (listed.setIfInBounds m true) e w')
       fun e w' z A r F s f=>by
        have l:=F.resolve_left x;refine⟨fun _=>l,?_⟩;exact Qcr (fun L ai y E=>cl.trans l (y E)) _ _ _ _ (Qfi o x Y U V pl _ z A r e w' J s f)
      unfold wpOp;simpa only[n] using this
     .have:=Qbz (Q:=Q) o g av ag (M:=fun e w'=>(noneOf [] (listed.setIfInBounds m true)->cl.rel w w')/\wpT P ops.toArray Q (fun L w'=>noneOf [] L->cl.rel w w') pl.size (listed.setIfInBounds m true) e w')
       fun e w' z A r F s f=>by
        have l:=F.resolve_left x;refine⟨fun _=>l,?_⟩;rw[ar];exact Qcr (fun L ai y E=>cl.trans l (y E)) _ _ _ _ (Qfi o x Y U V aw _ z A r e w' ab s f)
      unfold wpOp;simpa only[R] using this
     .have:=Qbz (Q:=Q) o g y ax (M:=fun e w'=>(noneOf [] (listed.setIfInBounds m true)->cl.rel w w')/\wpT P ops.toArray Q (fun L w'=>noneOf [] L->cl.rel w w') pl.size (listed.setIfInBounds m true) e w')
       fun e w' z A r F s f=>by
        have l:=F.resolve_left x;refine⟨fun _=>l,?_⟩;rw[a3];exact Qcr (fun L ai y E=>cl.trans l (y E)) _ _ _ _ (Qfi o x Y U V a8 _ z A r e w' ay s f)
      unfold wpOp;simpa only[ak] using this
theorem Q4z(cl pl)(n:cl≠.same)(i:Qbl P T)(m:P.follows .mixedOrders=true){id ops b w kn ex rt}(d:(Region.noSelect ops&&(pl.size == ops.size)&&Q7y T ops pl (Array.replicate ops.size false))=true)
 (h:Xf0 P T N cl ops.toList pl b [] [] w.drew fun r _ _ w'=>kn r w'):SemC P N (.region id ops true) b w kn ex rt:=by
 unfold SemC;intro a j;simp only[Zk,beq_iff_eq]at d;obtain⟨⟨e,f⟩,g⟩:=d;have:=Qfi (ops:=ops.toList) (Q:=toQ N kn ex rt) i n e (fun a b s G w k l=>⟨b,k.done,l⟩) (fun c a w o=>o) pl (Array.replicate ops.size false) b [] [] a w.drew g j h;rw[f]at this;exact wp_region_any m (Qd3 _ _ _ _ this)
end
end Go.Se
namespace Go.Proofs
open Go.Shelf
def Tryz.compI_ren:Go.Shelf.Ren:=⟨fun|20=>286|n=>n,fun|22=>52|n=>n,fun|n=>n⟩
theorem Tryz.compI:Go.Proofs.Lays2.n20 Tryz.prog Tryz.compI_ren:={
 mixed:=Kr,f20:=Kr,t0:=Kr,a0:=Ku,z0:=Ku,v0:=Ku,t3:=Kr,a3:=Ku,z3:=Ku,v3:=Ku,t4:=Kr,a4:=Ku,z4:=Ku,v4:=Ku,t22:=Kr,a22:=Ku,z22:=Ku,v22:=Ku
 i3:=by kernel_rfl }
end Go.Proofs
namespace Go.Proofs.YtnpacgccajekgaaGreatDoor
open Go.Se Go.RowKit
theorem Qoe{B a}(b)(c:B<=b):∀(vs:List Value) (o:Nat) {w:World},Below B a w->Below B a (w.setCells b o vs)
 |[],_,_,h=>h
 |v::d,o,_,h=>Qoe b c d (o+1) (h.setCell (p:=⟨b,o,none⟩) c v)
theorem Xht:Qle Tryz.prog 52 3 Qf7 1 8:=⟨Xdw,⟨_,ty3_ok,rfl,rfl⟩,by3,by decide,by decide,X8,Q2p⟩
theorem Q53:Qql Tryz.prog 286:=⟨_,Tryz.func286,rfl,rfl⟩
theorem mem_compact(zs)(t:Int):t∈Lib.compact zs↔t∈zs:=by
 have key:∀m,m<=zs.length->∀t,t∈Lib.compactUpTo zs.toArray m↔t∈zs.take m:=by
  intro m
  induction m with
  |zero=>intro _ t;simp[Lib.compactUpTo]
  |succ m g =>
   intro i t;rw[Lib.compactUpTo_succ,Qdb zs m Om,Zj,Zj,g Om t];have b:zs.toArray[m]! = zs[m]:=by simp[show m<zs.length by omega]
   rw[b]
   cases f:Lib.keeps zs.toArray m with
   |true=>simp
   |false =>
    have c:¬(m=0\/zs.toArray[m]!≠zs.toArray[m-1]!):=by
     intro h;have:Lib.keeps zs.toArray m=true:=by simp only[Lib.keeps];exact decide_eq_true h
     rw[f]at this;cases this
    have j:m≠0:=fun h=>c (.inl h)
    have a:zs.toArray[m]! = zs.toArray[m-1]! := Classical.byContradiction fun h=>c (.inr h)
    rw[b]at a;have d:zs.toArray[m-1]! = zs[m-1]'Om:=by simp[show m-1<zs.length by omega]
    rw[d]at a;have e:zs[m]∈zs.take m:=(by rw[a,Zcb];exact⟨m-1,Om,rfl⟩);constructor
    .rintro (h|h)
     .exact .inl h
     .simp at h
    .rintro (h|h)
     .exact .inl h
     .simp at h;subst h;exact .inl e
 have:=key zs.length (Zf _) t
 rwa [Zck]at this
theorem Qv8(l A c base w)(f:Own Qf7 1 3 base w A c l)(W:l.length<1000000000000) :
 Cal Tryz.prog 286 [.slice A l.length c] w fun r w'=>∃L,r=.slice A L.length c/\(∀t,t∈L↔t∈l)/\L.length<=l.length/\SlI w' A L/\∀d,Ext d w->d.heap.size<=base->Ext d w':=by
 by_cases O:l.length<2
 .refine Fi Tryz.func286 rfl _ rfl rfl (Hh ?_);refine⟨fun _=>?_,fun h=>(by simp at h;omega)⟩;refine Hh ?_;exact⟨l,rfl,fun _=>Iff.rfl,Zf _,f.sl X8,fun d h _=>h⟩
 .have J:=f.sl X8;rcases f.2 with⟨_,k⟩|⟨g,cap,N,K,P,F,C,S,U,V⟩
  .omega
  injection K with u _ E;subst u;subst E;have m:∀j,j<l.length->w.cell? ⟨g,0+j,none⟩=some (Vj (l.getD j 0)):=(by intro j b;obtain⟨a,z,D⟩:=J.get b;have B:a=⟨g,0,none⟩:=Su z.symm;have:=D 0 _ rfl;rw[B,Q9,Qe7]at this;rw[Zbt,Zb b];simpa using this);refine Qae Q53 (Any.slices_Compact_int_cells Tryz.compI g 0 l.length c l w (Zf _) Om C m (fun j _=>by unfold World.frozen?;rw[F];simp)) ?_;rintro w' ⟨q,rfl⟩;rw[Zck];have n:=Lib.compact_length_le l;generalize y:Lib.compact l=L at n;refine⟨L,rfl,fun t=>by rw[<- y];exact mem_compact l t,n,?_,?_⟩
  .intro i x e;have o:i<L.length:=(Zi.1 e).1;refine⟨_,rfl,fun j v b=>?_⟩;have I:j=0:=(by have:=(Zi.1 b).1;rw[X8]at this;omega);subst I;have M:v=Vj x:=by simpa [Qf7] using b.symm
   have:=World.cell?_setCells_in g ((L++List.replicate (l.length-L.length) 0).map (Value.int .i64)) 0 (w.drewN q) (fun j b=>by
    have H:j<l.length:=by simp at b;omega
    have:=m j H;show (w.cell? _).isSome=true
    rw[this];rfl) i (by simp;omega)
   have hx:L[i]=x:=by rw[Zb o]at e;simpa using e
   rw[Q9,Qe7];simp only[Zbl,Zcf,Za6]at this⊢;rw[this,M];rw[List.getElem_map,List.getElem_append_left o,hx]
  .intro d k R;have s:Ext d (w.drewN q):=k.trans (Qhn w q);exact Qoe g Om _ _ s
def Qqf(row:List St):List Int:=row.map (·.at_)
theorem Q4i(w S p cs)(h:Qgl w S p cs)(name)(ai:(Qy cs name).length<1000000) :
 Cal Tryz.prog 205 [Pj p,.string name] w fun r w'=>∃A c L,r=.slice A L.length c/\(∀t,t∈L↔t∈Qqf (Qy cs name))/\L.length<=(Qy cs name).length/\SlI w' A L/\Ext w w':=by
 obtain⟨P,L,h⟩:=h;refine Fi Tryz.func205 rfl _ rfl rfl (Hh ?_);refine⟨.map (some P),h.head.one rfl,Hh ?_⟩;refine⟨_,h.rows.look Qyf Xd (e:=ty223) ty223_ok rfl name Qs,?_⟩;have a:=(h.rows.own name).1;generalize ak:Qy cs name=row at*;generalize (rowAt L name).1=A at*;generalize (rowAt L name).2=c at*;have Y:Sl stC 9 w A row:=a.sl Qqa;clear a h;obtain⟨T,n⟩:∃T,T=Qqf row:=⟨_,rfl⟩;have ah:T.length=row.length:=by rw[n];simp[Qqf]
 rw[<- n];have U:∀k (u:k<row.length),T[k]'Om=(row[k]).at_:=fun k u=>by subst n;simp[Qqf]
 refine Hh ?_
 refine Qh Qb (fun(k:Nat×Option Addr×Nat) w'=>k.1<=row.length/\Ext w w'/\Own Qf7 1 3 w.heap.size w' k.2.1 k.2.2 (T.take k.1))
  (fun|(k,B,d)=>[(5,.slice B k d),(13,.slice A row.length c),(14,Vj row.length),(15,Vj k)]) (fun k=>row.length-k.1) (0,none,0) ⟨by simp,Ext.refl _,Own.nil⟩ Rr ?_
 rintro ⟨k,B,d⟩ I ⟨u,f,a⟩;simp only at u a;refine Hh ?_;constructor
 .intro b;have b:k<row.length:=Su b;obtain⟨a2,rfl,o⟩:=(Y.ext f).get b;have j:=Qdb T k Om;have C:(T.take k).length=k:=by rw[Zn];omega
  have D:(T.take (k+1)).length=k+1:=by rw[Zn];omega
  have v:=U k b;generalize T[k]'Om=t at j v;generalize row[k]=s at o v;subst v;obtain⟨y,z⟩:∃y,y=T.take (k+1):=⟨_,rfl⟩;rw[<- z]at j D;generalize ag:T.take k=N at j C a;refine Hh ?_;refine⟨a2,Ix,Hh ?_⟩;refine⟨stC s,⟨rfl,o⟩,Hh ?_⟩;intro O ao g;refine Hh ?_;have ae:=g.block;refine Qc Qb (e:=ty229) rfl g.At rfl rfl rfl (by simp[Qg,stC,Value.oneCell']) fun J m E=>?_
  have m:At J O _ (stC s):=m;have H:Ext I J:=E.ext g.ext Om;replace f:=f.trans H;replace a:=a.ext H;clear g E o;refine Hh ?_;refine⟨_,m.one rfl,Hh ?_⟩;intro ac aq i;refine Hh ?_;refine Qq Xht (l:=N) (news:= [s.at_]) C.symm (a.ext i.ext) rfl (Xht.new1 (x:=s.at_) i) (by simp;omega) ((f.trans i.ext).size) fun K R al F V af=>?_
  have aa:=Qu (f.trans i.ext) V (Xm a);rw[<- j]at F⊢;rw[D];refine Hh ?_;refine⟨_,wrap_succ Om,Hh ?_⟩;refine⟨(k+1,K,R),Sj,⟨Sj,aa,?_⟩,Rr⟩;simp only;rw[<- z];exact F
 .intro b;have b:row.length<=k:=Su b;obtain rfl:k=T.length:=Om;rw[Zck]at a;refine Hh ?_;refine(Qv8 T B d w.heap.size I a Om).mono ?_;rintro _ an ⟨M,rfl,W,aj,Z,ab⟩;refine Hh ?_;exact⟨B,d,M,rfl,W,Om,Z,ab w f (Zf _)⟩
theorem Qvw(w S p cs)(h:Qgl w S p cs)(name)(f:(Qy cs name).length<1000000) :
 Cal Tryz.prog 205 [Pj p,.string name] w fun r w'=>∃A c L,r=.slice A L.length c/\(∀t,t∈L↔t∈Qqf (Qy cs name))/\L.length<1000000/\SlI w' A L/\Ext w w':=
 (Q4i w S p cs h name f).mono fun r w' ⟨A,c,L,a,b,g,d,e⟩=>⟨A,c,L,a,b,Om,d,e⟩
theorem Qy5(l A c w)(k:SlE w A l)(C:l.length<1000000) :
 Cal Tryz.prog 99 [.slice A l.length c] w fun r w'=>∃e f,r=.slice e l.length f/\Own evC 8 69 w.heap.size w' e f l/\(e=none->l=[])/\Ext w w':=by
 refine Fi Tryz.func99 rfl _ rfl rfl (Hh ?_);refine⟨_,X4 Qyi A _ _ _ _,Gg ?_⟩;constructor
 .intro j;have s:A=none:=Su j
  have y:l=[]:=by
   cases l with
   |nil=>rfl
   |cons x l =>
    obtain⟨a,g,_⟩:=k 0 x rfl;rw[s]at g;cases g
  subst y;refine Gg ?_;exact⟨none,0,rfl,Own.nil,fun _=>rfl,Ext.refl _⟩
 .intro j;refine Gg ?_;intro B D d;refine Gg ?_;have m:=Qq2.made (base:=w.heap.size) d (Zf _);refine Qq Qq2 (l:= []) (news:=l) rfl m rfl (k.ext d.ext) (by simp;omega) d.ext.size fun n o E i v u=>?_
  have z:=Qu d.ext v (Xm m);rw[Zah]at i⊢;refine Gg ?_;refine⟨n,o,rfl,i,fun h=>?_,z⟩;exfalso;rcases u with b|b|b
  .rw[h]at b;cases b
  .rw[h]at b;simp at b
  .rw[h]at b;simp at b
theorem Qzi{w T p c z}(h:WT w T p c z) :
 Cal Tryz.prog 206 [Pj p] w fun r w'=>∃A a,r=.slice A z.length a/\Own evC 8 69 w.heap.size w' A a z/\(A=none->z=[])/\Ext w w':=by
 obtain⟨v,o,d,_⟩:=h;have m:=d.len;obtain⟨col,q,A,n,cap,any,last,b⟩:=d.at_;obtain⟨k,l,_⟩:=b.evs;subst k;refine Fi Tryz.func206 rfl _ rfl rfl (Hh ?_);refine⟨.slice A z.length cap,b.head.one rfl,Gg ?_⟩;refine(Qy5 z A cap w l m).mono ?_;rintro _ s ⟨e,f,rfl,g,i,j⟩;refine Gg ?_;exact⟨e,f,rfl,g,i,j⟩
theorem Qzr(l A c x w)(n:SlI w A l)(u:l.length<1000000) :
 Cal Tryz.prog 285 [.slice A l.length c,Vj x] w fun r w'=>(∃i:Int,r=Vj i /\ -1<=i/\(0<=i↔x∈l))/\w'=w:=by
 refine Fi Tryz.func285 rfl _ rfl rfl (Hh ?_)
 refine Qh Qb (fun(k:Nat) w'=>k<=l.length/\x∉l.take k/\w'=w)
  (fun k=>[(0,.slice A l.length c),(1,Vj x),(7,Vj l.length),(8,Vj (k:Nat))]) (fun k=>l.length-k) 0 ⟨Zt _,by simp,rfl⟩ Rr ?_
 rintro k v ⟨s,e,o⟩;subst o;refine Hh ?_;constructor
 .intro b;have b:k<l.length:=Su b;obtain⟨a2,m,f⟩:=n.get b;subst m;have j:x∈l.take (k+1)↔x=l[k]:=by rw[Za b,Zj,Zl];simp[e]
  have g:l[k]∈l:=Zu b;generalize l[k]=y at f j g;refine Hh ?_;refine⟨a2,Ix,Hh ?_⟩;refine⟨Vj y,Qp f,Hh ?_⟩;constructor
  .intro a;have a:x=y:=Su a;refine Hh ?_;exact⟨⟨k,rfl,Om,by simp[a,g]⟩,rfl⟩
  .intro a;have a:¬x=y:=Su a;refine Hh ?_;refine⟨_,wrap_succ Om,Hh ?_⟩;exact⟨k+1,Om,⟨Om,fun h=>a (j.1 h),rfl⟩,Rr⟩
 .intro d;have d:l.length<=k:=Su d;rw[Zd d]at e;refine Hh ?_;exact⟨⟨-1,rfl,Om,by simp[e]⟩,rfl⟩
theorem Qqx(l A c x w)(e:SlI w A l)(d:l.length<1000000) :
 Cal Tryz.prog 204 [.slice A l.length c,Vj x] w fun r w'=>r=.bool (decide (x∈l))/\w'=w:=by
 refine Fi Tryz.func204 rfl _ rfl rfl (Hh ?_);refine(Qzr l A c x w e d).mono ?_;rintro _ _ ⟨⟨g,rfl,f,b⟩,rfl⟩;refine Hh ?_;refine⟨?_,rfl⟩
 by_cases a:x∈l
 .rw[decide_eq_true (b.2 a),decide_eq_true a]
 .rw[decide_eq_false (fun h=>a (b.1 h)),decide_eq_false a]
theorem Qoh(w p)(i:Gl w)(e)(j:Xy e=true)(f:thB e=false)(m:e.text.size<1000000) :
 Cal Tryz.prog 102 [Pj p,evV e] w fun r w'=>r=.bool false/\Ext w w':=by
 have f:¬(e.kind=11\/e.kind=12\/e.kind=13):=by simpa [thB] using f
 refine Fi Tryz.func102 rfl _ rfl rfl (Hh ?_);intro l k c;have d:=c.At;refine Hh ?_;refine⟨evC e,⟨rfl,d.all⟩,Hh ?_⟩;refine(Qki e k (i.ext c.ext) Om).mono ?_;rintro _ n ⟨rfl,g⟩;have a:=d.ext g;refine Hh ?_;refine⟨_,fun _=>a.one rfl,Hh ?_⟩;refine⟨_,fun _ _=>a.one rfl,Hh ?_⟩;refine⟨_,fun _ _=>a.one rfl,Hh ?_⟩;have h:((!Xy e)||(((!decide (e.kind=11))&&(!decide (e.kind=12)))&&(!decide (e.kind=13))))=true:=(by rw[j];simp;omega);constructor
 .intro _;refine Hh ?_;exact⟨rfl,c.ext.trans g⟩
 .intro b;have b:=h.symm.trans b;cases b
structure ApAt(w:World)(p bw ba:Nat)(z:List Ev)(R:Nat->Prop):Prop where
 wb:At w bw 38 [Pj p]
 all:∃A c,At w ba 24 [.slice A (if A=none then 0 else z.length) c]/\(A=none->c=0)/\SlE w A (if A=none then [] else z)/\∀a,A=some a->a.block≠ba/\¬R a.block/\a.block<w.heap.size
 ne:bw≠ba
theorem ApAt.ext{w w1 p e ba z R}(h:ApAt w p e ba z R)(hx:Ext w w1):ApAt w1 p e ba z R:=by
 obtain⟨f,⟨A,c,g,i,j,b⟩,k⟩:=h;exact⟨f.ext hx,⟨A,c,g.ext hx,i,j.ext hx,fun a d=>⟨(b a d).1,(b a d).2.1,Zat (b a d).2.2 hx.size⟩⟩,k⟩
theorem ApAt.keepR{w w1 p e ba z R R1}(h:ApAt w p e ba z R)(f:∀k,k<w.heap.size->¬R k->w1.heap[k]?=w.heap[k]? /\ ¬R1 k)(r:¬R e)(o:¬R ba):ApAt w1 p e ba z R1:=by
 obtain⟨g,⟨A,c,i,l,m,d⟩,n⟩:=h;refine⟨(f e g.lt r).1.trans g,⟨A,c,(f ba i.lt o).1.trans i,l,Qq2.stay m fun a b s=>(f _ s (d a b).2.1).1,fun a b=>?_⟩,n⟩;have j:=f _ (d a b).2.2 (d a b).2.1;exact⟨(d a b).1,j.2,Qhs (d a b).2.2 j.1⟩
def apV(a ba:Nat):Value:= .func (.func 203) #[] #[Pj a,Pj ba]
theorem Qvm(p z R w) :
 Cal Tryz.prog 141 [Pj p] w fun r w'=>∃c ba,r=apV c ba/\w.heap.size<=c/\w.heap.size<=ba/\ba<w'.heap.size/\ApAt w' p c ba z R/\Ext w w':=by
 refine Fi Tryz.func141 rfl _ rfl rfl (Hh ?_);intro d i b;refine Gg ?_;intro e j a;refine Gg ?_;have f:=b.block;have g:=a.block;have h:=b.size;refine⟨d,e,rfl,Om,Om,a.At.lt,⟨b.At.ext a.ext,⟨none,0,a.At,fun _=>rfl,Sl.nil,by simp⟩,Om⟩,b.ext.trans a.ext⟩
theorem Xhg{a b}:0<=Qj4 a b↔Q5 a b=false:=by
 rw[<- Qco,decide_eq_false_iff_not];omega
theorem Xaf{cs x q}(h:∀y∈cs,Q5 y x=true):(Qm cs).filter q=[]\/Q5 (Qe2 ((Qm cs).filter q)) x=true:=by
 rcases Zbo ((Qm cs).filter q) with a|⟨d,y,a⟩
 .exact .inl a
 .right
  have b:(Qm cs).filter q=d++[y]:=Su a
  have c:y∈cs:=by
   have:y∈(Qm cs).filter q:=by rw[b];simp
   exact(Ze.1 (Ze.1 this).1).1
  rw[b,Qpa];exact h y c
theorem Qrn(l:List Ev)(name t):(l.filter fun x=>decide (x.item=name)).filter (thQ name t)=l.filter (thQ name t):=by
 rw[List.filter_filter];apply Zda;intro x _;unfold thQ
 by_cases h:x.item=name<;>simp[h]
set_option maxHeartbeats 2000000 in
theorem Qyv{w T p c z}(b8:WT w T p c z)(bv:Gl w)(dy:z.length<100000)(W ba){R}(C:ApAt w p W ba z R)(c7:∀k,R k->k<w.heap.size)(c9:10<=ba)(e)(bu:e∈z)(df:peB e=true) :
 Cal Tryz.prog 203 [evV e,Pj W,Pj ba] w fun r w'=>∃A b5,r=.slice A (Qq5 z e).length b5/\SlT w' A (Qq5 z e)/\ApAt w' p W ba z R/\Mod (fun k=>k=ba) w w':=by
 obtain⟨v,dq,bl,_⟩:=id b8;have P:=bl.may;have az:=bl.rise;have dv:=bv.size;have de:=Xfy df;have bq:∀y∈(Qm (Qhf z e)).filter (thQ e.item e.at_),Xy y=true:=fun y j=>P y (Qsu (Ze.1 (Ze.1 j).1).1)
 have dc:z≠[]:=fun h=>by rw[h]at bu;simp at bu
 have dw:=Zc thB z;refine Fi Tryz.func203 rfl _ rfl rfl (Hh ?_);intro M dj bb;refine Gg ?_;have d:At dj M 69 (evC e):=bb.At;have b:=bb.ext;have dr:w.heap.size<=M:=by rw[bb.block];exact Zf _
 have dt:ba<w.heap.size:=by obtain⟨A,b5,h,_⟩:=C.all;exact h.lt
 clear bb;refine⟨Pj p,(C.wb.ext b).one0,Gg ?_⟩;refine(Xo (bl.ext b)).mono ?_;rintro _ cr ⟨pc,S,rfl,J,bz⟩;replace d:=d.ext bz;replace b:=b.trans bz;clear bz;refine Gg ?_;refine Dr .ext [0,1,2,4,5,3] [6] (Hh ?_);have bj:=(Ext.refl cr).drew;replace d:=d.ext bj;replace b:=b.trans bj;replace J:=J.ext bj;generalize cr.drew=dm at d b J⊢;refine⟨.string e.item,d.one rfl,Hh ?_⟩;refine⟨Vj e.at_,d.one rfl,Hh ?_⟩
 refine(Qvw dm S pc _ J e.item (by
  have aj:=(X0 (Qm z) (Qd2 P) e.item).1;unfold Qm at*;omega)).mono ?_
 rintro _ cu ⟨cz,c4,L,rfl,b7,c5,cj,ax⟩;refine⟨ax,Hh ?_⟩;refine(Qqx L cz c4 e.at_ cu cj c5).mono ?_;rintro _ w5 ⟨rfl,bx⟩;replace bx:=bx.symm;subst bx;replace d:=d.ext ax;replace b:=b.trans ax;replace J:=J.ext ax;have cf:e.at_∈L↔∃x∈Qm z,x.item=e.item/\x.at_=e.at_:=by rw[b7];exact Q8r e.item e.at_ (Qm z)
 clear b7 cj ax bj;refine Gg ?_;constructor
 .intro ae;have ae:e.at_∈L:=Su ae;clear J cf;refine Hh ?_;refine Xi Qb (ι:=Option Addr×Nat) (fun _=>[(1,Pj W),(2,Pj ba),(3,Pj M)]) (fun q w'=>At w' ba 24 [.slice q.1 z.length q.2]/\SlE w' q.1 z/\(∀a,q.1=some a->a.block≠ba/\¬R a.block/\a.block<w'.heap.size)/\At w' M 69 (evC e)/\At w' W 38 [Pj p]/\Mod (fun k=>k=ba) w w') ?_ ?_
  .obtain⟨V,ca,a5,br,ck,bw⟩:=C.all;have c8:M≠ba:=Om;refine Hh ?_;refine⟨.slice V (if V=none then 0 else z.length) ca,(a5.ext b).one0,Hh ?_⟩;refine⟨_,X4 Qyi V _ _ _ _,Hh ?_⟩;constructor
   .intro I;have I:V=none:=Su I;subst I;have br:=br rfl;subst br;refine Hh ?_;refine⟨Pj p,(C.wb.ext b).one0,Hh ?_⟩;refine(Qzi (b8.ext b)).mono ?_;rintro _ a0 ⟨U,Y,rfl,au,du,bi⟩;refine Hh ?_;refine Qc Qb (e:=ty24) rfl ((a5.ext b).ext bi) rfl rfl rfl Oj fun dp c2 ar=>?_
    have dz:=b.size;refine Hh ?_;refine⟨(U,Y),⟨c2,Qa7 (au.sl Qau) fun a f=>ar.block _ (fun e=>?_),fun a f=>⟨fun e=>?_,fun e=>?_,by rw[ar.size];exact(au.block f).2⟩,(ar.block M c8).trans (d.ext bi),(ar.block W C.ne).trans ((C.wb.ext b).ext bi),(Mod.of_ext (b.trans bi)).trans (Qj ar rfl)⟩,Rr⟩
    .have:=(au.block f).1;omega
    .have:=(au.block f).1;omega
    .have:=(au.block f).1;have:=c7 _ e;omega
   .intro I;have I:¬V=none:=(by intro h;rw[h]at I;cases I);rw[if_neg I]at a5 ck;rw[if_neg I];refine Hh ?_;exact⟨(V,ca),⟨a5.ext b,ck.ext b,fun a f=>⟨(bw a f).1,(bw a f).2.1,Zat (bw a f).2.2 b.size⟩,d,C.wb.ext b,Mod.of_ext b⟩,Rr⟩
  rintro ⟨U,Y⟩ a0 ⟨a4,af,N,d,cl,bk⟩;simp only at a4 af N;have aa:U≠none:=fun h=>(by obtain⟨y,d2,di⟩:=Zbs dc;rw[di]at af;obtain⟨a,f,_⟩:=af 0 y rfl;rw[h]at f;cases f)
  have aq:Gl a0:=bv.mod bk fun k E=>by rw[E];exact c9
  have d0:=aq.size;clear b;refine Gg ?_;refine(Qoi a0).mono ?_;rintro _ dp ⟨ag,rfl,cb,b0⟩;refine Gg ?_;refine⟨.slice U z.length Y,(a4.ext b0).one0,Gg ?_⟩
  refine Qh Qb (fun(i:Nat) w'=>i<=z.length/\(∀x∈z.take i,Q5 x e=true)/\(∃b4,Qgl w' b4 ag ((Qm (z.take i)).filter fun x=>decide (x.item=e.item))/\∀k,b4 k->a0.heap.size<=k)/\Ext a0 w')
   (fun i=>[(3,Pj M),(5,Pj ag),(24,.slice U z.length Y),(25,Vj z.length),(26,Vj (i:Nat))]) (fun i=>z.length-i) 0 ⟨Zt _,by simp,⟨_,cb,fun k E=>E⟩,b0⟩ ⟨rfl,rfl,rfl,rfl,rfl,trivial⟩ ?_
  clear cb b0;rintro i cw ⟨a7,bm,⟨ai,H,ak⟩,F⟩;refine Hh ?_;constructor
  .intro ac;have ac:i<z.length:=Su ac;obtain⟨a9,c3,b9⟩:=(af.ext F).get ac;subst c3;have bg:=Qdb z i ac;have a8:=P z[i] (Zu ac);have cd:z[i]?=some z[i]:=Zb ac;have cg:∀y∈z.take i,Q5 y z[i]=true:=fun y j=>(by have aj:=az;rw[<- Zag (i+1) z,bg]at aj;exact(Z7.1 (Z7.1 aj).1).2.2 y j z[i] (by simp))
   generalize z[i]=x at b9 bg a8 cd cg;refine Gg ?_;refine⟨a9,Ix,Gg ?_⟩;refine⟨evC x,⟨rfl,b9⟩,Gg ?_⟩;intro c0 d1 bd;refine Gg ?_;refine Qc Qb (e:=ty69) rfl bd.At rfl rfl rfl (Qbn x) fun b2 a3 ch=>?_
   have a3:At b2 c0 69 (evC x):=a3;have cn:Ext cw b2:=ch.ext bd.ext (by rw[bd.block];exact Zf _);clear ch bd;refine Gg ?_;refine⟨evC x,⟨rfl,a3.all⟩,Gg ?_⟩;refine⟨evC e,⟨rfl,((d.ext F).ext cn).all⟩,Gg ?_⟩;refine(Qbh x e b2).mono ?_;rintro _ b3 ⟨rfl,cm⟩;have ay:=cn.trans cm;have s:=F.trans ay;have b6:=a3.ext cm;have Z:=d.ext s;refine Gg ?_;constructor
   .intro D;have D:0<=Qj4 x e:=Su D;replace H:=H.ext ay;have bp:Qhf z e=z.take i:=(Qk4 (p:=fun x=>Q5 x e) a7 bm (.inr ⟨x,cd,Xhg.1 D⟩)).1;have bs:(Qm (z.take i)).filter (fun x=>decide (x.item=e.item))=(Qm (Qhf z e)).filter fun x=>decide (x.item=e.item):=by rw[bp]
    rw[bs]at H;have ao:=Qrn (Qm (Qhf z e)) e.item e.at_;have al:∀y∈(Qm (Qhf z e)).filter (fun x=>decide (x.item=e.item)),Xy y=true:=fun y j=>P y (Qsu (Ze.1 (Ze.1 j).1).1)
    have an:Rise ((Qm (Qhf z e)).filter fun x=>decide (x.item=e.item)):=(Qdk (az.sublist (Zcu _))).sublist Zax;have cc:((Qm (Qhf z e)).filter fun x=>decide (x.item=e.item)).length<100000:=(by have cp:=Zc (fun x:Ev=>decide (x.item=e.item)) (Qm (Qhf z e));have cq:=Zc thB (Qhf z e);have b1:=(Zcu (fun x=>Q5 x e) (l:=z)).length_le;unfold Qm Qhf at*;omega);refine Gg ?_;refine⟨.string e.item,(Z).one rfl,Gg ?_⟩;refine⟨Vj e.at_,(Z).one rfl,Gg ?_⟩
    refine(Xa _ ai ag _ H e.item e.at_ (by
     have d:=(X0 ((Qm (Qhf z e)).filter fun x=>decide (x.item=e.item)) al e.item).1;omega)).mono ?_
    rintro _ cx ⟨rfl,u⟩;rw[Qer an,ao];have aw:=Qfb e.item ((Qm (Qhf z e)).filter (thQ e.item e.at_)) bq;refine Gg ?_;intro bt wt m;refine Gg ?_;refine Qc Qb (e:=ty152) rfl m.At rfl rfl rfl (by simp[Qg,itC,Value.oneCell']) fun B n K=>?_
    have n:At B bt 152 (itC (Qu9 e.item ((Qm (Qhf z e)).filter (thQ e.item e.at_)))):=n;have g:Ext b3 B:=K.ext (u.trans m.ext) (by rw[m.block];exact u.size);clear K m u;unfold Qq5;generalize Qu9 e.item ((Qm (Qhf z e)).filter (thQ e.item e.at_))=it at n aw⊢;refine Gg ?_;refine⟨.string it.tags,n.one rfl,Gg ?_⟩;refine⟨sz2 (by decide) Om,Gg ?_⟩;refine(Qdg (Qg5 it.tags) B ((aq.ext s).ext g) (by unfold Qg5;rw[Zbd];have:(⟨#[59]⟩:Bj).size=1:=rfl;omega)).mono ?_;rintro _ cy ⟨ah,cv,rfl,av,_,o⟩;refine Gg ?_;exact⟨ah,cv,rfl,av,⟨cl.ext (s.trans (g.trans o)),⟨some a9,Y,by rw[if_neg aa];exact a4.ext (s.trans (g.trans o)),fun h=>absurd h aa,by rw[if_neg aa];exact af.ext (s.trans (g.trans o)),fun a f=>⟨(N a f).1,(N a f).2.1,Zat (N a f).2.2 (s.trans (g.trans o)).size⟩⟩,C.ne⟩,bk.trans (Mod.of_ext (s.trans (g.trans o)))⟩
   intro D
   have db:Q5 x e=true:=by
    have D:¬0<=Qj4 x e:=Su D
    cases h:Q5 x e with
    |true=>rfl
    |false=>exact absurd (Xhg.2 h) D
   have bo:∀y∈z.take (i+1),Q5 y e=true:=fun y j=>by
    rw[bg]at j;rcases Zj.1 j with j|j
    .exact bm y j
    .rw[Zl]at j;rw[j];exact db
   have ab:(Qm (z.take (i+1))).filter (fun x=>decide (x.item=e.item))=(Qm (z.take i)).filter (fun x=>decide (x.item=e.item))++if thB x=true/\x.item=e.item then [x] else []:=(by rw[bg];unfold Qm;rw[Zq,Zq];congr 1;cases aj:thB x<;>by_cases c1:x.item=e.item<;>simp[aj,c1])
   refine Gg ?_;refine⟨.string x.item,b6.one rfl,Gg ?_⟩;refine⟨.string e.item,Z.one rfl,Gg ?_⟩;constructor
   .intro O;have O:x.item=e.item:=Su O;refine Gg ?_;refine⟨evC x,⟨rfl,b6.all⟩,Gg ?_⟩;have dx:=Qdn a8
    cases be:thB x with
    |false =>
     rw[if_neg (fun h=>by rw[be]at h;cases h.1),Z4]at ab;refine(Qoh b3 ag (aq.ext s) x a8 be Om).mono ?_;rintro _ dk ⟨rfl,bh⟩;refine Gg ?_;refine⟨_,wrap_succ Om,Gg ?_⟩;exact⟨i+1,Om,⟨Om,bo,⟨ai,by rw[ab];exact(H.ext ay).ext bh,ak⟩,s.trans bh⟩,Rr⟩
    |true =>
     rw[if_pos ⟨be,O⟩]at ab
     refine(Qj3 b3 ai ag _ (H.ext ay) (aq.ext s) (fun k E=>by have:=ak k E;omega) x a8 (by simpa [thB] using be) Om (Xaf cg) (by
      have cp:=(X0 ((Qm (z.take i)).filter fun x=>decide (x.item=e.item)) (fun y j=>P y (Zay (Ze.1 (Ze.1 j).1).1)) x.item).1;have cq:=Zc (fun x:Ev=>decide (x.item=e.item)) (Qm (z.take i));have b1:=Zc thB (z.take i);rw[Zn]at b1;unfold Qm at*;omega)).mono ?_
     rintro _ dk ⟨rfl,da,c6⟩;have bh:=Qcu s ak c6;refine Gg ?_;refine⟨_,wrap_succ Om,Gg ?_⟩;refine⟨i+1,Om,⟨Om,bo,⟨_,by rw[ab];exact da,fun k E=>?_⟩,bh⟩,⟨rfl,rfl,rfl,rfl,rfl,trivial⟩⟩;have:=s.size;rcases E with E|E
     .exact ak k E
     .omega
   .intro O;have O:¬x.item=e.item:=Su O;rw[if_neg (fun h=>O h.2),Z4]at ab;refine Gg ?_;refine⟨_,wrap_succ Om,Gg ?_⟩;exact⟨i+1,Om,⟨Om,bo,⟨ai,by rw[ab];exact H.ext ay,ak⟩,s⟩,Rr⟩
  .intro D;have D:z.length<=i:=Su D;have Z:=d.ext F;have bp:Qhf z e=z.take i:=(Qk4 (p:=fun x=>Q5 x e) a7 bm (.inl Om)).1;have bs:(Qm (z.take i)).filter (fun x=>decide (x.item=e.item))=(Qm (Qhf z e)).filter fun x=>decide (x.item=e.item):=by rw[bp]
   rw[bs]at H;have ao:=Qrn (Qm (Qhf z e)) e.item e.at_;have al:∀y∈(Qm (Qhf z e)).filter (fun x=>decide (x.item=e.item)),Xy y=true:=fun y j=>P y (Qsu (Ze.1 (Ze.1 j).1).1)
   have an:Rise ((Qm (Qhf z e)).filter fun x=>decide (x.item=e.item)):=(Qdk (az.sublist (Zcu _))).sublist Zax;have cc:((Qm (Qhf z e)).filter fun x=>decide (x.item=e.item)).length<100000:=(by have cp:=Zc (fun x:Ev=>decide (x.item=e.item)) (Qm (Qhf z e));have cq:=Zc thB (Qhf z e);have b1:=(Zcu (fun x=>Q5 x e) (l:=z)).length_le;unfold Qm Qhf at*;omega);refine Gg ?_;refine⟨.string e.item,(Z).one rfl,Gg ?_⟩;refine⟨Vj e.at_,(Z).one rfl,Gg ?_⟩
   refine(Xa _ ai ag _ H e.item e.at_ (by
    have d:=(X0 ((Qm (Qhf z e)).filter fun x=>decide (x.item=e.item)) al e.item).1;omega)).mono ?_
   rintro _ cx ⟨rfl,u⟩;rw[Qer an,ao];have aw:=Qfb e.item ((Qm (Qhf z e)).filter (thQ e.item e.at_)) bq;refine Gg ?_;intro bt wt m;refine Gg ?_;refine Qc Qb (e:=ty152) rfl m.At rfl rfl rfl (by simp[Qg,itC,Value.oneCell']) fun B n K=>?_
   have n:At B bt 152 (itC (Qu9 e.item ((Qm (Qhf z e)).filter (thQ e.item e.at_)))):=n;have g:Ext cw B:=K.ext (u.trans m.ext) (by rw[m.block];exact u.size);clear K m u;unfold Qq5;generalize Qu9 e.item ((Qm (Qhf z e)).filter (thQ e.item e.at_))=it at n aw⊢;refine Gg ?_;refine⟨.string it.tags,n.one rfl,Gg ?_⟩;refine⟨sz2 (by decide) Om,Gg ?_⟩;refine(Qdg (Qg5 it.tags) B ((aq.ext F).ext g) (by unfold Qg5;rw[Zbd];have:(⟨#[59]⟩:Bj).size=1:=rfl;omega)).mono ?_;rintro _ cy ⟨ah,cv,rfl,av,_,o⟩;refine Gg ?_;exact⟨ah,cv,rfl,av,⟨cl.ext (F.trans (g.trans o)),⟨U,Y,by rw[if_neg aa];exact a4.ext (F.trans (g.trans o)),fun h=>absurd h aa,by rw[if_neg aa];exact af.ext (F.trans (g.trans o)),fun a f=>⟨(N a f).1,(N a f).2.1,Zat (N a f).2.2 (F.trans (g.trans o)).size⟩⟩,C.ne⟩,bk.trans (Mod.of_ext (F.trans (g.trans o)))⟩
 .intro ae;have ae:¬e.at_∈L:=Su ae;have dd:∀x∈Qm z,x.item=e.item->x.at_≠e.at_:=fun x hx a7 dh=>ae (cf.2 ⟨x,hx,a7,dh⟩)
  have ao:=Q1k az bu de dd;have al:=Qd2 P;have an:=Qdk az;have cc:(Qm z).length<100000:=by unfold Qm;omega
  refine Gg ?_;refine⟨.string e.item,(d).one rfl,Gg ?_⟩;refine⟨Vj e.at_,(d).one rfl,Gg ?_⟩
  refine(Xa _ S pc _ J e.item e.at_ (by
   have d:=(X0 (Qm z) al e.item).1;omega)).mono ?_
  rintro _ cx ⟨rfl,u⟩;rw[Qer an,ao];have aw:=Qfb e.item ((Qm (Qhf z e)).filter (thQ e.item e.at_)) bq;refine Gg ?_;intro bt wt m;refine Gg ?_;refine Qc Qb (e:=ty152) rfl m.At rfl rfl rfl (by simp[Qg,itC,Value.oneCell']) fun B n K=>?_
  have n:At B bt 152 (itC (Qu9 e.item ((Qm (Qhf z e)).filter (thQ e.item e.at_)))):=n;have g:Ext cu B:=K.ext (u.trans m.ext) (by rw[m.block];exact u.size);clear K m u;unfold Qq5;generalize Qu9 e.item ((Qm (Qhf z e)).filter (thQ e.item e.at_))=it at n aw⊢;refine Gg ?_;refine⟨.string it.tags,n.one rfl,Gg ?_⟩;refine⟨sz2 (by decide) Om,Gg ?_⟩;refine(Qdg (Qg5 it.tags) B ((bv.ext b).ext g) (by unfold Qg5;rw[Zbd];have:(⟨#[59]⟩:Bj).size=1:=rfl;omega)).mono ?_;rintro _ cy ⟨ah,cv,rfl,av,_,o⟩;refine Gg ?_;exact⟨ah,cv,rfl,av,C.ext (b.trans (g.trans o)),Mod.of_ext (b.trans (g.trans o))⟩
abbrev A11:=Bj×Int×Int
theorem Xlt{e}(a:Xy e=true):peB e=true↔e.kind<11:=by
 have b:=Qtu a;unfold peB thB;simp only[Zk,Zam,decide_eq_false_iff_not];omega
