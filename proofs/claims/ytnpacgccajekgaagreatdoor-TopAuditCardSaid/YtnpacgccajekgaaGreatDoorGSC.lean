import Derived.Test.YtnpacgccajekgaaGreatDoorGSB
set_option linter.all false
namespace Go.Proofs.YtnpacgccajekgaaGreatDoor
open Go.Se Go.RowKit
structure Xd2(w:World)(b5 b6 b7 b9 b11 b12 p pw rb:Nat)(f:Fct)(person item:Bj):Prop where
 w5:At w b5 38 [Pj p]
 p6:At w b6 9 [.string person]
 i7:At w b7 9 [.string item]
 r9:At w b9 141 [Pj rb]
 f11:At w b11 218 (Qrm f)
 c12:At w b12 81 [Pj pw]
 rule:At w rb 206 [Qt3]
theorem Xd2.ext{w w' a b6 b b9 b11 b12 p pw c f person item}(h:Xd2 w a b6 b b9 b11 b12 p pw c f person item)(hx:Ext w w'):Xd2 w' a b6 b b9 b11 b12 p pw c f person item:=
 ⟨h.w5.ext hx,h.p6.ext hx,h.i7.ext hx,h.r9.ext hx,h.f11.ext hx,h.c12.ext hx,h.rule.ext hx⟩
theorem Qfp(l A c)(x:Bj)(w)(b:SlT w A l)(a:l.length<1000000) :
 Cal Tryz.prog 29 [.slice A l.length c,.string x] w fun r w'=>r=.bool (decide (x∈l))/\Ext w w':=
 (Qa3 l A c x w b a).mono fun r w' h=>⟨h.1,by rw[h.2];exact Ext.refl _⟩
section
variable {w:World}{b5 b6 b7 b9 b11 b12 p pw rb:Nat}{f:Fct}{person item:Bj}
theorem Xfm(h:Xd2 w b5 b6 b7 b9 b11 b12 p pw rb f person item):Cal Tryz.prog 120 [Pj b11] w fun r w'=>r=.bool (!f.it.listed)/\Ext w w':=by
 refine Fi Tryz.func120 rfl _ rfl rfl (Hh ?_);refine⟨.bool f.it.listed,h.f11.one rfl,Gg ?_⟩;exact⟨rfl,Ext.refl _⟩
theorem Xfn(h:Xd2 w b5 b6 b7 b9 b11 b12 p pw rb f person item):Cal Tryz.prog 121 [Pj b11] w fun r w'=>r=.bool (decide (f.it.stock=0))/\Ext w w':=by
 refine Fi Tryz.func121 rfl _ rfl rfl (Hh ?_);refine⟨Vj f.it.stock,h.f11.one rfl,Gg ?_⟩;exact⟨rfl,Ext.refl _⟩
theorem Xfo(h:Xd2 w b5 b6 b7 b9 b11 b12 p pw rb f person item):Cal Tryz.prog 122 [Pj b11] w fun r w'=>r=.bool f.done/\Ext w w':=by
 refine Fi Tryz.func122 rfl _ rfl rfl (Hh ?_);refine⟨.bool f.done,h.f11.one rfl,Gg ?_⟩;exact⟨rfl,Ext.refl _⟩
theorem Xfl{S half rs}(h:Xd2 w b5 b6 b7 b9 b11 b12 p pw rb f person item)(a:X7 w S pw half rs)(u:∀r∈rs,Xy r.1=true)(s:rs.length<1000000) :
 Cal Tryz.prog 117 [Pj b12,Pj b6,Pj b7,Pj b11] w fun r w'=>r=.bool (Q7w rs person item||decide (f.it.maker∈Q7x rs person))/\Ext w w':=by
 refine Fi Tryz.func117 rfl _ rfl rfl (Hh ?_);refine Dr .ext [0,1,2,3,4,5,6,8,9,10,7] [11,12,13] (Hh ?_);have hx:Ext w w.drew:=(Ext.refl w).drew;replace h:=h.ext hx;replace a:=a.ext hx;generalize w.drew=z at hx h a⊢;refine⟨Pj pw,h.c12.one0,Hh ?_⟩;refine⟨.string person,h.p6.one0,Hh ?_⟩;refine⟨.string item,h.i7.one0,Hh ?_⟩;refine(Qo0 z S pw half rs a person item).mono ?_;rintro _ g ⟨rfl,e⟩;refine⟨e,Hh ?_⟩;replace h:=h.ext e;replace a:=a.ext e;refine⟨Pj pw,fun _=>h.c12.one0,Hh ?_⟩;refine⟨.string person,fun _=>h.p6.one0,Hh ?_⟩;refine⟨.string f.it.maker,fun _=>h.f11.one rfl,Hh ?_⟩;refine⟨Option Addr×Nat,fun i=>.slice i.1 (Q7x rs person).length i.2,fun i w'=>SlT w' i.1 (Q7x rs person)/\Ext g w',(none,0),fun _=>(Q5x g S pw half rs a u s person).mono fun r w' ⟨A,c,j,b,m⟩=>⟨(A,c),j,b.sl Qv,m⟩,?_⟩;rintro i d k
 have l:Ext g d:=by
  rcases k with⟨_,h⟩|⟨_,h⟩
  .exact h.2
  .rw[h];exact Ext.refl _
 have x:Q7w rs person item=false->SlT d i.1 (Q7x rs person):=fun o=>by
  rcases k with⟨_,h⟩|⟨h,_⟩
  .exact h.1
  .exact(h ⟨o,trivial⟩).elim
 have v:(Q7x rs person).length<1000000:=(by have j:=Q2z 9 (Xk rs).mutes person (hist (evs rs) person);have b:=Qwq rs person;unfold Q7x;omega);refine⟨l,Hh ?_⟩;refine⟨Unit,fun _=>(.bool (decide (f.it.maker∈Q7x rs person))),fun _ w'=>Ext d w',(),fun n=>((Qfp (Q7x rs person) i.1 i.2 f.it.maker d (x n) v)).mono fun r w' h=>⟨(),h.1,h.2⟩,?_⟩;intro _ B b
 have y:Ext d B:=by
  rcases b with⟨_,h⟩|⟨_,h⟩
  .exact h
  .rw[h];exact Ext.refl _
 clear b;refine Hh ?_;exact⟨by cases Q7w rs person item<;>rfl,hx.trans (e.trans (l.trans y))⟩
theorem Xfp{T c z}(h:Xd2 w b5 b6 b7 b9 b11 b12 p pw rb f person item)(i:WT w T p c z):Cal Tryz.prog 123 [Pj b11,Pj b5] w fun r w'=>r=.bool (decide (f.fans<c.crowd)&&decide (c.span<f.age))/\Ext w w':=by
 obtain⟨v,k,a,_⟩:=i;refine Fi Tryz.func123 rfl _ rfl rfl (Hh ?_);refine Dr .ext [0,1,2,3,4,5,6,7,8,9,10,11,12,13,14] [] (Hh ?_);have hx:Ext w w.drew:=(Ext.refl w).drew;replace h:=h.ext hx;replace a:=a.ext hx;generalize w.drew=m at hx h a⊢;refine⟨Vj f.fans,h.f11.one rfl,Hh ?_⟩;refine⟨Pj p,h.w5.one0,Hh ?_⟩;refine(Qbi a).mono ?_;rintro _ g ⟨rfl,b⟩;refine⟨b,Hh ?_⟩;replace h:=h.ext b;replace a:=a.ext b;refine⟨Vj f.age,fun _=>h.f11.one rfl,Hh ?_⟩;refine⟨Pj p,fun _=>h.w5.one0,Hh ?_⟩;refine⟨Unit,fun _=>(Xhe c),fun _ w'=>Ext g w',(),fun l=>((Qbi a)).mono fun r w' h=>⟨(),h.1,h.2⟩,?_⟩;intro _ j d
 have e:Ext g j:=by
  rcases d with⟨_,h⟩|⟨_,h⟩
  .exact h
  .rw[h];exact Ext.refl _
 clear d;refine⟨e,?_⟩;refine Hh ?_;exact⟨rfl,hx.trans (b.trans e)⟩
theorem Q0c(f w):Cal Tryz.prog 488 [.agg #[.string ⟨#[115,116,111,99,107]⟩,.bool false,Vj 0],.agg (Qrm f).toArray] w fun r w'=>r=.bool (decide (0<f.it.stock))/\Ext w w':=by
 refine Fi Tryz.func488 rfl _ rfl rfl (Hh ?_);intro e i d;have a:At i e 501 [.string ⟨#[115,116,111,99,107]⟩,.bool false,Vj 0]:=d.At;refine Gg ?_;intro g j c;have h:At j g 218 (Qrm f):=c.At;replace a:=a.ext c.ext;have hx:=d.ext.trans c.ext;clear d c;refine Gg ?_;refine⟨.string ⟨#[115,116,111,99,107]⟩,a.one rfl,Gg ?_⟩;constructor
 .intro b;exact absurd b (by decide)
 intro _;refine Gg ?_;constructor
 .intro _;refine Gg ?_;refine⟨Vj f.it.stock,h.one rfl,Gg ?_⟩;refine⟨.bool false,a.one rfl,Gg ?_⟩;constructor
  .intro b;exact absurd b (by decide)
  intro _;refine Gg ?_;refine⟨Vj 0,a.one rfl,Gg ?_⟩;exact⟨rfl,hx⟩
 intro b;exact absurd b (by decide)
theorem Q5b{w rb}(h:At w rb 206 [Qt3])(f):Cal Tryz.prog 125 [Pj rb,.agg (Qrm f).toArray] w fun r w'=>r=.bool (decide (0<f.it.stock))/\Ext w w':=by
 refine Fi Tryz.func125 rfl _ rfl rfl (Hh ?_);intro e c b;have a:At c e 218 (Qrm f):=b.At;replace h:=h.ext b.ext;have hx:=b.ext;clear b;refine Hh ?_;refine Dr .same [0,1,2,3,4,5,6,7,8,9,10,11,12,13,14] [15,16,17] (Hh ?_);replace a:At c.drew e _ _:=a;replace h:At c.drew rb _ _:=h;replace hx:=hx.drew;generalize c.drew=d at a h hx⊢;refine⟨_,Qa4 Kr (some ⟨rb,0,none⟩) _ _,Hh ?_⟩;refine⟨Qt3,fun _=>h.one rfl,Hh ?_⟩;refine⟨false,fun _ w'=>⟨by kernel_rfl,by kernel_rfl⟩,Hh ?_⟩;refine⟨Qt3,fun _=>h.one rfl,Hh ?_⟩;refine⟨Qrm f,fun _=>⟨rfl,a.all⟩,Hh ?_⟩;refine⟨Unit,fun _=>.bool (decide (0<f.it.stock)),fun _ w'=>Ext d w',(),fun _=>⟨488,[.agg #[.string ⟨#[115,116,111,99,107]⟩,.bool false,Vj 0],.agg (Qrm f).toArray],by kernel_rfl,(Q0c f d).mono fun r w' h=>⟨(),h.1,h.2⟩⟩,?_⟩;intro _ w5 g
 have i:Ext d w5:=by
  rcases g with⟨_,h⟩|⟨_,h⟩
  .exact h
  .rw[h];exact Ext.refl _
 refine Hh ?_;exact⟨rfl,hx.trans i⟩
theorem Xfq(h:Xd2 w b5 b6 b7 b9 b11 b12 p pw rb f person item):Cal Tryz.prog 124 [Pj b9,Pj b11] w fun r w'=>r=.bool (!decide (0<f.it.stock))/\Ext w w':=by
 refine Fi Tryz.func124 rfl _ rfl rfl (Hh ?_);refine⟨Pj rb,h.r9.one0,Gg ?_⟩;refine⟨Qrm f,⟨rfl,h.f11.all⟩,Gg ?_⟩;refine(Q5b h.rule f).mono ?_;rintro _ b ⟨rfl,a⟩;refine Gg ?_;exact⟨rfl,a⟩
end
def arF(b5 b6 b7 b9 b11 b12:Nat):Array Value:= #[.func (.func 120) #[] #[Pj b11],.func (.func 121) #[] #[Pj b11],.func (.func 117) #[] #[Pj b12,Pj b6,Pj b7,Pj b11],.func (.func 122) #[] #[Pj b11],.func (.func 123) #[] #[Pj b11,Pj b5],.func (.func 124) #[] #[Pj b9,Pj b11]]
theorem Xkp{c z person item now k}(i:k<6)(h:(Qvd c z person item now)[k]?=some true)(f:∀j<k,(Qvd c z person item now)[j]?=some false):Q3y c z person item now=k+1:=by
 unfold Q3y;have:(Qvd c z person item now).findIdx? (· == true)=some k:=(by rw[Z9];obtain⟨a,b⟩:=Zi.1 h;refine⟨a,by simp[b],fun j e=>?_⟩;obtain⟨g,d⟩:=Zi.1 (f j e);simp[d]);rw[this]
theorem Xg5{c z person item now}(b:∀j<6,(Qvd c z person item now)[j]?=some false):Q3y c z person item now=0:=by
 unfold Q3y;have:(Qvd c z person item now).findIdx? (· == true)=none:=(by rw[Zav];intro x hx;obtain⟨d,f,rfl⟩:=Za2 hx;have g:(Qvd c z person item now).length=6:=rfl;obtain⟨e,a⟩:=Zi.1 (b d Om);simp[a]);rw[this]
set_option maxHeartbeats 8000000 in
theorem Xe5{w T p rb c z}(V:WT w T p c z)(P:Qqm c z)(R:At w rb 206 [Qt3])(person item:Bj)(now) :
 Cal Tryz.prog 62 [Pj p,.string person,.string item,Vj now,Pj rb] w fun r w'=>r=Vj (Q3y c z person item now:Nat)/\Ext w w':=by
 obtain⟨v,a8,U,_⟩:=id V;have bd:=P.len;have ai:=Qet c.width z U.rise U.may;have bb:=Qxm c.width z;have az:∀r∈(Qi c.width z).rs,Xy r.1=true:=fun r R=>(ai r R).1
 clear ai;refine Fi Tryz.func62 rfl _ rfl rfl (Hh ?_);intro b5 a3 Z;have n:At a3 b5 38 [Pj p]:=Z.At;refine Gg ?_;intro b6 a4 M;have o:At a4 b6 9 [.string person]:=M.At;refine Gg ?_;intro b7 a5 D;have s:At a5 b7 9 [.string item]:=D.At;refine Gg ?_;intro b9 ao B;have K:At ao b9 141 [Pj rb]:=B.At;replace s:=s.ext B.ext;replace o:=(o.ext D.ext).ext B.ext;replace n:=((n.ext M.ext).ext D.ext).ext B.ext;have aa:=((Z.ext.trans M.ext).trans D.ext).trans B.ext;clear Z M D B;refine Gg ?_;refine⟨Pj p,n.one0,Gg ?_⟩;refine⟨.string person,o.one0,Gg ?_⟩;refine⟨.string item,s.one0,Gg ?_⟩;have au:=(Qmt (p:=p) P).ext V aa;refine(Q45 au P person item now).mono ?_;rintro _ w5 ⟨rfl,ak⟩;have u:Qvd c z person item now=[!(Qho c z person item now).it.listed,decide ((Qho c z person item now).it.stock=0),Q7w (Qi c.width z).rs person item||decide ((Qho c z person item now).it.maker∈Q7x (Qi c.width z).rs person),(Qho c z person item now).done,decide ((Qho c z person item now).fans<c.crowd)&&decide (c.span<(Qho c z person item now).age),!decide (0<(Qho c z person item now).it.stock)]:=rfl;generalize Qho c z person item now=f at u⊢;refine Gg ?_;intro b11 bh N;refine Gg ?_;refine Qc Qb (e:=ty218) rfl N.At rfl rfl rfl (Qtb f) fun aq H ah=>?_
 have H:At aq b11 218 (Qrm f):=H;have C:Ext ao aq:=ak.trans (ah.ext N.ext (by rw[N.block];exact Zf _));replace n:=n.ext C;replace o:=o.ext C;replace s:=s.ext C;replace K:=K.ext C;have ab:=aa.trans C;clear ah N ak C aa;refine Gg ?_;refine⟨Pj p,n.one0,Gg ?_⟩;refine(Qad (U.ext ab)).mono ?_;rintro _ a7 ⟨pw,S,rfl,ae,al⟩;refine Gg ?_;intro b12 bi O;refine Gg ?_;refine Qc Qb (e:=ty81) rfl O.At rfl rfl rfl Oj fun E I af=>?_
 have I:At E b12 81 [Pj pw]:=I;have ac:Ext a7 E:=af.ext O.ext (by rw[O.block];exact Zf _);have x:=al.trans ac;have m:=ab.trans x;have y:Xd2 E b5 b6 b7 b9 b11 b12 p pw rb f person item:=⟨n.ext x,o.ext x,s.ext x,K.ext x,H.ext x,I,R.ext m⟩;have av:=ae.ext ac;clear af O al ac x n o s K H I ae ab R;refine Gg ?_;intro ar be L;refine Gg ?_;refine Qc Qb (e:=ty222) rfl L.At rfl rfl rfl Oj fun an J ag=>?_
 have J:At an ar 222 (arF b5 b6 b7 b9 b11 b12).toList:=J;have aj:Ext E an:=ag.ext L.ext (by rw[L.block];exact Zf _);clear ag L;refine Gg ?_;refine⟨(arF b5 b6 b7 b9 b11 b12).toList,⟨rfl,J.all⟩,Gg ?_⟩;refine Qh Qb (fun(k:Nat) w'=>k<=6/\(∀j<k,(Qvd c z person item now)[j]?=some false)/\Ext E w') (fun k=>[(32,.agg (arF b5 b6 b7 b9 b11 b12)),(33,Vj (k:Nat))]) (fun k=>6-k) 0 ⟨Zt _,fun j ay=>Om,aj⟩ Rr ?_;clear J aj;rintro k bg ⟨a9,Y,g⟩;refine Gg ?_;constructor
 .intro l;have l:k<6:=(by have:(k:Int)<6:=Su l;omega)
  have hstep:∀b:Bool,(Qvd c z person item now)[k]?=some b->b=false->∀j<k+1,(Qvd c z person item now)[j]?=some false:=fun b a ax j ay=>by
   by_cases e:j=k
   .subst e;rw[a,ax]
   .exact Y j Om
  have A:∀b:Bool,(Qvd c z person item now)[k]?=some b->b=true->Q3y c z person item now=k+1:=fun b a a0=>Xkp l (by rw[a,a0]) Y
  have aw:k=0\/k=1\/k=2\/k=3\/k=4\/k=5:=Om;rcases aw with rfl|rfl|rfl|rfl|rfl|rfl
  .refine Gg ?_;refine⟨_,Qca Tryz.underlying222 Tryz.isAgg35 Tryz.sizeOf35 l rfl,Gg ?_⟩;refine(Xfm (y.ext g)).mono ?_;rintro _ F ⟨rfl,h⟩;refine Gg ?_;have d:(Qvd c z person item now)[0]?=some (!f.it.listed):=by rw[u];rfl
   generalize (!f.it.listed)=b at d⊢;constructor
   .intro a;have i:=A b d a;refine Gg ?_;refine⟨1,wrap_eq rfl ⟨Om,Om⟩,Gg ?_⟩;exact⟨by rw[i];rfl,m.trans (g.trans h)⟩
   .intro a;refine Gg ?_;refine⟨((1:Nat):Int),wrap_succ Om,Gg ?_⟩;exact⟨1,Om,⟨Om,hstep b d a,g.trans h⟩,Rr⟩
  .refine Gg ?_;refine⟨_,Qca Tryz.underlying222 Tryz.isAgg35 Tryz.sizeOf35 l rfl,Gg ?_⟩;refine(Xfn (y.ext g)).mono ?_;rintro _ F ⟨rfl,h⟩;refine Gg ?_;have d:(Qvd c z person item now)[1]?=some (decide (f.it.stock=0)):=by rw[u];rfl
   generalize (decide (f.it.stock=0))=b at d⊢;constructor
   .intro a;have i:=A b d a;refine Gg ?_;refine⟨2,wrap_eq rfl ⟨Om,Om⟩,Gg ?_⟩;exact⟨by rw[i];rfl,m.trans (g.trans h)⟩
   .intro a;refine Gg ?_;refine⟨((2:Nat):Int),wrap_succ Om,Gg ?_⟩;exact⟨2,Om,⟨Om,hstep b d a,g.trans h⟩,Rr⟩
  .refine Gg ?_;refine⟨_,Qca Tryz.underlying222 Tryz.isAgg35 Tryz.sizeOf35 l rfl,Gg ?_⟩;refine(Xfl (y.ext g) (av.ext g) az Om).mono ?_;rintro _ F ⟨rfl,h⟩;refine Gg ?_;have d:(Qvd c z person item now)[2]?=some (Q7w (Qi c.width z).rs person item||decide (f.it.maker∈Q7x (Qi c.width z).rs person)):=by rw[u];rfl
   generalize (Q7w (Qi c.width z).rs person item||decide (f.it.maker∈Q7x (Qi c.width z).rs person))=b at d⊢;constructor
   .intro a;have i:=A b d a;refine Gg ?_;refine⟨3,wrap_eq rfl ⟨Om,Om⟩,Gg ?_⟩;exact⟨by rw[i];rfl,m.trans (g.trans h)⟩
   .intro a;refine Gg ?_;refine⟨((3:Nat):Int),wrap_succ Om,Gg ?_⟩;exact⟨3,Om,⟨Om,hstep b d a,g.trans h⟩,Rr⟩
  .refine Gg ?_;refine⟨_,Qca Tryz.underlying222 Tryz.isAgg35 Tryz.sizeOf35 l rfl,Gg ?_⟩;refine(Xfo (y.ext g)).mono ?_;rintro _ F ⟨rfl,h⟩;refine Gg ?_;have d:(Qvd c z person item now)[3]?=some (f.done):=by rw[u];rfl
   generalize (f.done)=b at d⊢;constructor
   .intro a;have i:=A b d a;refine Gg ?_;refine⟨4,wrap_eq rfl ⟨Om,Om⟩,Gg ?_⟩;exact⟨by rw[i];rfl,m.trans (g.trans h)⟩
   .intro a;refine Gg ?_;refine⟨((4:Nat):Int),wrap_succ Om,Gg ?_⟩;exact⟨4,Om,⟨Om,hstep b d a,g.trans h⟩,Rr⟩
  .refine Gg ?_;refine⟨_,Qca Tryz.underlying222 Tryz.isAgg35 Tryz.sizeOf35 l rfl,Gg ?_⟩;refine(Xfp (y.ext g) ((Qmt (p:=p) P).ext V (m.trans g))).mono ?_;rintro _ F ⟨rfl,h⟩;refine Gg ?_;have d:(Qvd c z person item now)[4]?=some (decide (f.fans<c.crowd)&&decide (c.span<f.age)):=by rw[u];rfl
   generalize (decide (f.fans<c.crowd)&&decide (c.span<f.age))=b at d⊢;constructor
   .intro a;have i:=A b d a;refine Gg ?_;refine⟨5,wrap_eq rfl ⟨Om,Om⟩,Gg ?_⟩;exact⟨by rw[i];rfl,m.trans (g.trans h)⟩
   .intro a;refine Gg ?_;refine⟨((5:Nat):Int),wrap_succ Om,Gg ?_⟩;exact⟨5,Om,⟨Om,hstep b d a,g.trans h⟩,Rr⟩
  .refine Gg ?_;refine⟨_,Qca Tryz.underlying222 Tryz.isAgg35 Tryz.sizeOf35 l rfl,Gg ?_⟩;refine(Xfq (y.ext g)).mono ?_;rintro _ F ⟨rfl,h⟩;refine Gg ?_;have d:(Qvd c z person item now)[5]?=some (!decide (0<f.it.stock)):=by rw[u];rfl
   generalize (!decide (0<f.it.stock))=b at d⊢;constructor
   .intro a;have i:=A b d a;refine Gg ?_;refine⟨6,wrap_eq rfl ⟨Om,Om⟩,Gg ?_⟩;exact⟨by rw[i];rfl,m.trans (g.trans h)⟩
   .intro a;refine Gg ?_;refine⟨((6:Nat):Int),wrap_succ Om,Gg ?_⟩;exact⟨6,Om,⟨Om,hstep b d a,g.trans h⟩,Rr⟩
 intro W;have W:k=6:=(by have:¬(k:Int)<6:=Su W;omega);subst W;have i:=Xg5 Y;refine Gg ?_;exact⟨by rw[i];rfl,m.trans g⟩
section
variable {c:Cfg}{every seed:Int}{b:Nat}{w:World}
theorem Q1b(h:At w b 32 (Qas c (Qbp 6) every seed)):Xq w ⟨b,0,none⟩ (Qrg c):=At.sub (pre:= []) (post:=(Qas c (Qbp 6) every seed).drop 6) h
theorem Xc2(h:At w b 32 (Qas c (Qbp 6) every seed)):Xq w ((⟨b,0,none⟩:Addr).add 6) (wsC (Qbp 6)):=At.sub (pre:=(Qas c (Qbp 6) every seed).take 6) (post:=(Qas c (Qbp 6) every seed).drop 12) h
theorem Xgi(h:At w b 32 (Qas c (Qbp 6) every seed)):Xq w ((⟨b,0,none⟩:Addr).add 12) [Vj 4,Vj 2,Vj 3]:=At.sub (pre:=(Qas c (Qbp 6) every seed).take 12) (post:=(Qas c (Qbp 6) every seed).drop 15) h
end
def Xir(c:Cfg)(z:List Ev)(a:Nat->Int)(person:Bj)(now:Int)(l:List Bj):List Ch:=(l.filter fun x=>decide (Q3y c z person x now=0)).map (chF c z a person now)
theorem Xen(c z a person now)(l:List Bj)(k)(h:k<l.length):Xir c z a person now (l.take (k+1))=Xir c z a person now (l.take k)++if Q3y c z person l[k] now=0 then [chF c z a person now l[k]] else []:=by
 unfold Xir;rw[Za h,Zq,Zp];congr 1
 by_cases b:Q3y c z person l[k] now=0
 .rw[if_pos b];simp[b]
 .rw[if_neg b];simp[b]
theorem Xis(c z a person now l):(Xir c z a person now l).length<=l.length:=by
 unfold Xir;rw[Zg];exact Zc _ _
set_option maxHeartbeats 8000000 in
theorem Qvx{w T p c z}(a9:WT w T p c z)(W:Qqm c z)(be:Gl w)(a8:∀k,T k->10<=k)(every seed)(person:Bj)(now) :
 Cal Tryz.prog 27 [Pj p,.agg (Qas c (Qbp 6) every seed).toArray,.string person,Vj now] w fun r w'=>∃A cp m,r=.slice A (Q7s c z (Qbp 6) person now 5).length cp/\Own chC 4 98 w.heap.size w' A cp (Q7s c z (Qbp 6) person now 5)/\(∀x,A=some x->¬m x.block)/\WT w' m p c z/\(∀k,m k->T k\/w.heap.size<=k)/\Mod T w w':=by
 have ax:=a9.lt;have d6:=be.size;have R:=Qmt (p:=p) W;obtain⟨v0,du,b5,_⟩:=id a9;have ch:=b5.may;refine Fi Tryz.func27 rfl _ rfl rfl (Hh ?_);intro F cq ai;have K:At cq F 32 (Qas c (Qbp 6) every seed):=ai.At;have Y:=ai.ext;have dx:=ai.block;have d9:=ai.size;clear ai;refine Gg ?_;refine⟨_,K.one rfl,Gg ?_⟩;refine(Qps cq (be.ext Y)).mono ?_;rintro _ ec ⟨⟨rb,rfl,bm,d5⟩,bo⟩;replace K:=K.ext bo;replace Y:=Y.trans bo;have eg:=Y.size;have di:=K.lt;have dk:=bm.lt;clear bo;refine Gg ?_;refine⟨_,K.one rfl,Gg ?_⟩;have b8:=R.ext a9 Y;refine(Q9g R b8 W (Q7n c z ch W.len).len person now 5 (by decide)).mono ?_;rintro _ o ⟨A,cp,H,m,rfl,ar,bb,aw,ag⟩;have bj:=ar.keys;have c9:=Qnk (c:=c) ch person now 5;have dz:H.length=(Qit c z person now 5).length:=by rw[<- bj,Zg]
 have d7:=W.len;have dh:=ar.sl;have dc:=ar.new
 have c8:¬m F:=fun h=>by
  rcases aw _ h with q|q
  .have:=ax _ q;omega
  .omega
 have de:¬m rb:=fun h=>by
  rcases aw _ h with q|q
  .have:=ax _ q;omega
  .omega
 have bu:At o F _ _:=(ag.block F di (fun h=>by have:=ax _ h;omega)).trans K;have cm:At o rb _ _:=(ag.block rb dk (fun h=>by have:=ax _ h;omega)).trans bm;have b3:Mod T w o:=(Mod.of_ext Y).trans ag;have av:∀k,m k->T k\/w.heap.size<=k:=fun k bi=>(aw k bi).imp id fun h=>Om
 have eh:=ag.size;have ca:Q7s c z (Qbp 6) person now 5=Xir c z (Qbp 6) person now (H.map (·.1)):=by rw[bj];rfl
 rw[ca];have d0:H.length<1000:=Om;clear ar bj K bm ag aw ca c9 b5 b8;refine Gg ?_
 refine Qh Qb (fun(q:Nat×(Option Addr×Nat×List Ch)×(Nat->Prop)) w'=>q.1<=H.length/\q.2.1.2.2=Xir c z (Qbp 6) person now ((H.map (·.1)).take q.1)/\WT w' q.2.2 p c z/\(∀i,q.2.2 i->m i\/o.heap.size<=i)/\Own chC 4 98 o.heap.size w' q.2.1.1 q.2.1.2.1 q.2.1.2.2/\(∀a,q.2.1.1=some a->¬q.2.2 a.block)/\Mod m o w')
  (fun|(k,(B,d,L),_)=>[(0,Pj p),(2,.string person),(3,Vj now),(5,Pj F),(9,Pj rb),(12,.slice B L.length d),(31,.slice A H.length cp),(32,Vj H.length),(33,Vj (k:Nat))]) (fun q=>H.length-q.1) (0,(none,0,[]),m) ⟨Zt _,rfl,bb,fun i g=>.inl g,Own.nil,(fun a bd=>by cases bd),Mod.refl _ _⟩ Rr ?_
 have d3:=bb.lt;have dj:=bu.lt;have dm:=cm.lt;clear bb;rintro ⟨k,⟨B,d,L⟩,br⟩ al ⟨bi,af,ah,U,bk,ae,M⟩;simp only at bi af ah U bk ae;have ei:=M.size;have d2:L.length<=k:=(by rw[af];refine Zw (Xis _ _ _ _ _ _) ?_;rw[Zn];omega);refine Gg ?_;constructor
 .intro az;have az:k<H.length:=Su az;have df:Sl cdC 2 al A H:=Xjw.stay dh fun a bd db=>M.block _ db (dc a bd).2
  obtain⟨a,rfl,b9⟩:=df.get az;have hstep:=Xen c z (Qbp 6) person now (H.map (·.1)) k (by rw[Zg];exact az);rw[<- af,List.getElem_map]at hstep;generalize H[k]=y at b9 hstep;obtain⟨x,cx⟩:=y;simp only at hstep;have bv:At al F _ _:=(M.block F dj c8).trans bu;have cn:At al rb _ _:=(M.block rb dm de).trans cm
  have cb:Gl al:=(be.mod b3 a8).mod M fun i g=>by
   rcases av i g with q|q
   .exact a8 i q
   .omega
  refine Gg ?_;refine⟨a,Ix,Gg ?_⟩;refine⟨cdC (x,cx),⟨rfl,b9⟩,Gg ?_⟩;intro ab w5 aj;refine Gg ?_;refine Qc Qb (e:=ty148) rfl aj.At rfl rfl rfl (by simp[Qg,cdC,Value.oneCell']) fun cu ac cj=>?_
  have ac:At cu ab 148 (cdC (x,cx)):=ac;have a3:Ext al cu:=cj.ext aj.ext (by rw[aj.block];exact Zf _);have dy:=aj.block;clear cj aj;refine Gg ?_;refine⟨.string x,ac.one rfl,Gg ?_⟩;refine(Xe5 (R.ext ah a3) W (cn.ext a3) person x now).mono ?_;rintro _ s ⟨rfl,bp⟩;have Z:=a3.trans bp;have ao:=ac.ext bp;have bx:=bv.ext Z;have ay:=R.ext ah Z;have bl:=bk.ext Z;have cc:=cb.ext Z;have a7:Mod m o s:=M.trans (Mod.of_ext Z);have ej:=Z.size;have cg:=ah.lt;clear a3 bp ac bv cn cb;refine Gg ?_;constructor
  .intro n;have n:¬Q3y c z person x now=0:=(by have:¬((Q3y c z person x now:Nat):Int)=0:=Su n;omega);rw[if_neg n,Z4]at hstep;refine Gg ?_;refine⟨_,wrap_succ Om,Gg ?_⟩;exact⟨(k+1,(B,d,L),br),Sj,⟨Sj,hstep.symm,ay,U,bl,ae,a7⟩,Rr⟩
  intro n;have n:Q3y c z person x now=0:=(by have:((Q3y c z person x now:Nat):Int)=0:=Su n;omega);rw[if_pos n]at hstep;refine Gg ?_;have au:∃v bs,WQ s bs p c z v:=R.wq ay;obtain⟨ea,bs,au⟩:=au;refine Ql1 (ι:=Nat) (fun f=>[(0,Pj p),(2,.string person),(3,Vj now),(5,Pj F),(9,Pj rb),(12,.slice B L.length d),(14,Pj ab),(15,Pj f),(31,.slice (some a) H.length cp),(32,Vj H.length),(33,Vj (k:Nat))]) (fun f w'=>Ext s w'/\At w' f 152 (itC (Qdd z x now))/\s.heap.size<=f) ?_ ?_
  .refine Qhl (.mods (fun k=>s.heap.size<=k)) (Pl.seq [0,2,3,4] (Pl.two 1 (Pl.seq [] (Pl.two 5 (Pl.seq [6,7,8,9,10,11] Pl.done) 9 (Pl.seq [5,6,7,8,10,11] Pl.done))) 9 (Pl.seq [1,5,6,7,8,10,11] Pl.done))) (by intro h;cases h) Qb mixed Kr (Hh ?_);have d8:=ao.lt;have D:Ext s s.drew:=(Ext.refl s).drew;have b1:=ao.ext D;have S:=au.ext D;generalize s.drew=ed at D b1 S⊢;refine⟨.string x,⟨b1.one rfl,by rw[add_block];show ¬(s.heap.size<=ab);omega⟩,Hh ?_⟩;refine⟨?_,?_⟩
   .refine(Xo (S)).mono ?_;rintro _ dq ⟨pc,c0,rfl,V,E⟩;refine⟨Mod.of_ext E,Hh ?_⟩;refine⟨?_,?_⟩
    .refine(Xa _ _ pc _ V x now S.rows).mono ?_;rintro _ cv ⟨rfl,u⟩;refine⟨Mod.of_ext u,Hh ?_⟩;intro f cw j;have bt:=j.block;refine⟨Mod.of_ext j.ext,Hh ?_⟩;refine Qc Qb (e:=ty152) rfl (j.At) rfl rfl rfl (by simp[Qg,itC,Value.oneCell']) fun an C I=>?_
     have C:At an f 152 (itC (Qdd z x now)):=C;have cy:=D.size;have dr:=E.size;have el:=u.size;refine⟨Qj I (by show s.heap.size<=f;omega),Hh ?_⟩;exact⟨f,⟨I.ext ((D.trans E).trans (u.trans j.ext)) Om,C,Om⟩,Rr⟩
    .intro f cw j;have bt:=j.block;refine⟨Mod.of_ext j.ext,Hh ?_⟩;replace V:=V.ext j.ext;refine(Xa _ _ pc _ V x now S.rows).mono ?_;rintro _ cv ⟨rfl,u⟩;refine⟨Mod.of_ext u,Hh ?_⟩;refine Qc Qb (e:=ty152) rfl (j.At.ext u) rfl rfl rfl (by simp[Qg,itC,Value.oneCell']) fun an C I=>?_
     have C:At an f 152 (itC (Qdd z x now)):=C;have cy:=D.size;have dr:=E.size;refine⟨Qj I (by show s.heap.size<=f;omega),Hh ?_⟩;exact⟨f,⟨I.ext ((D.trans E).trans (j.ext.trans u)) Om,C,Om⟩,Rr⟩
   .intro f cw j;have bt:=j.block;refine⟨Mod.of_ext j.ext,Hh ?_⟩;refine(Xo (S.ext j.ext)).mono ?_;rintro _ dq ⟨pc,c0,rfl,V,E⟩;refine⟨Mod.of_ext E,Hh ?_⟩;refine(Xa _ _ pc _ V x now S.rows).mono ?_;rintro _ cv ⟨rfl,u⟩;refine⟨Mod.of_ext u,Hh ?_⟩;refine Qc Qb (e:=ty152) rfl ((j.At.ext E).ext u) rfl rfl rfl (by simp[Qg,itC,Value.oneCell']) fun an C I=>?_
    have C:At an f 152 (itC (Qdd z x now)):=C;have cy:=D.size;refine⟨Qj I (by show s.heap.size<=f;omega),Hh ?_⟩;exact⟨f,⟨I.ext (D.trans ((j.ext.trans E).trans u)) Om,C,Om⟩,Rr⟩
  rintro f dp ⟨J,a4,d4⟩;have aq:=ao.ext J;have bz:=bx.ext J;have c7:=R.ext ay J;have a0:=bl.ext J;have da:=cc.ext J;have b4:Mod m o dp:=a7.trans (Mod.of_ext J);have ek:=J.size;clear ao bx ay bl cc a7 J au;refine Gg ?_;refine⟨wsC (Qbp 6),⟨rfl,Xc2 bz⟩,Gg ?_⟩;refine⟨.string x,aq.one rfl,Gg ?_⟩
  refine(Qxs c7 W da (fun i g=>by
   rcases U i g with q|q
   .rcases av i q with q|q
    .exact a8 i q
    .omega
   .omega) (Qbp 6) person x now).mono ?_
  rintro _ ak ⟨dt,dw,aa,rfl,_,b7,b6,_,P⟩;have ee:=P.size;have c1:At ak ab _ _:=(P.block ab aq.lt (fun h=>by have:=cg _ h;omega)).trans aq;have bw:At ak f _ _:=(P.block f a4.lt (fun h=>by have:=cg _ h;omega)).trans a4;have ck:Own chC 4 98 o.heap.size ak B d L:=a0.keep fun b N=>P.block _ (a0.block N).2 (ae b N)
  have c3:Mod m o ak:=Qn b4 (P.mono fun i _ g=>(U i g).elim .inl .inr)
  have c5:∀i,aa i->m i\/o.heap.size<=i:=fun i g=>by
   rcases b6 i g with q|q
   .exact U i q
   .exact .inr Om
  have a5:∀b,B=some b->¬aa b.block:=fun b N h=>by
   rcases b6 _ h with q|q
   .exact ae b N q
   .have:=(a0.block N).2;omega
  clear P aq a4 a0 b4 bz;refine Gg ?_;refine⟨.string x,c1.one rfl,Gg ?_⟩;refine⟨.string (Qdd z x now).maker,bw.one rfl,Gg ?_⟩;refine⟨.string (Qdd z x now).tags,bw.one rfl,Gg ?_⟩;intro dv eb O;refine Gg ?_;have ef:=O.ext.size;refine Qq Qpy (l:=L) (news:= [chF c z (Qbp 6) person now x]) rfl (ck.ext O.ext) rfl (Qpy.new1 (x:=chF c z (Qbp 6) person now x) O) (by simp;omega) Om fun bq c12 cr cl bg b2=>?_
  have dd:∀i,B.map (·.block)=some i->o.heap.size<=i:=Xm ck;have cf:=b7.lt
  have cd:∀i,aa i->cr.heap[i]?=ak.heap[i]? := fun i g=>by
   have:=cf i g;rw[bg.block i Om fun e=>?_]
   .exact O.ext.block i Om
   .cases n:B with
    |none=>rw[n]at e;simp at e
    |some b=>rw[n]at e;simp at e;exact a5 b n (e▸g)
  have c6:=b7.keep cd
  have c2:∀b,bq=some b->¬aa b.block:=fun b N h=>by
   subst N;rcases b2 with q|q|q
   .exact a5 b q.symm h
   .cases n:B with
    |none=>rw[n]at q;simp at q
    |some b0=>rw[n]at q;simp at q;rw[q]at h;exact a5 b0 n h
   .simp at q;have:=cf _ h;have:=O.size;omega
  have c4:Mod m o cr:=Qn (c3.trans (Mod.of_ext O.ext)) (Xn bg fun i g=>.inr (dd i g));generalize d1:L++[chF c z (Qbp 6) person now x]=cz at cl hstep⊢;clear bg b2 O cd;refine Gg ?_;refine⟨_,wrap_succ Om,Gg ?_⟩;exact⟨(k+1,(bq,c12,cz),aa),Sj,⟨Sj,hstep.symm,c6,c5,cl,c2,c4⟩,Rr⟩
 intro bh;have bh:k=H.length:=(by have:H.length<=k:=Su bh;omega);subst bh;rw[Zd (by rw[Zg];exact Zf _)]at af;refine Gg ?_;rw[<- af];refine⟨B,d,br,rfl,bk.base Om,ae,ah,fun i g=>?_,Qn b3 (M.mono fun i _ g=>(av i g).elim .inl .inr)⟩;rcases U i g with q|q
 .exact av i q
 .exact .inr Om
def Xmu:Caps:=⟨4,2,3⟩
def Qmc(c:Cfg)(z:List Ev)(person:Bj)(now:Int):List Bj:=(Qkx Xmu (Q7s c z (Qbp 6) person now 5)).map (·.item)
def Xbe(c:Cfg)(z:List Ev)(person:Bj)(now:Int):List Bj:=((Q7s c z (Qbp 6) person now 5).map (·.item)).filter fun x=>decide (x∉Qmc c z person now)
def Qyp(c:Cfg)(z:List Ev)(every seed:Int)(person:Bj)(now:Int):List Bj:=
 if 0<every then Xjk (hash seed [person,Qd4 now.toNat]) (Qmc c z person now) (Xbe c z person now) every else Qmc c z person now
structure RE where
 (item:Bj) (A1:Option Addr) (c1:Nat) (tot:Int) (A2:Option Addr) (n2 c2:Nat) (fans:Int)
def reC(r:RE):List Value:=rsC r.item r.A1 6 r.c1 r.tot r.A2 r.n2 r.c2 r.fans
theorem Xju(r):(reC r).length=5:=rfl
theorem Xjv(r):∀u∈reC r,u.oneCell'=true:=by
 intro u a;simp only[reC,rsC,Zr,Zcl,or_false]at a;rcases a with rfl|rfl|rfl|rfl|rfl<;>rfl
theorem Xl3:Qle Tryz.prog 47 105 reC 5 80:=⟨by kernel_rfl,⟨_,ty105_ok,rfl,rfl⟩,by kernel_rfl,by decide,by decide,Xju,Xjv⟩
def boE(b:Bool):List Value:= [.bool b]
theorem Xik(b):(boE b).length=1:=rfl
theorem Xil(b):∀u∈boE b,u.oneCell'=true:=by
 intro u a;obtain rfl:u=.bool b:=by simpa [boE] using a
 rfl
theorem Xl0:Qle Tryz.prog 48 4 boE 1 1:=⟨by kernel_rfl,⟨_,ty4_ok,rfl,rfl⟩,by kernel_rfl,by decide,by decide,Xik,Xil⟩
structure Xkt(c:Cfg)(z:List Ev)(person:Bj)(now:Int)(lo:Nat)(w:World)(N:Nat->Prop)(item:Bj)(r:RE):Prop where
 itm:r.item=item
 tot:r.tot=Qqq (Qvc (Xbu c z person item now) (Qbp 6) 6)
 fans:r.fans=Q9d c z item
 len:r.n2=(Xd5 c z person item now).length
 pts:Sl ptC 3 w r.A1 (Qvc (Xbu c z person item now) (Qbp 6) 6)
 evs:Sl evC 8 w r.A2 (Xd5 c z person item now)
 blk:∀a,r.A1=some a\/r.A2=some a->lo<=a.block/\a.block<w.heap.size/\¬N a.block
theorem Xkt.keep{c z person item now lo w w' N N' r}(h:Xkt c z person now lo w N item r)(l:w.heap.size<=w'.heap.size)(g:∀k,lo<=k->k<w.heap.size->¬N k->w'.heap[k]?=w.heap[k]?)(i:∀k,lo<=k->k<w.heap.size->¬N k->¬N' k):Xkt c z person now lo w' N' item r where
 itm:=h.itm
 tot:=h.tot
 fans:=h.fans
 len:=h.len
 pts:=Xgb.stay h.pts fun a d j=>by
  obtain⟨b,e,f⟩:=h.blk a (.inl d);exact g _ b e f
 evs:=Qq2.stay h.evs fun a d j=>by
  obtain⟨b,e,f⟩:=h.blk a (.inr d);exact g _ b e f
 blk:=fun a d=>by
  obtain⟨b,e,f⟩:=h.blk a d;exact⟨b,Om,i _ b e f⟩
def AvN(A B:Option Addr)(T:Nat->Prop)(k:Nat):Prop:=T k\/A.map (·.block)=some k\/B.map (·.block)=some k
def RsL(c:Cfg)(z:List Ev)(person:Bj)(now:Int)(lo:Nat)(w:World)(N:Nat->Prop)(d:List Bj)(X:List RE):Prop:=∀(a:Nat) (b:RE),X[a]?=some b->∃x,d[a]?=some x/\Xkt c z person now lo w N x b
theorem RsL.keep{c z person now lo w w' N N' a X}(h:RsL c z person now lo w N a X)(g:w.heap.size<=w'.heap.size)(e:∀k,lo<=k->k<w.heap.size->¬N k->w'.heap[k]?=w.heap[k]?)(b:∀k,lo<=k->k<w.heap.size->¬N k->¬N' k):RsL c z person now lo w' N' a X:=fun i j d=>by
 obtain⟨x,hx,f⟩:=h i j d;exact⟨x,hx,f.keep g e b⟩
theorem RsL.weak{c z person now lo e w N N' d X}(h:RsL c z person now lo w N d X)(n:e<=lo)(f:∀g,N' g->N g):RsL c z person now e w N' d X:=fun i r k=>by
 obtain⟨x,hx,b⟩:=h i r k
 exact⟨x,hx,b.itm,b.tot,b.fans,b.len,b.pts,b.evs,fun a j=>by
  obtain⟨o,l,m⟩:=b.blk a j;exact⟨Om,l,fun h=>m (f _ h)⟩⟩
theorem RsL.snoc{c z person now lo w N b X}(h:RsL c z person now lo w N b X){x r}(hx:b[X.length]?=some x)(f:Xkt c z person now lo w N x r):RsL c z person now lo w N b (X++[r]):=fun d e a=>by
 rcases Nat.lt_trichotomy d X.length with q|q|q
 .rw[Zy q]at a;exact h d e a
 .subst q;rw[List.getElem?_concat_length]at a;obtain rfl:r=e:=Su a;exact⟨x,hx,f⟩
 .rw[Zcg (by simp;omega)]at a;cases a
set_option maxHeartbeats 4000000 in
theorem Qmx{w T p c z}(d4:WT w T p c z)(aw:Qqm c z)(j:Gl w)(d3:∀k,T k->10<=k)(every seed)(he:0<=every/\every<=3)(person)(hp:Qo person=true)(now)(hn:0<=now/\now<=1099511627776) :
 Cal Tryz.prog 10 [Pj p,.agg (Qas c (Qbp 6) every seed).toArray,.string person,Vj now] w fun r w'=>∃A q D a7 X H bq bp,r=.agg #[.slice A (Qyp c z every seed person now).length q,.slice D (Qyp c z every seed person now).length a7,.slice H (Qyp c z every seed person now).length bq,Vj 0]/\Own Qac 1 9 w.heap.size w' A q (Qyp c z every seed person now)/\Own reC 5 105 w.heap.size w' D a7 X/\X.length=(Qyp c z every seed person now).length/\Own boE 1 4 w.heap.size w' H bq ((Qyp c z every seed person now).map fun x=>decide (x∉Qmc c z person now))/\RsL c z person now w.heap.size w' bp (Qyp c z every seed person now) X/\(∀a,A=some a->¬bp a.block)/\(∀a,D=some a->¬bp a.block)/\(∀a,H=some a->¬bp a.block)/\WT w' bp p c z/\(∀k,bp k->T k\/w.heap.size<=k)/\Mod T w w':=by
 have fj:=d4.lt;have i6:=j.size;refine Fi Tryz.func10 rfl _ rfl rfl (Hh ?_);intro W ib cl;have n:At ib W 32 (Qas c (Qbp 6) every seed):=cl.At;have e1:=cl.block;have jd:=cl.size;refine Gg ?_;intro U gj bw;have o:At gj U 50 Xk3:=bw.At;have e2:=bw.block;have jf:=bw.size;replace n:=n.ext bw.ext;have hx:=cl.ext.trans bw.ext;clear cl bw;refine Gg ?_;refine⟨Qas c (Qbp 6) every seed,⟨rfl,n.all⟩,Gg ?_⟩;refine(Q9c c aw.cfg every seed he gj (j.ext hx)).mono ?_;rintro _ eu ⟨rfl,gd⟩;refine Gg ?_;refine⟨Unit,fun _=>(.bool true),fun _ w'=>Ext eu w',(),fun j=>((Qzf person hp eu)).mono fun r w' h=>⟨(),h.1,h.2⟩,?_⟩;intro _ ic o
 have gf:Ext eu ic:=by
  rcases o with⟨_,h⟩|⟨_,h⟩
  .exact h
  .rw[h];exact Ext.refl _
 clear o;refine Hh ?_;have dq:=gd.trans gf;replace n:=n.ext dq;replace o:=o.ext dq;replace hx:=hx.trans dq;clear gd gf dq;constructor
 .intro h;have:now<0\/1099511627776<now:=Su h;omega
 intro _;refine Gg ?_;refine⟨Qas c (Qbp 6) every seed,⟨rfl,n.all⟩,Gg ?_⟩;have hg:=(Qmt (p:=p) aw).ext d4 hx;have jl:=hx.size;have i9:=n.lt;have jc:=o.lt;refine(Qvx hg aw (j.ext hx) d3 every seed person now).mono ?_;rintro _ w5 ⟨c3,c5,ai,rfl,ej,iw,dd,db,c8⟩;have ft:¬T W:=fun h=>by have:=fj _ h;omega
 have fu:¬T U:=fun h=>by have:=fj _ h;omega
 replace n:At w5 W _ _:=(c8.block W n.lt ft).trans n;replace o:At w5 U _ _:=(c8.block U o.lt fu).trans o;have d2:Mod T w w5:=(Mod.of_ext hx).trans c8;have d9:Gl w5:=j.mod d2 d3;have i5:=Qcg hp;have fe:∀k,ai k->T k\/w.heap.size<=k:=fun k hk=>(db k hk).imp id fun h=>Om
 have e8:¬ai W:=fun h=>by
  rcases db _ h with q|q
  .exact ft q
  .omega
 have e9:¬ai U:=fun h=>by
  rcases db _ h with q|q
  .exact fu q
  .omega
 have jn:=d2.size;have jm:=c8.size;have e5:=n;have e7:=o;refine Gg ?_;refine⟨[Vj 4,Vj 2,Vj 3],⟨rfl,Xgi n⟩,Gg ?_⟩;obtain⟨jh,im,fc,_⟩:=id d4;have ef:=fc.may;clear fc;have fv:(Q7s c z (Qbp 6) person now 5).length<1000:=(by refine Zbw ?_ aw.len;refine Zw ?_ (Qnk (c:=c) ef person now 5);unfold Q7s;rw[Zg];exact Zc _ _);have fx:∀x∈Q7s c z (Qbp 6) person now 5,x.tags.size<1000:=fun x hx=>(by obtain⟨i,_,rfl⟩:=Zh.1 hx;exact Qid _ (fun e he=>ef e (Ze.1 he).1) _ _)
 have fw:∀x∈Q7s c z (Qbp 6) person now 5,x.item.size<1000000:=fun x hx=>by
  obtain⟨i,hi,rfl⟩:=Zh.1 hx;have:=Qcg (Qj2 ef (Ze.1 hi).1).1;show i.size<1000000
  omega
 unfold Qyp Xbe Qmc;generalize Q7s c z (Qbp 6) person now 5=L at ej fv fx fw⊢;refine(Xar Xmu L c3 c5 w5 d9 (ej.sl Qli) fv fx).mono ?_;rintro _ b7 ⟨e0,c6,rfl,ek,gg⟩;generalize g9:Qkx Xmu L=M at ek⊢;have i4:M.length<=L.length:=by rw[<- g9];exact Qxq _ _
 have jo:=gg.size;have f9:=ek.sl Qli;refine Gg ?_
 refine Qh Qb (fun(q:Nat×(Option Addr×Nat×List Bj)) w'=>q.1<=M.length/\q.2.2.2=(M.take q.1).map (·.item)/\Own Qac 1 9 b7.heap.size w' q.2.1 q.2.2.1 q.2.2.2/\Ext b7 w')
  (fun|(k,(B,d,R))=>[(0,Pj p),(2,.string person),(3,Vj now),(5,Pj W),(8,Pj U),(9,.slice c3 L.length c5),(10,.slice B R.length d),(11,.slice none 0 0),(44,.slice e0 M.length c6),(45,Vj M.length),(46,Vj (k:Nat))]) (fun q=>M.length-q.1) (0,(none,0,[])) ⟨Zt _,rfl,Own.nil,Ext.refl _⟩ Rr ?_
 rintro ⟨k,⟨B,d,R⟩⟩ bm ⟨hk,cc,bh,cw⟩;simp only at hk cc bh;have i1:R.length<=k:=by rw[cc,Zg,Zn];omega
 refine Gg ?_;constructor
 .intro Y;have Y:k<M.length:=Su Y;have h5:Sl chC 4 bm e0 M:=Qpy.stay f9 fun a m J=>cw.block _ J
  obtain⟨a,rfl,hc⟩:=h5.get Y;have hstep:(M.take (k+1)).map (·.item)=R++[M[k].item]:=by rw[cc,Za Y,Zp];rfl
  generalize M[k]=y at hc hstep;refine Gg ?_;refine⟨a,Ix,Gg ?_⟩;refine⟨chC y,⟨rfl,hc⟩,Gg ?_⟩;intro gr cz dk;refine Gg ?_;have iq:=dk.block;refine Qc Qb (e:=ty98) rfl dk.At rfl rfl rfl (by simp[Qg,chC,Value.oneCell']) fun c0 h9 f2=>?_
  have h9:At c0 gr 98 (chC y):=h9;have eo:Ext bm c0:=f2.ext dk.ext Om;clear f2 dk;refine Gg ?_;refine⟨.string y.item,h9.one rfl,Gg ?_⟩;intro ip V cm;refine Gg ?_;have ie:=cm.ext.size;have ij:=cw.size;have jq:=eo.size;refine Qq Xp (l:=R) (news:= [y.item]) rfl ((bh.ext eo).ext cm.ext) rfl (Xp.new1 (x:=y.item) cm) (by simp;omega) Om fun gl c12 Z f6 fy g2=>?_
  have cv:Ext b7 Z:=Qu (cw.trans (eo.trans cm.ext)) fy (Xm bh);generalize i0:R++[y.item]=gp at f6 hstep⊢;clear fy g2 cm;refine Gg ?_;refine⟨_,wrap_succ Om,Gg ?_⟩;exact⟨(k+1,(gl,c12,gp)),Sj,⟨Sj,hstep.symm,f6,cv⟩,Rr⟩
 intro af;have af:k=M.length:=(by have:M.length<=k:=Su af;omega);subst af;rw[Zd (Zf _)]at cc;rw[<- cc];refine Gg ?_;have ij:=cw.size;have f8:=ej.sl Qli;have en:=gg.trans cw
 refine Qh Qb (fun(q:Nat×(Option Addr×Nat×List Bj)) w'=>q.1<=L.length/\q.2.2.2=((L.take q.1).map (·.item)).filter (fun x=>decide (x∉R))/\Own Qac 1 9 bm.heap.size w' q.2.1 q.2.2.1 q.2.2.2/\Ext bm w')
  (fun|(k,(bo,e,O))=>[(0,Pj p),(2,.string person),(3,Vj now),(5,Pj W),(8,Pj U),(10,.slice B R.length d),(11,.slice bo O.length e),(56,.slice c3 L.length c5),(57,Vj L.length),(58,Vj (k:Nat))]) (fun q=>L.length-q.1) (0,(none,0,[])) ⟨Zt _,rfl,Own.nil,Ext.refl _⟩ Rr ?_
 rintro ⟨k,⟨bo,e,O⟩⟩ cz ⟨hw,bb,bi,a5⟩;simp only at hw bb bi;have iz:O.length<=k:=(by rw[bb];refine Zw (Zc _ _) ?_;rw[Zg,Zn];omega);refine Gg ?_;constructor
 .intro Y;have Y:k<L.length:=Su Y;have h6:Sl chC 4 cz c3 L:=Qpy.stay f8 fun a m J=>(en.trans a5).block _ J
  obtain⟨a,rfl,hc⟩:=h6.get Y
  have hstep:((L.take (k+1)).map (·.item)).filter (fun x=>decide (x∉R))=O++if L[k].item∈R then [] else [L[k].item]:=by
   rw[bb,Za Y,Zp,Zq];congr 1
   by_cases u:L[k].item∈R<;>simp[u]
  generalize L[k]=y at hc hstep;refine Gg ?_;refine⟨a,Ix,Gg ?_⟩;refine⟨chC y,⟨rfl,hc⟩,Gg ?_⟩;intro gs c0 ag;refine Gg ?_;have ir:=ag.block;refine Qc Qb (e:=ty98) rfl ag.At rfl rfl rfl (by simp[Qg,chC,Value.oneCell']) fun V K av=>?_
  have K:At V gs 98 (chC y):=K;have dt:Ext cz V:=av.ext ag.ext Om;clear av ag;refine Gg ?_;refine⟨.string y.item,K.one rfl,Gg ?_⟩;have ik:=a5.size;have jr:=dt.size;refine(Qfp R B d y.item V ((bh.ext (a5.trans dt)).sl Qv) Om).mono ?_;rintro _ v ⟨rfl,b2⟩;have b9:=K.ext b2;have cx:=dt.trans b2;have js:=cx.size;clear K dt b2;refine Gg ?_;constructor
  .intro u;have u:y.item∉R:=Su u;rw[if_neg u]at hstep;refine Gg ?_;refine⟨.string y.item,b9.one rfl,Gg ?_⟩;intro C Z cn;refine Gg ?_;have dw:=cn.ext.size;refine Qq Xp (l:=O) (news:= [y.item]) rfl ((bi.ext cx).ext cn.ext) rfl (Xp.new1 (x:=y.item) cn) (by simp;omega) Om fun gm gx ax f7 fz g3=>?_
   have h7:Ext bm ax:=Qu (a5.trans (cx.trans cn.ext)) fz (Xm bi);generalize iy:O++[y.item]=gn at f7 hstep⊢;clear fz g3 cn;refine Gg ?_;refine⟨_,wrap_succ Om,Gg ?_⟩;exact⟨(k+1,(gm,gx,gn)),Sj,⟨Sj,hstep.symm,f7,h7⟩,Rr⟩
  intro u;have u:y.item∈R:=Su u;rw[if_pos u,Z4]at hstep;refine Gg ?_;refine⟨_,wrap_succ Om,Gg ?_⟩;exact⟨(k+1,(bo,e,O)),Sj,⟨Sj,hstep.symm,bi.ext cx,a5.trans cx⟩,Rr⟩
 intro af;have af:k=L.length:=(by have:L.length<=k:=Su af;omega);subst af;rw[Zd (Zf _)]at bb;rw[<- bb];refine Gg ?_;intro C c0 ag;have aq:At c0 C 50 Xk3:=ag.At;have iu:=ag.block;have ik:=a5.size;have jt:=ag.ext.size;have ep:=a5.trans ag.ext;have dr:=en.trans ep;have ac:=bh.ext ep;have a0:=bi.ext ag.ext;replace n:=n.ext dr;replace o:=o.ext dr;have g6:∀a,bo=some a->a.block<cz.heap.size:=fun a m=>(bi.block m).2
 have hb:∀x∈O,x.size<1000000:=fun x hx=>(by rw[bb]at hx;obtain⟨i,hi,rfl⟩:=Zh.1 (Ze.1 hx).1;exact fw i hi)
 clear ag f8 f9 ek a5 bi;refine Gg ?_;refine Qc Qb (e:=ty42) rfl aq rfl rfl rfl Oj fun V K av=>?_
 have K:At V C 50 [.slice B R.length d,.slice none 0 0,.slice none 0 0,Vj 0]:=K;refine Hh ?_;replace n:=av.at_ n Om;replace o:=av.at_ o Om;have br:∀a,B=some a->b7.heap.size<=a.block/\a.block<bm.heap.size:=fun a m=>bh.block m
 have g7:∀a,bo=some a->bm.heap.size<=a.block/\a.block<cz.heap.size:=fun a m=>(by have:=a0.block m;refine⟨this.1,g6 a m⟩)
 replace ac:=ac.keep fun a m=>av.block a.block (by have:=br a m;omega)
 replace a0:=a0.keep fun a m=>av.block a.block (by have:=g7 a m;omega)
 have au:Ext w5 V:=av.ext dr Om;have ie:=au.size;clear av aq bh dr ep en;have i3:=Qf3 now.toNat Om;generalize bs:(if 0<every then Xjk (hash seed [person,Qd4 now.toNat]) R O every else R)=I
 refine Xi Qb (ι:=Option Addr×Nat) (fun|(A,q)=>[(0,Pj p),(2,.string person),(3,Vj now),(5,Pj W),(8,Pj U),(10,.slice B R.length d),(16,Pj C)])
  (fun|(A,q),w'=>Own Qac 1 9 w5.heap.size w' A q I/\(∀a,A=some a->a.block≠C)/\Own Qac 1 9 b7.heap.size w' B d R/\At w' C 50 [.slice A I.length q,.slice none 0 0,.slice none 0 0,Vj 0]/\Ext w5 w') ?_ ?_
 . (conv=>whnf)
   refine⟨Vj every,n.one rfl,Hh ?_⟩;constructor
   .intro be;have be:0<every:=Su be;rw[if_pos be]at bs;refine Hh ?_;refine Dr .ext [0,1,2,3,7,8,9,10,4,5,6] [11,12,13] (Hh ?_);replace n:At V.drew W _ _:=n;replace o:At V.drew U _ _:=o;replace K:At V.drew C _ _:=K;replace ac:=ac.ext (Ext.refl V).drew;replace a0:=a0.ext (Ext.refl V).drew;replace au:Ext w5 V.drew:=au.drew;have ig:V.drew.heap.size=V.heap.size:=rfl;generalize V.drew=v at n o K au ac a0 ig⊢;refine⟨.int .u64 seed,n.one rfl,Hh ?_⟩;refine⟨Vj every,n.one rfl,Hh ?_⟩;refine(Qcj now v (d9.ext au) hn.1 Om).mono ?_;rintro _ Z ⟨rfl,cv⟩;refine⟨cv,Hh ?_⟩;intro gu ax dj;refine⟨dj.ext,Hh ?_⟩
    refine(Qdv seed [person,Qd4 now.toNat] (some ⟨gu,0,none⟩) 2 ax (Qai (enc:=Qac) Qv dj) (by simp) (fun s hs=>by
     rcases Zr.1 hs with rfl|hs
     .omega
     .rw[Zl.1 hs];omega)).mono ?_
    rintro _ et ⟨rfl,rfl⟩;refine⟨Ext.refl _,Hh ?_⟩;have b3:=cv.trans dj.ext;refine(Xfi _ every R O B bo d e et Om ((ac.ext b3).sl Qv) Om ((a0.ext b3).sl Qv) Om hb).mono ?_;rintro _ dv ⟨dx,e3,rfl,em,gb⟩;rw[bs]at em⊢;have du:=b3.trans gb;have jj:=b3.size;have jb:=(K.ext b3).lt;replace K:=K.ext du;replace ac:=ac.ext du;replace au:=au.trans du;clear du cv dj gb b3;refine Hh ?_;refine Qc Qb (e:=ty42) rfl K rfl rfl rfl Oj fun b4 aq ei=>?_
    have aq:At b4 C 50 [.slice dx I.length e3,.slice none 0 0,.slice none 0 0,Vj 0]:=aq;have g8:Ext w5 b4:=ei.ext au Om;have bx:∀a,dx=some a->a.block≠C:=fun a m=>by have:=em.block m;omega
    refine Hh ?_;exact⟨(dx,e3),⟨(em.keep fun a m=>ei.block a.block (bx a m)).base Om,bx,ac.keep fun a m=>ei.block a.block (by have:=br a m;omega),aq,g8⟩,Rr⟩
   intro be;have be:¬0<every:=Su be;rw[if_neg be]at bs;subst bs;refine Hh ?_;exact⟨(B,d),⟨ac.base Om,fun a m=>by have:=br a m;omega,ac,K,au⟩,Rr⟩
 have ix:I.length<1000000:=by
  rw[<- bs];have o:=Qgk R;split
  .rw[Xaz];omega
  .omega
 rintro ⟨A11,az⟩ v ⟨f3,f1,h2,b9,b2⟩;have gy:W<w5.heap.size:=e5.lt;have g0:U<w5.heap.size:=e7.lt;clear bs a0 ac bb K;refine Gg ?_;refine⟨.slice A11 I.length az,b9.one rfl,Gg ?_⟩;have ja:=b9.lt;have d1:∀a,A11=some a->a.block<v.heap.size:=fun a m=>(f3.block m).2
 refine Qh Qb (fun(q:Nat×(Option Addr×Nat×List RE)×(Option Addr×Nat)×(Nat->Prop)) w'=>q.1<=I.length/\q.2.1.2.2.length=q.1/\RsL c z person now v.heap.size w' (AvN q.2.1.1 q.2.2.1.1 q.2.2.2) I q.2.1.2.2/\WT w' q.2.2.2 p c z/\(∀i,q.2.2.2 i->ai i\/v.heap.size<=i)/\Own reC 5 105 v.heap.size w' q.2.1.1 q.2.1.2.1 q.2.1.2.2/\Own boE 1 4 v.heap.size w' q.2.2.1.1 q.2.2.1.2 ((I.take q.1).map fun x=>decide (x∉R))/\(∀a b,q.2.1.1=some a->q.2.2.1.1=some b->a.block≠b.block)/\(∀a,q.2.1.1=some a->¬q.2.2.2 a.block)/\(∀a,q.2.2.1.1=some a->¬q.2.2.2 a.block)/\Own Qac 1 9 b7.heap.size w' B d R/\Own Qac 1 9 w5.heap.size w' A11 az I/\At w' C 50 [.slice A11 I.length az,.slice q.2.1.1 q.1 q.2.1.2.1,.slice q.2.2.1.1 q.1 q.2.2.1.2,Vj 0]/\Mod ai w5 w'/\v.heap.size<=w'.heap.size)
  (fun|(k,(D,a7,X),(H,bq),_)=>[(0,Pj p),(2,.string person),(3,Vj now),(5,Pj W),(8,Pj U),(10,.slice B R.length d),(16,Pj C),(92,.slice A11 I.length az),(93,Vj I.length),(94,Vj (k:Nat))]) (fun q=>I.length-q.1) (0,(none,0,[]),(none,0),ai) ⟨Zt _,rfl,(fun i r hi=>by simp at hi),(Qmt (p:=p) aw).ext dd b2,fun i hi=>.inl hi,Own.nil,Own.nil,(fun a b m=>by cases m),(fun a m=>by cases m),(fun a m=>by cases m),h2,f3,b9,Mod.of_ext b2,Zf _⟩ Rr ?_
 rintro ⟨k,⟨D,a7,X⟩,⟨H,bq⟩,F⟩ Z ⟨hy,bt,a3,ak,aj,ah,an,d6,de,df,bj,al,ao,a8,dw⟩;simp only at hy bt a3 ak aj ah an d6 de df ao;refine Gg ?_;constructor
 .intro Y;have Y:k<I.length:=Su Y;obtain⟨a,hq,hc⟩:=(al.sl Qv).get Y;have fb:I[k]?=some I[k]:=Zb Y;have hstep:(I.take (k+1)).map (fun x=>decide (x∉R))=(I.take k).map (fun x=>decide (x∉R))++[decide (I[k]∉R)]:=by rw[Za Y,Zp];rfl
  generalize I[k]=y at hc hstep fb;subst hq;refine Gg ?_;refine⟨a,Ix,Gg ?_⟩;refine⟨.string y,hc 0 (.string y) rfl,Gg ?_⟩;refine Dr .ext [0,1,2,3,4,5,6] [7,8,9] (Hh ?_);replace ao:At Z.drew C _ _:=ao;replace ak:=(Qmt (p:=p) aw).ext ak (Ext.refl Z).drew;replace ah:=ah.ext (Ext.refl Z).drew;replace an:=an.ext (Ext.refl Z).drew;replace bj:=bj.ext (Ext.refl Z).drew;replace al:=al.ext (Ext.refl Z).drew;replace a8:=a8.trans (Mod.of_ext (Ext.refl Z).drew);replace dw:v.heap.size<=Z.drew.heap.size:=dw;replace a3:RsL c z person now v.heap.size Z.drew (AvN D H F) I X:=a3.keep (Zf _) (fun _ _ _ _=>rfl) (fun _ _ _ h=>h);generalize Z.drew=ax at ao ak ah an bj al a8 dw a3⊢;refine⟨_,ao.one rfl,Hh ?_⟩;refine(Qfp R B d y ax (bj.sl Qv) Om).mono ?_;rintro _ et ⟨rfl,dp⟩;refine⟨dp,Hh ?_⟩;intro gv dv bv;refine⟨bv.ext,Hh ?_⟩;have bl:=dp.trans bv.ext;have il:=bl.size;have ia:=ao.lt;have fq:((I.take k).map fun x=>decide (x∉R)).length=k:=by rw[Zg,Zn];omega
  have h8:(!decide (y∈R))=decide (y∉R):=by by_cases u:y∈R<;>simp[u]
  have i2:=bv.block;have je:=bv.size;have ji:=dp.size;have f0:New et dv gv (.cells (boE (decide (y∉R))).toArray 4):=h8▸bv;have hl:RsL c z person now v.heap.size dv (AvN D H F) I X:=a3.keep il (fun k _ J _=>bl.block k J) (fun _ _ _ h=>h);have h0:=((Qmt (p:=p) aw).ext ak bl).lt;refine Qq Xl0 (l:=(I.take k).map fun x=>decide (x∉R)) (news:= [decide (y∉R)]) (by rw[fq]) (an.ext bl) rfl (Xl0.new1 (x:=decide (y∉R)) f0) (by rw[fq];simp;omega) Om fun P dy b4 dm di fa=>?_
  rw[<- hstep]at dm⊢;have ho:((I.take (k+1)).map fun x=>decide (x∉R)).length=k+1:=by rw[Zg,Zn];omega
  rw[ho];have cg:∀g,H.map (·.block)=some g->v.heap.size<=g:=Xm an
  have d8:∀g,H.map (·.block)=some g->¬F g:=fun g j h=>by
   cases u:H with
   |none=>rw[u]at j;simp at j
   |some b=>rw[u]at j;simp at j;exact df b u (j▸h)
  have d7:∀a,D=some a->H.map (·.block)≠some a.block:=fun a m j=>by
   cases u:H with
   |none=>rw[u]at j;simp at j
   |some b=>rw[u]at j;simp at j;exact d6 a b m u j.symm
  have fp:∀g,F g->some g≠H.map (·.block):=fun g j e=>d8 g e.symm j
  have dh:¬F C:=fun h=>by
   rcases aj _ h with q|q
   .have:=dd.lt _ q;omega
   .omega
  have ea:∀g,g<ax.heap.size->some g≠H.map (·.block)->b4.heap[g]?=ax.heap[g]? := fun g J bx=>(by rw[di.block g Om bx];exact bl.block g J)
  have aq:At b4 C _ _:=(ea C ia (fun e=>by have:=cg _ e.symm;omega)).trans ao;have ju:=di.size;refine Hh ?_;refine Qc Qb (e:=ty48) rfl aq rfl rfl rfl Oj fun E ar cq=>?_
  have ar:At E C 50 [.slice (some a) I.length az,.slice D k a7,.slice P (k+1) dy,Vj 0]:=ar;have jw:=(Qj (S:=fun g=>g=C) cq rfl).size;have bu:∀g,g<ax.heap.size->g≠C->some g≠H.map (·.block)->E.heap[g]?=ax.heap[g]? := fun g J n o=>(by rw[cq.block g n];exact ea g J o)
  have fs:∀b,P=some b->v.heap.size<=b.block/\b.block<b4.heap.size:=fun b f=>dm.block f
  have c7:∀g,P.map (·.block)=some g->H.map (·.block)=some g\/g=dv.heap.size:=fun g j=>by
   rcases fa with q|q|q
   .rw[q]at j;exact .inl j
   .rw[q]at j;exact .inl j
   .rw[q]at j;exact .inr (Su j.symm)
  have cd:WT E F p c z:=ak.keep fun g j=>bu g (ak.lt _ j) (fun e=>dh (e▸j)) (fp g j)
  have bk:=ah.keep (w':=E) fun a m=>bu a.block (ah.block m).2 (by have:=ah.block m;omega) (fun e=>d7 a m e.symm)
  have b1:=dm.keep (w':=E) fun b f=>cq.block b.block (by have:=fs b f;omega)
  have cu:=bj.keep (w':=E) fun b f=>bu b.block (bj.block f).2 (by have:=br b f;omega) (fun e=>by have:=cg _ e.symm;have:=br b f;omega)
  have b0:=al.keep (w':=E) fun b f=>bu b.block (al.block f).2 (f1 b f) (fun e=>by have:=cg _ e.symm;have:=d1 b f;omega)
  have cf:RsL c z person now v.heap.size E (AvN D P F) I X:=a3.keep Om (fun g n o N=>bu g o Om (fun e=>N (.inr (.inr e.symm)))) (fun g n o N h=>by
   rcases h with q|q|q
   .exact N (.inl q)
   .exact N (.inr (.inl q))
   .rcases c7 g q with q|q
    .exact N (.inr (.inr q))
    .omega)
  have a9:Mod ai w5 E:=Qn a8 (((Mod.of_ext bl).trans (Xn di fun g j=>.inr (by have:=cg g j;omega))).trans (Qj cq (.inr Om)))
  have fk:∀a b,D=some a->P=some b->a.block≠b.block:=fun a b m f e=>by
   rcases c7 b.block (by rw[f];rfl) with q|q
   .exact d7 a m (e▸q)
   .have:=ah.block m;omega
  have fr:∀b,P=some b->¬F b.block:=fun b f h=>by
   rcases c7 b.block (by rw[f];rfl) with q|q
   .exact d8 _ q h
   .have:=ak.lt _ h;omega
  have ew:v.heap.size<=E.heap.size:=Om;clear ah an bj al a8 a3 hl ak dm di fa c7 fs cq bu ea aq d6 d7 df d8 fp cg bl dp bv f0 ao h0;have ca:At E W _ _:=(a9.block W gy e8).trans e5;refine Dr (.mods F) [0,1,2,3,4,5,6,7,8,9] [10,11,12] (Hh ?_);replace ar:At E.drew C _ _:=ar;replace ca:At E.drew W _ _:=ca;replace cd:=(Qmt (p:=p) aw).ext cd (Ext.refl E).drew;replace bk:=bk.ext (Ext.refl E).drew;replace b1:=b1.ext (Ext.refl E).drew;replace cu:=cu.ext (Ext.refl E).drew;replace b0:=b0.ext (Ext.refl E).drew;replace a9:=a9.trans (Mod.of_ext (Ext.refl E).drew);replace ew:v.heap.size<=E.drew.heap.size:=ew;replace cf:RsL c z person now v.heap.size E.drew (AvN D P F) I X:=cf.keep (Zf _) (fun _ _ _ _=>rfl) (fun _ _ _ h=>h);generalize E.drew=ae at ar ca cd bk b1 cu b0 a9 ew cf⊢
  have hu:¬F W:=fun h=>by
   rcases aj _ h with q|q
   .exact e8 q
   .omega
  refine⟨_,⟨ar.one rfl,by rw[add_block];exact dh⟩,Hh ?_⟩;refine⟨wsC (Qbp 6),⟨rfl,⟨Xc2 ca,by rw[add_block];exact hu⟩⟩,Hh ?_⟩
  have fi:∀i,ai i->10<=i:=fun i hi=>by
   rcases db _ hi with q|q
   .exact d3 _ q
   .omega
  refine(Quh cd aw (d9.mod a9 fi) (fun i hi=>by
   rcases aj _ hi with q|q
   .exact fi _ q
   .omega) (Qbp 6) person y now).mono ?_
  rintro _ b5 ⟨ey,c1,ez,c2,ab,rfl,cp,cr,_,g1,g4,dc,ff,cb⟩;refine⟨cb,Hh ?_⟩;intro gw b6 a4;refine⟨Mod.of_ext a4.ext,Hh ?_⟩;have jk:=cb.size;have jg:=a4.size;have iv:=a4.block;have gh:=ar.lt;have eg:New b5 b6 gw (.cells (reC ⟨y,ey,c1,Qqq (Qvc (Xbu c z person y now) (Qbp 6) 6),ez,(Xd5 c z person y now).length,c2,Q9d c z y⟩).toArray 105):=a4;have ec:∀g,g<ae.heap.size->¬F g->b6.heap[g]?=ae.heap[g]? := fun g J j=>(by rw[a4.ext.block g Om];exact cb.block g J j)
  have f5:=bk.keep (w':=b6) fun a m=>ec a.block (bk.block m).2 (de a m)
  generalize hr:(⟨y,ey,c1,Qqq (Qvc (Xbu c z person y now) (Qbp 6) 6),ez,(Xd5 c z person y now).length,c2,Q9d c z y⟩:RE)=r at eg;have ga:=Xl3.new1 eg;refine Qq Xl3 (l:=X) (news:= [r]) bt.symm f5 rfl ga (by rw[bt];simp;omega) Om fun ay e4 gk el cj g5=>?_
  have d5:(X++[r]).length=k+1:=by rw[Zo,bt];rfl
  rw[d5];have jv:=cj.size;have fl:∀b,D=some b->v.heap.size<=b.block/\b.block<ae.heap.size:=fun b f=>bk.block f
  have bd:∀g,some g=D.map (·.block)->v.heap.size<=g/\g<ae.heap.size/\¬F g:=fun g j=>by
   cases u:D with
   |none=>rw[u]at j;simp at j
   |some b=>rw[u]at j;simp at j;subst j;exact⟨(fl b u).1,(fl b u).2,de b u⟩
  have ch:∀b,P=some b->v.heap.size<=b.block/\b.block<ae.heap.size:=fun b f=>b1.block f
  have da:∀g,g<ae.heap.size->¬F g->¬ab g:=fun g J j h=>by
   rcases ff _ h with q|q
   .exact j q
   .omega
  have ht:¬ab C:=da _ gh dh;have fh:∀g,ab g->some g≠D.map (·.block):=fun g j e=>(by obtain⟨_,cy,er⟩:=bd g e;exact da g cy er j)
  have ed:∀g,g<ae.heap.size->¬F g->some g≠D.map (·.block)->gk.heap[g]?=ae.heap[g]? := fun g J o bx=>(by rw[cj.block g Om bx];exact ec g J o)
  have e6:At gk C _ _:=(ed C gh dh (fun e=>by have:=(bd _ e).1;omega)).trans ar;refine Hh ?_;refine Qc Qb (e:=ty47) rfl e6 rfl rfl rfl Oj fun aa d0 bz=>?_
  have d0:At aa C 50 [.slice (some a) I.length az,.slice ay (k+1) e4,.slice P (k+1) dy,Vj 0]:=d0;have jx:=(Qj (S:=fun g=>g=C) bz rfl).size;have ck:∀g,g<ae.heap.size->¬F g->g≠C->some g≠D.map (·.block)->aa.heap[g]?=ae.heap[g]? := fun g J o n N=>(by rw[bz.block g n];exact ed g J o N)
  have eb:∀g,g<b5.heap.size->g≠C->some g≠D.map (·.block)->aa.heap[g]?=b5.heap[g]? := fun g J n N=>(by rw[bz.block g n,cj.block g Om N];exact a4.ext.block g J)
  have c4:∀g,ay.map (·.block)=some g->D.map (·.block)=some g\/g=b6.heap.size:=fun g j=>by
   rcases g5 with q|q|q
   .rw[q]at j;exact .inl j
   .rw[q]at j;exact .inl j
   .rw[q]at j;exact .inr (Su j.symm)
  have hf:WT aa ab p c z:=dc.keep fun g j=>eb g (dc.lt _ j) (fun e=>ht (e▸j)) (fh g j)
  have f4:=el.keep (w':=aa) fun b f=>bz.block b.block (by have:=el.block f;omega)
  have h4:=b1.keep (w':=aa) fun b f=>ck b.block (ch b f).2 (fr b f) (by have:=ch b f;omega) (fun e=>by
   cases u:D with
   |none=>rw[u]at e;simp at e
   |some b8=>rw[u]at e;simp at e;exact fk b8 b u f e.symm)
  have c9:∀g,w5.heap.size<=g->g<v.heap.size->¬F g:=fun g n o h=>by
   rcases aj _ h with q|q
   .have:=dd.lt _ q;omega
   .omega
  have h3:=cu.keep (w':=aa) fun b f=>(by have:=br b f;exact ck b.block Om (c9 _ Om Om) Om (fun e=>by have:=(bd _ e).1;omega))
  have h1:=b0.keep (w':=aa) fun b f=>(by have gi:=d1 b f;have cy:=(b0.block f).1;exact ck b.block Om (c9 _ Om Om) (f1 b f) (fun e=>by have:=(bd _ e).1;omega))
  have fm:RsL c z person now v.heap.size aa (AvN ay P ab) I X:=cf.keep Om (fun g n o N=>ck g o (fun h=>N (.inl h)) Om (fun e=>N (.inr (.inl e.symm)))) (fun g n o N h=>by
   rcases h with q|q|q
   .exact da g o (fun h=>N (.inl h)) q
   .rcases c4 g q with q|q
    .exact N (.inr (.inl q))
    .omega
   .exact N (.inr (.inr q)))
  have eh:∀b:Addr,ae.heap.size<=b.block->b.block<b5.heap.size->¬ab b.block->v.heap.size<=b.block/\b.block<aa.heap.size/\¬AvN ay P ab b.block:=fun b gi cy er=>by
   refine⟨Om,Om,fun h=>?_⟩;rcases h with q|q|q
   .exact er q
   .rcases c4 _ q with q|q
    .have:=(bd _ q.symm).2.1;omega
    .omega
   .cases hz:P with
    |none=>rw[hz]at q;simp at q
    |some b8=>rw[hz]at q;simp at q;have:=(ch b8 hz).2;omega
  have ee:∀b:Addr,ae.heap.size<=b.block->b.block<b5.heap.size->aa.heap[b.block]?=b5.heap[b.block]? := fun b gi cy=>eb _ cy Om (fun e=>by have:=(bd _ e).2.1;omega)
  have fd:Xkt c z person now v.heap.size aa (AvN ay P ab) y r:=by
   subst hr;refine⟨rfl,rfl,rfl,rfl,Xgb.stay (cp.sl Q0h) fun b f _=>ee b (cp.block f).1 (cp.block f).2,Qq2.stay (cr.sl Qau) fun b f _=>ee b (cr.block f).1 (cr.block f).2,fun b f=>?_⟩;rcases f with f|f
   .exact eh b (cp.block f).1 (cp.block f).2 (g1 b f)
   .exact eh b (cr.block f).1 (cr.block f).2 (g4 b f)
  have fo:=fm.snoc (by rw[bt];exact fb) fd
  have ha:Mod ai w5 aa:=Qn a9 ((((cb.mono fun g _ j=>(by
   rcases aj _ j with q|q
   .exact .inl q
   .exact .inr Om)).trans (Mod.of_ext a4.ext)).trans (Xn cj fun g j=>.inr (by have:=(bd g j.symm).1;omega))).trans (Qj bz (.inr Om)))
  have hd:∀i,ab i->ai i\/v.heap.size<=i:=fun i hi=>by
   rcases ff _ hi with q|q
   .exact aj _ q
   .exact .inr Om
  have hj:∀a b,ay=some a->P=some b->a.block≠b.block:=fun a b m f e=>by
   have:=ch b f;rcases c4 a.block (by rw[m];rfl) with q|q
   .cases u:D with
    |none=>rw[u]at q;simp at q
    |some b8=>rw[u]at q;simp at q;exact fk b8 b u f Om
   .omega
  have hh:∀b,ay=some b->¬ab b.block:=fun b f h=>by
   rcases c4 b.block (by rw[f];rfl) with q|q
   .exact fh _ h q.symm
   .have:=dc.lt _ h;omega
  have hm:∀b,P=some b->¬ab b.block:=fun b f=>da _ (ch b f).2 (fr b f)
  generalize X++[r]=gq at d5 f4 fo;have ih:v.heap.size<=aa.heap.size:=Om;clear fm fd cj el bz ck ed ec eb a4 eg ga bk f5 b1 cu b0 cf a9 cb cd dc ar ca e6 eh ee;refine Hh ?_;refine Gg ?_;refine⟨_,wrap_succ Om,Gg ?_⟩;exact⟨(k+1,(ay,e4,gq),(P,dy),ab),Sj,⟨Sj,d5,fo,hf,hd,f4,h4,hj,hh,hm,h3,h1,d0,ha,ih⟩,Rr⟩
 intro af;have af:k=I.length:=(by have:I.length<=k:=Su af;omega);subst af;rw[Zd (Zf _)]at an;refine Gg ?_;refine⟨_,⟨rfl,ao.all⟩,Gg ?_⟩
 have c9:∀g,w5.heap.size<=g->g<v.heap.size->¬F g:=fun g n o h=>by
  rcases aj _ h with q|q
  .have:=dd.lt _ q;omega
  .omega
 have hv:¬F U:=fun h=>by
  rcases aj _ h with q|q
  .exact e9 q
  .omega
 have gz:At Z U _ _:=(a8.block U g0 e9).trans e7;refine Qc Qb (e:=ty50) rfl gz rfl rfl rfl Oj fun b6 dz bg=>?_
 have dz:At b6 U 50 [.slice A11 I.length az,.slice D I.length a7,.slice H I.length bq,Vj 0]:=dz;refine Gg ?_;refine⟨_,⟨rfl,dz.all⟩,A11,az,D,a7,X,H,bq,F,rfl,(al.keep fun b f=>bg.block _ (by have:=al.block f;omega)).base Om,(ah.keep fun b f=>bg.block _ (by have:=ah.block f;omega)).base Om,bt,(an.keep fun b f=>bg.block _ (by have:=an.block f;omega)).base Om,?_,(fun b f=>c9 _ (al.block f).1 (d1 b f)),de,df,ak.keep fun g j=>bg.block g (fun e=>hv (e▸j)),?_,?_⟩
 .refine(a3.keep (N':=AvN D H F) (by have:=(Qj (S:=fun g=>g=U) bg rfl).size;omega) (fun g n o N=>bg.block g Om) (fun _ _ _ h=>h)).weak Om fun g h=>.inl h
 .intro g j;rcases aj _ j with q|q
  .exact fe _ q
  .exact .inr Om
 .refine Qn d2 ((a8.mono fun g _ j=>?_).trans (Qj bg (.inr Om)));rcases fe _ j with q|q
  .exact .inl q
  .exact .inr q
theorem Xbm{k:Nat}{P}(h:Xfz[k]?=some P):Qo P=true:=(by decide:∀x∈Xfz,Qo x=true) P (Zap h)
theorem Xbx{c z}(b:∀e∈z,Xy e=true)(every seed person now):(Qyp c z every seed person now).length<=z.length:=by
 have a:(Qmc c z person now).length<=z.length:=(by refine Zw ?_ (Qnk (c:=c) b person now 5);unfold Qmc;rw[Zg];refine Zw (Qxq _ _) ?_;unfold Q7s;rw[Zg];exact Zc _ _);unfold Qyp;split
 .rw[Xaz];exact Zw (Qgk _) a
 .exact a
