import Derived.Test.YtpdonaienhociaaGreatDoorGSB
set_option linter.all false
namespace Go.Proofs.YtpdonaienhociaaGreatDoor
open Go.Se Go.RowKit
structure Xbh (w:World) (b5 b6 b7 b9 b11 b12 p pw rb:Nat) (f:Fct) (person item:Bj):Prop where
 w5:At w b5 38 [Pj p]
 p6:At w b6 9 [.string person]
 i7:At w b7 9 [.string item]
 r9:At w b9 42 [Pj rb]
 f11:At w b11 127 (Qqe f)
 c12:At w b12 91 [Pj pw]
 rule:At w rb 106 [Qss]
theorem Xbh.ext {w w':World} {b5 b6 b7 b9 b11 b12 p pw rb:Nat} {f:Fct} {person item:Bj} (h:Xbh w b5 b6 b7 b9 b11 b12 p pw rb f person item) (hx:Ext w w'):Xbh w' b5 b6 b7 b9 b11 b12 p pw rb f person item :=
 ⟨h.w5.ext hx,h.p6.ext hx,h.i7.ext hx,h.r9.ext hx,h.f11.ext hx,h.c12.ext hx,h.rule.ext hx⟩
theorem Qfg (l:List Bj) (A:Option Addr) (c:Nat) (x:Bj) (w:World) (hs:SlT w A l) (hl:l.length<1000000) :
 Cal Tryz.prog 31 [.slice A l.length c,.string x] w fun r w'=>r = .bool (decide (x∈l))/\Ext w w' :=
 (Qay l A c x w hs hl).mono fun r w' h=>⟨h.1,by rw[h.2];exact Ext.refl _⟩
section
variable {w:World} {b5 b6 b7 b9 b11 b12 p pw rb:Nat} {f:Fct} {person item:Bj}
theorem Xcq (h:Xbh w b5 b6 b7 b9 b11 b12 p pw rb f person item):Cal Tryz.prog 45 [Pj b11] w fun r w'=>r = .bool (!f.it.listed)/\Ext w w':=by
 refine Fi Tryz.func45 rfl _ rfl rfl (Hh ?_);refine⟨.bool f.it.listed,h.f11.one rfl,Gg ?_⟩;exact⟨rfl,Ext.refl _⟩
theorem Xcr (h:Xbh w b5 b6 b7 b9 b11 b12 p pw rb f person item):Cal Tryz.prog 46 [Pj b11] w fun r w'=>r = .bool (decide (f.it.stock=0))/\Ext w w':=by
 refine Fi Tryz.func46 rfl _ rfl rfl (Hh ?_);refine⟨Vj f.it.stock,h.f11.one rfl,Gg ?_⟩;exact⟨rfl,Ext.refl _⟩
theorem Xcs (h:Xbh w b5 b6 b7 b9 b11 b12 p pw rb f person item):Cal Tryz.prog 47 [Pj b11] w fun r w'=>r = .bool f.done/\Ext w w':=by
 refine Fi Tryz.func47 rfl _ rfl rfl (Hh ?_);refine⟨.bool f.done,h.f11.one rfl,Gg ?_⟩;exact⟨rfl,Ext.refl _⟩
theorem Xcp {S:Nat->Prop} {half:Int} {rs:List Row} (h:Xbh w b5 b6 b7 b9 b11 b12 p pw rb f person item) (hc:X3 w S pw half rs) (hm:∀ r∈rs,X0 r.1=true) (hl:rs.length<1000000) :
 Cal Tryz.prog 42 [Pj b12,Pj b6,Pj b7,Pj b11] w fun r w'=>r = .bool (Q5w rs person item||decide (f.it.maker∈Q5x rs person))/\Ext w w':=by
 refine Fi Tryz.func42 rfl _ rfl rfl (Hh ?_);refine Dr .ext [0,1,2,3,4,5,6,8,9,10,7] [11,12,13] (Hh ?_);have hx:Ext w w.drew:=(Ext.refl w).drew;replace h:=h.ext hx;replace hc:=hc.ext hx;generalize w.drew=w1 at hx h hc ⊢;refine⟨Pj pw,h.c12.one0,Hh ?_⟩;refine⟨.string person,h.p6.one0,Hh ?_⟩;refine⟨.string item,h.i7.one0,Hh ?_⟩;refine(Qn0 w1 S pw half rs hc person item).mono ?_;rintro _ w2 ⟨rfl,hx2⟩;refine⟨hx2,Hh ?_⟩;replace h:=h.ext hx2;replace hc:=hc.ext hx2;refine⟨Pj pw,fun _=>h.c12.one0,Hh ?_⟩;refine⟨.string person,fun _=>h.p6.one0,Hh ?_⟩;refine⟨.string f.it.maker,fun _=>h.f11.one rfl,Hh ?_⟩;refine⟨Option Addr×Nat,fun i => .slice i.1 (Q5x rs person).length i.2,fun i w'=>SlT w' i.1 (Q5x rs person)/\Ext w2 w',(none,0),fun _=>(Q31 w2 S pw half rs hc hm hl person).mono fun r w' ⟨A,c,h1,h2,h3⟩=>⟨(A,c),h1,h2.sl Qw,h3⟩,?_⟩;rintro i w3 hq3
 have hx3:Ext w2 w3:=by
  rcases hq3 with⟨_,h⟩ | ⟨_,h⟩
  . exact h.2
  . rw[h];exact Ext.refl _
 have hsl:Q5w rs person item=false->SlT w3 i.1 (Q5x rs person):=fun hh=>by
  rcases hq3 with⟨_,h⟩ | ⟨h,_⟩
  . exact h.1
  . exact(h ⟨hh,trivial⟩).elim
 have hml:(Q5x rs person).length<1000000:=(by have h1:=Q07 9 (Xk rs).mutes person (hist (evs rs) person);have h2:=Qva rs person;unfold Q5x;omega);refine⟨hx3,Hh ?_⟩;refine⟨Unit,fun _=>(.bool (decide (f.it.maker∈Q5x rs person))),fun _ w'=>Ext w3 w',(),fun hg=>((Qfg (Q5x rs person) i.1 i.2 f.it.maker w3 (hsl hg) hml)).mono fun r w' h=>⟨(),h.1,h.2⟩,?_⟩;intro _ w4 h2
 have hx4:Ext w3 w4:=by
  rcases h2 with⟨_,h⟩ | ⟨_,h⟩
  . exact h
  . rw[h];exact Ext.refl _
 clear h2;refine Hh ?_;exact⟨by cases Q5w rs person item <;> rfl,hx.trans (hx2.trans (hx3.trans hx4))⟩
theorem Xct {T:Nat->Prop} {c:Cfg} {z:List Ev} (h:Xbh w b5 b6 b7 b9 b11 b12 p pw rb f person item) (hW:WT w T p c z):Cal Tryz.prog 48 [Pj b11,Pj b5] w fun r w'=>r = .bool (decide (f.fans<c.crowd)&&decide (c.span<f.age))/\Ext w w':=by
 obtain⟨v,T0,hQ,_⟩:=hW;refine Fi Tryz.func48 rfl _ rfl rfl (Hh ?_);refine Dr .ext [0,1,2,3,4,5,6,7,8,9,10,11,12,13,14] [] (Hh ?_);have hx:Ext w w.drew:=(Ext.refl w).drew;replace h:=h.ext hx;replace hQ:=hQ.ext hx;generalize w.drew=w1 at hx h hQ ⊢;refine⟨Vj f.fans,h.f11.one rfl,Hh ?_⟩;refine⟨Pj p,h.w5.one0,Hh ?_⟩;refine(Qbc hQ).mono ?_;rintro _ w2 ⟨rfl,hx2⟩;refine⟨hx2,Hh ?_⟩;replace h:=h.ext hx2;replace hQ:=hQ.ext hx2;refine⟨Vj f.age,fun _=>h.f11.one rfl,Hh ?_⟩;refine⟨Pj p,fun _=>h.w5.one0,Hh ?_⟩;refine⟨Unit,fun _=>(Xec c),fun _ w'=>Ext w2 w',(),fun hg=>((Qbc hQ)).mono fun r w' h=>⟨(),h.1,h.2⟩,?_⟩;intro _ w3 h2
 have hx3:Ext w2 w3:=by
  rcases h2 with⟨_,h⟩ | ⟨_,h⟩
  . exact h
  . rw[h];exact Ext.refl _
 clear h2;refine⟨hx3,?_⟩;refine Hh ?_;exact⟨rfl,hx.trans (hx2.trans hx3)⟩
theorem Qyp (f:Fct) (w:World):Cal Tryz.prog 465 [.agg #[.string ⟨#[115,116,111,99,107]⟩,.bool false,Vj 0],.agg (Qqe f).toArray] w fun r w'=>r = .bool (decide (0<f.it.stock))/\Ext w w':=by
 refine Fi Tryz.func465 rfl _ rfl rfl (Hh ?_);intro b2 w2 hn2;have h2:At w2 b2 431 [.string ⟨#[115,116,111,99,107]⟩,.bool false,Vj 0]:=hn2.At;refine Gg ?_;intro b3 w3 hn3;have h3:At w3 b3 127 (Qqe f):=hn3.At;replace h2:=h2.ext hn3.ext;have hx:=hn2.ext.trans hn3.ext;clear hn2 hn3;refine Gg ?_;refine⟨.string ⟨#[115,116,111,99,107]⟩,h2.one rfl,Gg ?_⟩;constructor
 . intro hq;exact absurd hq (by decide)
 intro _;refine Gg ?_;constructor
 . intro _;refine Gg ?_;refine⟨Vj f.it.stock,h3.one rfl,Gg ?_⟩;refine⟨.bool false,h2.one rfl,Gg ?_⟩;constructor
   . intro hq;exact absurd hq (by decide)
   intro _;refine Gg ?_;refine⟨Vj 0,h2.one rfl,Gg ?_⟩;exact⟨rfl,hx⟩
 intro hq;exact absurd hq (by decide)
theorem Q3h {w:World} {rb:Nat} (h:At w rb 106 [Qss]) (f:Fct):Cal Tryz.prog 51 [Pj rb,.agg (Qqe f).toArray] w fun r w'=>r = .bool (decide (0<f.it.stock))/\Ext w w':=by
 refine Fi Tryz.func51 rfl _ rfl rfl (Hh ?_);intro b3 w3 hn3;have h3:At w3 b3 127 (Qqe f):=hn3.At;replace h:=h.ext hn3.ext;have hx:=hn3.ext;clear hn3;refine Hh ?_;refine Dr .same [0,1,2,3,4,5,6,7,8,9,10,11,12,13,14] [15,16,17] (Hh ?_);replace h3:At w3.drew b3 _ _:=h3;replace h:At w3.drew rb _ _:=h;replace hx:=hx.drew;generalize w3.drew=w4 at h3 h hx ⊢;refine⟨_,Qcd Kr (some ⟨rb,0,none⟩) _ _,Hh ?_⟩;refine⟨Qss,fun _=>h.one rfl,Hh ?_⟩;refine⟨false,fun _ w'=>⟨by kernel_rfl,by kernel_rfl⟩,Hh ?_⟩;refine⟨Qss,fun _=>h.one rfl,Hh ?_⟩;refine⟨Qqe f,fun _=>⟨rfl,h3.all⟩,Hh ?_⟩;refine⟨Unit,fun _ => .bool (decide (0<f.it.stock)),fun _ w'=>Ext w4 w',(),fun _=>⟨465,[.agg #[.string ⟨#[115,116,111,99,107]⟩,.bool false,Vj 0],.agg (Qqe f).toArray],by kernel_rfl,(Qyp f w4).mono fun r w' h=>⟨(),h.1,h.2⟩⟩,?_⟩;intro _ w5 h5
 have hx5:Ext w4 w5:=by
  rcases h5 with⟨_,h⟩ | ⟨_,h⟩
  . exact h
  . rw[h];exact Ext.refl _
 refine Hh ?_;exact⟨rfl,hx.trans hx5⟩
theorem Xcu (h:Xbh w b5 b6 b7 b9 b11 b12 p pw rb f person item):Cal Tryz.prog 50 [Pj b9,Pj b11] w fun r w'=>r = .bool (!decide (0<f.it.stock))/\Ext w w':=by
 refine Fi Tryz.func50 rfl _ rfl rfl (Hh ?_);refine⟨Pj rb,h.r9.one0,Gg ?_⟩;refine⟨Qqe f,⟨rfl,h.f11.all⟩,Gg ?_⟩;refine(Q3h h.rule f).mono ?_;rintro _ w2 ⟨rfl,hx2⟩;refine Gg ?_;exact⟨rfl,hx2⟩
end
def arF (b5 b6 b7 b9 b11 b12:Nat):Array Value := #[.func (.func 45) #[] #[Pj b11],.func (.func 46) #[] #[Pj b11],.func (.func 42) #[] #[Pj b12,Pj b6,Pj b7,Pj b11],.func (.func 47) #[] #[Pj b11],.func (.func 48) #[] #[Pj b11,Pj b5],.func (.func 50) #[] #[Pj b9,Pj b11]]
theorem Xg3 {c:Cfg} {z:List Ev} {person item:Bj} {now:Int} {k:Nat} (hk:k<6) (h:(Qt2 c z person item now)[k]? = some true) (hn:∀ j<k,(Qt2 c z person item now)[j]? = some false):Qpl c z person item now=k+1:=by
 unfold Qpl;have:(Qt2 c z person item now).findIdx? (· == true)=some k:=(by rw[Zab];obtain⟨h1,h2⟩:=Zi.1 h;refine⟨h1,by simp[h2],fun j hj => ?_⟩;obtain⟨h3,h4⟩:=Zi.1 (hn j hj);simp[h4]);rw[this]
theorem Xd5 {c:Cfg} {z:List Ev} {person item:Bj} {now:Int} (hn:∀ j<6,(Qt2 c z person item now)[j]? = some false):Qpl c z person item now=0:=by
 unfold Qpl;have:(Qt2 c z person item now).findIdx? (· == true)=none:=(by rw[Zav];intro x hx;obtain⟨i,hi,rfl⟩:=Za2 hx;have hl:(Qt2 c z person item now).length=6:=rfl;obtain⟨h3,h4⟩:=Zi.1 (hn i Om);simp[h4]);rw[this]
set_option maxHeartbeats 8000000 in
theorem Qr8 {w:World} {T:Nat->Prop} {p rb:Nat} {c:Cfg} {z:List Ev} (hW:WT w T p c z) (hok:Qm7 c z) (hr:At w rb 106 [Qss]) (person item:Bj) (now:Int) :
 Cal Tryz.prog 12 [Pj p,.string person,.string item,Vj now,Pj rb] w fun r w'=>r = Vj (Qpl c z person item now:Nat)/\Ext w w':=by
 obtain⟨v,T0,hQ,_⟩:=id hW;have hzl:=hok.len;have hrs:=Qeg c.width z hQ.rise hQ.may;have hrl:=Qv7 c.width z;have hrm:∀ r∈(Qi c.width z).rs,X0 r.1=true:=fun r hr=>(hrs r hr).1
 clear hrs;refine Fi Tryz.func12 rfl _ rfl rfl (Hh ?_);intro b5 w1 hn1;have h5:At w1 b5 38 [Pj p]:=hn1.At;refine Gg ?_;intro b6 w2 hn2;have h6:At w2 b6 9 [.string person]:=hn2.At;refine Gg ?_;intro b7 w3 hn3;have h7:At w3 b7 9 [.string item]:=hn3.At;refine Gg ?_;intro b9 w4 hn4;have h9:At w4 b9 42 [Pj rb]:=hn4.At;replace h7:=h7.ext hn4.ext;replace h6:=(h6.ext hn3.ext).ext hn4.ext;replace h5:=((h5.ext hn2.ext).ext hn3.ext).ext hn4.ext;have hx4:=((hn1.ext.trans hn2.ext).trans hn3.ext).trans hn4.ext;clear hn1 hn2 hn3 hn4;refine Gg ?_;refine⟨Pj p,h5.one0,Gg ?_⟩;refine⟨.string person,h6.one0,Gg ?_⟩;refine⟨.string item,h7.one0,Gg ?_⟩;have hW4:=(Qjz (p:=p) hok).ext hW hx4;refine(Q3c hW4 hok person item now).mono ?_;rintro _ w5 ⟨rfl,hx5⟩;have hwhy:Qt2 c z person item now = [!(Qg6 c z person item now).it.listed,decide ((Qg6 c z person item now).it.stock=0),Q5w (Qi c.width z).rs person item||decide ((Qg6 c z person item now).it.maker∈Q5x (Qi c.width z).rs person),(Qg6 c z person item now).done,decide ((Qg6 c z person item now).fans<c.crowd)&&decide (c.span<(Qg6 c z person item now).age),!decide (0<(Qg6 c z person item now).it.stock)]:=rfl;generalize Qg6 c z person item now=f at hwhy ⊢;refine Gg ?_;intro b11 w6 hn6;refine Gg ?_;refine Qc Qb (e:=ty127) rfl hn6.At rfl rfl rfl (Qr4 f) fun w7 h11 ho7 => ?_
 have h11:At w7 b11 127 (Qqe f):=h11;have hx47:Ext w4 w7:=hx5.trans (ho7.ext hn6.ext (by rw[hn6.block];exact Zg _));replace h5:=h5.ext hx47;replace h6:=h6.ext hx47;replace h7:=h7.ext hx47;replace h9:=h9.ext hx47;have hx7:=hx4.trans hx47;clear ho7 hn6 hx5 hx47 hx4;refine Gg ?_;refine⟨Pj p,h5.one0,Gg ?_⟩;refine(X6 (hQ.ext hx7)).mono ?_;rintro _ w8 ⟨pw,S,rfl,hc8,hx8⟩;refine Gg ?_;intro b12 w9 hn9;refine Gg ?_;refine Qc Qb (e:=ty91) rfl hn9.At rfl rfl rfl Oj fun w10 h12 ho10 => ?_
 have h12:At w10 b12 91 [Pj pw]:=h12;have hx810:Ext w8 w10:=ho10.ext hn9.ext (by rw[hn9.block];exact Zg _);have hx710:=hx8.trans hx810;have hx10:=hx7.trans hx710;have hFl:Xbh w10 b5 b6 b7 b9 b11 b12 p pw rb f person item:=⟨h5.ext hx710,h6.ext hx710,h7.ext hx710,h9.ext hx710,h11.ext hx710,h12,hr.ext hx10⟩;have hc10:=hc8.ext hx810;clear ho10 hn9 hx8 hx810 hx710 h5 h6 h7 h9 h11 h12 hc8 hx7 hr;refine Gg ?_;intro b14 w11 hn11;refine Gg ?_;refine Qc Qb (e:=ty134) rfl hn11.At rfl rfl rfl Oj fun w12 h14 ho12 => ?_
 have h14:At w12 b14 134 (arF b5 b6 b7 b9 b11 b12).toList:=h14;have hx12:Ext w10 w12:=ho12.ext hn11.ext (by rw[hn11.block];exact Zg _);clear ho12 hn11;refine Gg ?_;refine⟨(arF b5 b6 b7 b9 b11 b12).toList,⟨rfl,h14.all⟩,Gg ?_⟩;refine Qh Qb (fun(k:Nat) w'=>k<=6/\(∀ j<k,(Qt2 c z person item now)[j]? = some false)/\Ext w10 w') (fun k => [(32,.agg (arF b5 b6 b7 b9 b11 b12)),(33,Vj (k:Nat))]) (fun k=>6-k) 0 ⟨Zu _,fun j hj=>Om,hx12⟩ Rr ?_;clear h14 hx12;rintro k w13 ⟨hk,hn,hx13⟩;refine Gg ?_;constructor
 . intro hlt;have hlt:k<6:=(by have:(k:Int)<6:=Su hlt;omega)
   have hstep:∀ b:Bool,(Qt2 c z person item now)[k]? = some b->b=false->∀ j<k+1,(Qt2 c z person item now)[j]? = some false:=fun b hb hf j hj=>by
    by_cases e:j=k
    . subst e;rw[hb,hf]
    . exact hn j Om
   have hhit:∀ b:Bool,(Qt2 c z person item now)[k]? = some b->b=true->Qpl c z person item now=k+1:=fun b hb ht=>Xg3 hlt (by rw[hb,ht]) hn
   have hck:k=0\/k=1\/k=2\/k=3\/k=4\/k=5:=Om;rcases hck with rfl | rfl | rfl | rfl | rfl | rfl
   . refine Gg ?_;refine⟨_,Qb2 Tryz.underlying134 Tryz.isAgg35 Tryz.sizeOf35 hlt rfl,Gg ?_⟩;refine(Xcq (hFl.ext hx13)).mono ?_;rintro _ w14 ⟨rfl,hx14⟩;refine Gg ?_;have hbk:(Qt2 c z person item now)[0]? = some (!f.it.listed):=by rw[hwhy];rfl
     generalize (!f.it.listed)=b at hbk ⊢;constructor
     . intro hb;have hw:=hhit b hbk hb;refine Gg ?_;refine⟨1,wrap_eq rfl ⟨Om,Om⟩,Gg ?_⟩;exact⟨by rw[hw];rfl,hx10.trans (hx13.trans hx14)⟩
     . intro hb;refine Gg ?_;refine⟨((1:Nat):Int),wrap_succ Om,Gg ?_⟩;exact⟨1,Om,⟨Om,hstep b hbk hb,hx13.trans hx14⟩,Rr⟩
   . refine Gg ?_;refine⟨_,Qb2 Tryz.underlying134 Tryz.isAgg35 Tryz.sizeOf35 hlt rfl,Gg ?_⟩;refine(Xcr (hFl.ext hx13)).mono ?_;rintro _ w14 ⟨rfl,hx14⟩;refine Gg ?_;have hbk:(Qt2 c z person item now)[1]? = some (decide (f.it.stock=0)):=by rw[hwhy];rfl
     generalize (decide (f.it.stock=0))=b at hbk ⊢;constructor
     . intro hb;have hw:=hhit b hbk hb;refine Gg ?_;refine⟨2,wrap_eq rfl ⟨Om,Om⟩,Gg ?_⟩;exact⟨by rw[hw];rfl,hx10.trans (hx13.trans hx14)⟩
     . intro hb;refine Gg ?_;refine⟨((2:Nat):Int),wrap_succ Om,Gg ?_⟩;exact⟨2,Om,⟨Om,hstep b hbk hb,hx13.trans hx14⟩,Rr⟩
   . refine Gg ?_;refine⟨_,Qb2 Tryz.underlying134 Tryz.isAgg35 Tryz.sizeOf35 hlt rfl,Gg ?_⟩;refine(Xcp (hFl.ext hx13) (hc10.ext hx13) hrm Om).mono ?_;rintro _ w14 ⟨rfl,hx14⟩;refine Gg ?_;have hbk:(Qt2 c z person item now)[2]? = some (Q5w (Qi c.width z).rs person item||decide (f.it.maker∈Q5x (Qi c.width z).rs person)):=by rw[hwhy];rfl
     generalize (Q5w (Qi c.width z).rs person item||decide (f.it.maker∈Q5x (Qi c.width z).rs person))=b at hbk ⊢;constructor
     . intro hb;have hw:=hhit b hbk hb;refine Gg ?_;refine⟨3,wrap_eq rfl ⟨Om,Om⟩,Gg ?_⟩;exact⟨by rw[hw];rfl,hx10.trans (hx13.trans hx14)⟩
     . intro hb;refine Gg ?_;refine⟨((3:Nat):Int),wrap_succ Om,Gg ?_⟩;exact⟨3,Om,⟨Om,hstep b hbk hb,hx13.trans hx14⟩,Rr⟩
   . refine Gg ?_;refine⟨_,Qb2 Tryz.underlying134 Tryz.isAgg35 Tryz.sizeOf35 hlt rfl,Gg ?_⟩;refine(Xcs (hFl.ext hx13)).mono ?_;rintro _ w14 ⟨rfl,hx14⟩;refine Gg ?_;have hbk:(Qt2 c z person item now)[3]? = some (f.done):=by rw[hwhy];rfl
     generalize (f.done)=b at hbk ⊢;constructor
     . intro hb;have hw:=hhit b hbk hb;refine Gg ?_;refine⟨4,wrap_eq rfl ⟨Om,Om⟩,Gg ?_⟩;exact⟨by rw[hw];rfl,hx10.trans (hx13.trans hx14)⟩
     . intro hb;refine Gg ?_;refine⟨((4:Nat):Int),wrap_succ Om,Gg ?_⟩;exact⟨4,Om,⟨Om,hstep b hbk hb,hx13.trans hx14⟩,Rr⟩
   . refine Gg ?_;refine⟨_,Qb2 Tryz.underlying134 Tryz.isAgg35 Tryz.sizeOf35 hlt rfl,Gg ?_⟩;refine(Xct (hFl.ext hx13) ((Qjz (p:=p) hok).ext hW (hx10.trans hx13))).mono ?_;rintro _ w14 ⟨rfl,hx14⟩;refine Gg ?_;have hbk:(Qt2 c z person item now)[4]? = some (decide (f.fans<c.crowd)&&decide (c.span<f.age)):=by rw[hwhy];rfl
     generalize (decide (f.fans<c.crowd)&&decide (c.span<f.age))=b at hbk ⊢;constructor
     . intro hb;have hw:=hhit b hbk hb;refine Gg ?_;refine⟨5,wrap_eq rfl ⟨Om,Om⟩,Gg ?_⟩;exact⟨by rw[hw];rfl,hx10.trans (hx13.trans hx14)⟩
     . intro hb;refine Gg ?_;refine⟨((5:Nat):Int),wrap_succ Om,Gg ?_⟩;exact⟨5,Om,⟨Om,hstep b hbk hb,hx13.trans hx14⟩,Rr⟩
   . refine Gg ?_;refine⟨_,Qb2 Tryz.underlying134 Tryz.isAgg35 Tryz.sizeOf35 hlt rfl,Gg ?_⟩;refine(Xcu (hFl.ext hx13)).mono ?_;rintro _ w14 ⟨rfl,hx14⟩;refine Gg ?_;have hbk:(Qt2 c z person item now)[5]? = some (!decide (0<f.it.stock)):=by rw[hwhy];rfl
     generalize (!decide (0<f.it.stock))=b at hbk ⊢;constructor
     . intro hb;have hw:=hhit b hbk hb;refine Gg ?_;refine⟨6,wrap_eq rfl ⟨Om,Om⟩,Gg ?_⟩;exact⟨by rw[hw];rfl,hx10.trans (hx13.trans hx14)⟩
     . intro hb;refine Gg ?_;refine⟨((6:Nat):Int),wrap_succ Om,Gg ?_⟩;exact⟨6,Om,⟨Om,hstep b hbk hb,hx13.trans hx14⟩,Rr⟩
 intro hge;have hge:k=6:=(by have:¬ (k:Int)<6:=Su hge;omega);subst hge;have hw:=Xd5 hn;refine Gg ?_;exact⟨by rw[hw];rfl,hx10.trans hx13⟩
section
variable {c:Cfg} {every seed:Int} {b:Nat} {w:World}
theorem Xai (h:At w b 32 (Qap c (Qaq 6) every seed)):Xp w ⟨b,0,none⟩ (Qrp c):=At.sub (pre := []) (post:=(Qap c (Qaq 6) every seed).drop 6) h
theorem Qtk (h:At w b 32 (Qap c (Qaq 6) every seed)):Xp w ((⟨b,0,none⟩:Addr).add 6) (wsC (Qaq 6)):=At.sub (pre:=(Qap c (Qaq 6) every seed).take 6) (post:=(Qap c (Qaq 6) every seed).drop 12) h
theorem Q1q (h:At w b 32 (Qap c (Qaq 6) every seed)):Xp w ((⟨b,0,none⟩:Addr).add 12) [Vj 4,Vj 2,Vj 3]:=At.sub (pre:=(Qap c (Qaq 6) every seed).take 12) (post:=(Qap c (Qaq 6) every seed).drop 15) h
end
def Xby (c:Cfg) (z:List Ev) (a:Nat->Int) (person:Bj) (now:Int) (l:List Bj):List Ch:=(l.filter fun x=>decide (Qpl c z person x now=0)).map (chF c z a person now)
theorem Q0g (c:Cfg) (z:List Ev) (a:Nat->Int) (person:Bj) (now:Int) (l:List Bj) (k:Nat) (h:k<l.length):Xby c z a person now (l.take (k+1))=Xby c z a person now (l.take k)++if Qpl c z person l[k] now=0 then [chF c z a person now l[k]] else []:=by
 unfold Xby;rw[Za h,Zq,Zp];congr 1
 by_cases hq:Qpl c z person l[k] now=0
 . rw[if_pos hq];simp[hq]
 . rw[if_neg hq];simp[hq]
theorem Q6t (c:Cfg) (z:List Ev) (a:Nat->Int) (person:Bj) (now:Int) (l:List Bj):(Xby c z a person now l).length<=l.length:=by
 unfold Xby;rw[Zf];exact Zc _ _
set_option maxHeartbeats 8000000 in
theorem Qui {w:World} {T:Nat->Prop} {p:Nat} {c:Cfg} {z:List Ev} (hW:WT w T p c z) (hok:Qm7 c z) (hg:Gl w) (hT:∀ k,T k->10<=k) (every seed:Int) (person:Bj) (now:Int) :
 Cal Tryz.prog 29 [Pj p,.agg (Qap c (Qaq 6) every seed).toArray,.string person,Vj now] w fun r w'=>∃ A cp T',r = .slice A (Qtx c z (Qaq 6) person now 5).length cp/\Own chC 4 68 w.heap.size w' A cp (Qtx c z (Qaq 6) person now 5)/\(∀ x,A=some x->¬ T' x.block)/\WT w' T' p c z/\(∀ k,T' k->T k\/w.heap.size<=k)/\Mod T w w':=by
 have hTl:=hW.lt;have hsz:=hg.size;have hP:=Qjz (p:=p) hok;obtain⟨v0,T00,hQ0,_⟩:=id hW;have hm:=hQ0.may;refine Fi Tryz.func29 rfl _ rfl rfl (Hh ?_);intro b1 w1 hn1;have h1:At w1 b1 32 (Qap c (Qaq 6) every seed):=hn1.At;have hx1:=hn1.ext;have e1:=hn1.block;have s1:=hn1.size;clear hn1;refine Gg ?_;refine⟨_,h1.one rfl,Gg ?_⟩;refine(Qit w1 (hg.ext hx1)).mono ?_;rintro _ w2 ⟨⟨rb,rfl,hr2,hrb⟩,hx2⟩;replace h1:=h1.ext hx2;replace hx1:=hx1.trans hx2;have z2:=hx1.size;have l1:=h1.lt;have lr:=hr2.lt;clear hx2;refine Gg ?_;refine⟨_,h1.one rfl,Gg ?_⟩;have hW2:=hP.ext hW hx1;refine(Qu4 hP hW2 hok (Qz5 c z hm hok.len).len person now 5 (by decide)).mono ?_;rintro _ w3 ⟨A,cp,H,T',rfl,hF,hW3,hT3,hM3⟩;have hkeys:=hF.keys;have hfew:=Qja (c:=c) hm person now 5;have hHl:H.length=(Qgd c z person now 5).length:=by rw[<- hkeys,Zf]
 have hzl:=hok.len;have hsH:=hF.sl;have hnewH:=hF.new
 have hb1:¬ T' b1:=fun h=>by
  rcases hT3 _ h with q | q
  . have:=hTl _ q;omega
  . omega
 have hrbT:¬ T' rb:=fun h=>by
  rcases hT3 _ h with q | q
  . have:=hTl _ q;omega
  . omega
 have h13:At w3 b1 _ _:=(hM3.block b1 l1 (fun h=>by have:=hTl _ h;omega)).trans h1;have hr3:At w3 rb _ _:=(hM3.block rb lr (fun h=>by have:=hTl _ h;omega)).trans hr2;have hM03:Mod T w w3:=(Mod.of_ext hx1).trans hM3;have hT03:∀ k,T' k->T k\/w.heap.size<=k:=fun k hk=>(hT3 k hk).imp id fun h=>Om
 have z3:=hM3.size;have hcho:Qtx c z (Qaq 6) person now 5=Xby c z (Qaq 6) person now (H.map (·.1)):=by rw[hkeys];rfl
 rw[hcho];have hHz:H.length<1000:=Om;clear hF hkeys h1 hr2 hM3 hT3 hcho hfew hQ0 hW2;refine Gg ?_
 refine Qh Qb (fun(q:Nat×(Option Addr×Nat×List Ch)×(Nat->Prop)) w'=>q.1<=H.length/\q.2.1.2.2=Xby c z (Qaq 6) person now ((H.map (·.1)).take q.1)/\WT w' q.2.2 p c z/\(∀ i,q.2.2 i->T' i\/w3.heap.size<=i)/\Own chC 4 68 w3.heap.size w' q.2.1.1 q.2.1.2.1 q.2.1.2.2/\(∀ a,q.2.1.1=some a->¬ q.2.2 a.block)/\Mod T' w3 w')
  (fun | (k,(B,d,L),_) => [(0,Pj p),(2,.string person),(3,Vj now),(5,Pj b1),(9,Pj rb),(12,.slice B L.length d),(31,.slice A H.length cp),(32,Vj H.length),(33,Vj (k:Nat))]) (fun q=>H.length-q.1) (0,(none,0,[]),T') ⟨Zu _,rfl,hW3,fun i hi => .inl hi,Own.nil,(fun a ha=>by cases ha),Mod.refl _ _⟩ Rr ?_
 have hTl3:=hW3.lt;have l13:=h13.lt;have lr3:=hr3.lt;clear hW3;rintro ⟨k,⟨B,d,L⟩,T2⟩ w4 ⟨hk,hL,hW4,hT2,hoL,hBT,hM4⟩;simp only at hk hL hW4 hT2 hoL hBT;have z4:=hM4.size;have hLl:L.length<=k:=(by rw[hL];refine Zv (Q6t _ _ _ _ _ _) ?_;rw[Zn];omega);refine Gg ?_;constructor
 . intro hlt;have hlt:k<H.length:=Su hlt;have hs4:Sl cdC 2 w4 A H:=Xdb.stay hsH fun a ha hl=>hM4.block _ hl (hnewH a ha).2
   obtain⟨a,rfl,hc⟩:=hs4.get hlt;have hstep:=Q0g c z (Qaq 6) person now (H.map (·.1)) k (by rw[Zf];exact hlt);rw[<- hL,List.getElem_map] at hstep;generalize H[k]=y at hc hstep;obtain⟨x,yr⟩:=y;simp only at hstep;have h14:At w4 b1 _ _:=(hM4.block b1 l13 hb1).trans h13;have hr4:At w4 rb _ _:=(hM4.block rb lr3 hrbT).trans hr3
   have hg4:Gl w4:=(hg.mod hM03 hT).mod hM4 fun i hi=>by
    rcases hT03 i hi with q | q
    . exact hT i q
    . omega
   refine Gg ?_;refine⟨a,Ix,Gg ?_⟩;refine⟨cdC (x,yr),⟨rfl,hc⟩,Gg ?_⟩;intro b14 w5 hn5;refine Gg ?_;refine Qc Qb (e:=ty55) rfl hn5.At rfl rfl rfl (by simp[Qg,cdC,Value.oneCell']) fun w6 h6 ho6 => ?_
   have h6:At w6 b14 55 (cdC (x,yr)):=h6;have hx46:Ext w4 w6:=ho6.ext hn5.ext (by rw[hn5.block];exact Zg _);have e14:=hn5.block;clear ho6 hn5;refine Gg ?_;refine⟨.string x,h6.one rfl,Gg ?_⟩;refine(Qr8 (hP.ext hW4 hx46) hok (hr4.ext hx46) person x now).mono ?_;rintro _ w7 ⟨rfl,hx7⟩;have hx47:=hx46.trans hx7;have h67:=h6.ext hx7;have h17:=h14.ext hx47;have hW7:=hP.ext hW4 hx47;have hoL7:=hoL.ext hx47;have hg7:=hg4.ext hx47;have hM7:Mod T' w3 w7:=hM4.trans (Mod.of_ext hx47);have z7:=hx47.size;have hl4:=hW4.lt;clear hx46 hx7 h6 h14 hr4 hg4;refine Gg ?_;constructor
   . intro hq;have hq:¬ Qpl c z person x now=0:=(by have:¬ ((Qpl c z person x now:Nat):Int)=0:=Su hq;omega);rw[if_neg hq,Zw] at hstep;refine Gg ?_;refine⟨_,wrap_succ Om,Gg ?_⟩;exact⟨(k+1,(B,d,L),T2),Sj,⟨Sj,hstep.symm,hW7,hT2,hoL7,hBT,hM7⟩,Rr⟩
   intro hq;have hq:Qpl c z person x now=0:=(by have:((Qpl c z person x now:Nat):Int)=0:=Su hq;omega);rw[if_pos hq] at hstep;refine Gg ?_;have hQ7:∃ v T7,WQ w7 T7 p c z v:=hP.wq hW7;obtain⟨v7,T7,hQ7⟩:=hQ7;refine Qiy (ι:=Nat) (fun b15 => [(0,Pj p),(2,.string person),(3,Vj now),(5,Pj b1),(9,Pj rb),(12,.slice B L.length d),(14,Pj b14),(15,Pj b15),(31,.slice (some a) H.length cp),(32,Vj H.length),(33,Vj (k:Nat))]) (fun b15 w'=>Ext w7 w'/\At w' b15 59 (itC (Qbr z x now))/\w7.heap.size<=b15) ?_ ?_
   . refine Qfr (.mods (fun k=>w7.heap.size<=k)) (Pl.seq [0,2,3,4] (Pl.two 1 (Pl.seq [] (Pl.two 5 (Pl.seq [6,7,8,9,10,11] Pl.done) 9 (Pl.seq [5,6,7,8,10,11] Pl.done))) 9 (Pl.seq [1,5,6,7,8,10,11] Pl.done))) (by intro h;cases h) Qb mixed Kr (Hh ?_);have l67:=h67.lt;have hx8:Ext w7 w7.drew:=(Ext.refl w7).drew;have h68:=h67.ext hx8;have hQ8:=hQ7.ext hx8;generalize w7.drew=w8 at hx8 h68 hQ8 ⊢;refine⟨.string x,⟨h68.one rfl,by rw[add_block];show ¬ (w7.heap.size<=b14);omega⟩,Hh ?_⟩;refine⟨?_,?_⟩
     . refine(Xh (hQ8)).mono ?_;rintro _ wc ⟨pc,Sc,rfl,hcat,hxc⟩;refine⟨Mod.of_ext hxc,Hh ?_⟩;refine⟨?_,?_⟩
       . refine(Q7 _ _ pc _ hcat x now hQ8.rows).mono ?_;rintro _ wa ⟨rfl,hxa⟩;refine⟨Mod.of_ext hxa,Hh ?_⟩;intro b15 wn hnn;have e15:=hnn.block;refine⟨Mod.of_ext hnn.ext,Hh ?_⟩;refine Qc Qb (e:=ty59) rfl (hnn.At) rfl rfl rfl (by simp[Qg,itC,Value.oneCell']) fun wz hz hoz => ?_
         have hz:At wz b15 59 (itC (Qbr z x now)):=hz;have z8:=hx8.size;have zc:=hxc.size;have za:=hxa.size;refine⟨Qj hoz (by show w7.heap.size<=b15;omega),Hh ?_⟩;exact⟨b15,⟨hoz.ext ((hx8.trans hxc).trans (hxa.trans hnn.ext)) Om,hz,Om⟩,Rr⟩
       . intro b15 wn hnn;have e15:=hnn.block;refine⟨Mod.of_ext hnn.ext,Hh ?_⟩;replace hcat:=hcat.ext hnn.ext;refine(Q7 _ _ pc _ hcat x now hQ8.rows).mono ?_;rintro _ wa ⟨rfl,hxa⟩;refine⟨Mod.of_ext hxa,Hh ?_⟩;refine Qc Qb (e:=ty59) rfl (hnn.At.ext hxa) rfl rfl rfl (by simp[Qg,itC,Value.oneCell']) fun wz hz hoz => ?_
         have hz:At wz b15 59 (itC (Qbr z x now)):=hz;have z8:=hx8.size;have zc:=hxc.size;refine⟨Qj hoz (by show w7.heap.size<=b15;omega),Hh ?_⟩;exact⟨b15,⟨hoz.ext ((hx8.trans hxc).trans (hnn.ext.trans hxa)) Om,hz,Om⟩,Rr⟩
     . intro b15 wn hnn;have e15:=hnn.block;refine⟨Mod.of_ext hnn.ext,Hh ?_⟩;refine(Xh (hQ8.ext hnn.ext)).mono ?_;rintro _ wc ⟨pc,Sc,rfl,hcat,hxc⟩;refine⟨Mod.of_ext hxc,Hh ?_⟩;refine(Q7 _ _ pc _ hcat x now hQ8.rows).mono ?_;rintro _ wa ⟨rfl,hxa⟩;refine⟨Mod.of_ext hxa,Hh ?_⟩;refine Qc Qb (e:=ty59) rfl ((hnn.At.ext hxc).ext hxa) rfl rfl rfl (by simp[Qg,itC,Value.oneCell']) fun wz hz hoz => ?_
       have hz:At wz b15 59 (itC (Qbr z x now)):=hz;have z8:=hx8.size;refine⟨Qj hoz (by show w7.heap.size<=b15;omega),Hh ?_⟩;exact⟨b15,⟨hoz.ext (hx8.trans ((hnn.ext.trans hxc).trans hxa)) Om,hz,Om⟩,Rr⟩
   rintro b15 w9 ⟨hx9,h15,hb15⟩;have h69:=h67.ext hx9;have h19:=h17.ext hx9;have hW9:=hP.ext hW7 hx9;have hoL9:=hoL7.ext hx9;have hg9:=hg7.ext hx9;have hM9:Mod T' w3 w9:=hM7.trans (Mod.of_ext hx9);have z9:=hx9.size;clear h67 h17 hW7 hoL7 hg7 hM7 hx9 hQ7;refine Gg ?_;refine⟨wsC (Qaq 6),⟨rfl,Qtk h19⟩,Gg ?_⟩;refine⟨.string x,h69.one rfl,Gg ?_⟩
   refine(Qo0 hW9 hok hg9 (fun i hi=>by
    rcases hT2 i hi with q | q
    . rcases hT03 i q with q | q
      . exact hT i q
      . omega
    . omega) (Qaq 6) person x now).mono ?_
   rintro _ w10 ⟨A10,c10,T3,rfl,_,hW10,hT10,_,hM10⟩;have z10:=hM10.size;have h610:At w10 b14 _ _:=(hM10.block b14 h69.lt (fun h=>by have:=hl4 _ h;omega)).trans h69;have h1510:At w10 b15 _ _:=(hM10.block b15 h15.lt (fun h=>by have:=hl4 _ h;omega)).trans h15;have hoL10:Own chC 4 68 w3.heap.size w10 B d L:=hoL9.keep fun b hb=>hM10.block _ (hoL9.block hb).2 (hBT b hb)
   have hM310:Mod T' w3 w10:=Qn hM9 (hM10.mono fun i _ hi=>(hT2 i hi).elim .inl .inr)
   have hT310:∀ i,T3 i->T' i\/w3.heap.size<=i:=fun i hi=>by
    rcases hT10 i hi with q | q
    . exact hT2 i q
    . exact .inr Om
   have hBT10:∀ b,B=some b->¬ T3 b.block:=fun b hb h=>by
    rcases hT10 _ h with q | q
    . exact hBT b hb q
    . have:=(hoL9.block hb).2;omega
   clear hM10 h69 h15 hoL9 hM9 h19;refine Gg ?_;refine⟨.string x,h610.one rfl,Gg ?_⟩;refine⟨.string (Qbr z x now).maker,h1510.one rfl,Gg ?_⟩;refine⟨.string (Qbr z x now).tags,h1510.one rfl,Gg ?_⟩;intro b20 w11 hn11;refine Gg ?_;have z11:=hn11.ext.size;refine Qq Qgz (l:=L) (news := [chF c z (Qaq 6) person now x]) rfl (hoL10.ext hn11.ext) rfl (Qgz.new1 (x:=chF c z (Qaq 6) person now x) hn11) (by simp;omega) Om fun A12 c12 w12 hown12 hg12 hA12 => ?_
   have hr12:∀ i,B.map (·.block)=some i->w3.heap.size<=i:=Xq hoL10;have hl10:=hW10.lt
   have hk12:∀ i,T3 i->w12.heap[i]? = w10.heap[i]? := fun i hi=>by
    have:=hl10 i hi;rw[hg12.block i Om fun e => ?_]
    . exact hn11.ext.block i Om
    . cases hq:B with
      | none=>rw[hq] at e;simp at e
      | some b=>rw[hq] at e;simp at e;exact hBT10 b hq (e ▸ hi)
   have hW12:=hW10.keep hk12
   have hB12:∀ b,A12=some b->¬ T3 b.block:=fun b hb h=>by
    subst hb;rcases hA12 with q | q | q
    . exact hBT10 b q.symm h
    . cases hq:B with
      | none=>rw[hq] at q;simp at q
      | some b0=>rw[hq] at q;simp at q;rw[q] at h;exact hBT10 b0 hq h
    . simp at q;have:=hl10 _ h;have:=hn11.size;omega
   have hM312:Mod T' w3 w12:=Qn (hM310.trans (Mod.of_ext hn11.ext)) (Xx hg12 fun i hi => .inr (hr12 i hi));generalize hL2:L ++ [chF c z (Qaq 6) person now x]=L2 at hown12 hstep ⊢;clear hg12 hA12 hn11 hk12;refine Gg ?_;refine⟨_,wrap_succ Om,Gg ?_⟩;exact⟨(k+1,(A12,c12,L2),T3),Sj,⟨Sj,hstep.symm,hW12,hT310,hown12,hB12,hM312⟩,Rr⟩
 intro hge;have hge:k=H.length:=(by have:H.length<=k:=Su hge;omega);subst hge;rw[Zb (by rw[Zf];exact Zg _)] at hL;refine Gg ?_;rw[<- hL];refine⟨B,d,T2,rfl,hoL.base Om,hBT,hW4,fun i hi => ?_,Qn hM03 (hM4.mono fun i _ hi=>(hT03 i hi).elim .inl .inr)⟩;rcases hT2 i hi with q | q
 . exact hT03 i q
 . exact .inr Om
def Xfb:Caps:=⟨4,2,3⟩
def Qde (c:Cfg) (z:List Ev) (person:Bj) (now:Int):List Bj:=(Qf1 Xfb (Qtx c z (Qaq 6) person now 5)).map (·.item)
def Q8y (c:Cfg) (z:List Ev) (person:Bj) (now:Int):List Bj:=((Qtx c z (Qaq 6) person now 5).map (·.item)).filter fun x=>decide (x∉Qde c z person now)
def Q4g (c:Cfg) (z:List Ev) (every seed:Int) (person:Bj) (now:Int):List Bj :=
 if 0<every then Xg9 (hash seed [person,Qr1 now.toNat]) (Qde c z person now) (Q8y c z person now) every else Qde c z person now
structure RE where
 (item:Bj) (A1:Option Addr) (c1:Nat) (tot:Int) (A2:Option Addr) (n2 c2:Nat) (fans:Int)
def reC (r:RE):List Value:=rsC r.item r.A1 6 r.c1 r.tot r.A2 r.n2 r.c2 r.fans
theorem Q9c (r:RE):(reC r).length=5:=rfl
theorem Xga (r:RE):∀ u∈reC r,u.oneCell'=true:=by
 intro u hu;simp only[reC,rsC,Zr,List.not_mem_nil,or_false] at hu;rcases hu with rfl | rfl | rfl | rfl | rfl <;> rfl
theorem Xdd:Ql9 Tryz.prog 45 72 reC 5 80:=⟨by kernel_rfl,⟨_,ty72_ok,rfl,rfl⟩,by kernel_rfl,by decide,by decide,Q9c,Xga⟩
def boE (b:Bool):List Value := [.bool b]
theorem Q6m (b:Bool):(boE b).length=1:=rfl
theorem Xe9 (b:Bool):∀ u∈boE b,u.oneCell'=true:=by
 intro u hu;obtain rfl:u = .bool b:=by simpa [boE] using hu
 rfl
theorem Q9o:Ql9 Tryz.prog 46 4 boE 1 1:=⟨by kernel_rfl,⟨_,ty4_ok,rfl,rfl⟩,by kernel_rfl,by decide,by decide,Q6m,Xe9⟩
structure Xg7 (c:Cfg) (z:List Ev) (person:Bj) (now:Int) (lo:Nat) (w:World) (N:Nat->Prop) (item:Bj) (r:RE):Prop where
 itm:r.item=item
 tot:r.tot=Qmi (Qlt (Qs6 c z person item now) (Qaq 6) 6)
 fans:r.fans=Qpt c z item
 len:r.n2=(Qvt c z person item now).length
 pts:Sl ptC 3 w r.A1 (Qlt (Qs6 c z person item now) (Qaq 6) 6)
 evs:Sl evC 8 w r.A2 (Qvt c z person item now)
 blk:∀ a,r.A1=some a\/r.A2=some a->lo<=a.block/\a.block<w.heap.size/\¬ N a.block
theorem Xg7.keep {c:Cfg} {z:List Ev} {person item:Bj} {now:Int} {lo:Nat} {w w':World} {N N':Nat->Prop} {r:RE} (h:Xg7 c z person now lo w N item r) (hs:w.heap.size<=w'.heap.size) (hk:∀ k,lo<=k->k<w.heap.size->¬ N k->w'.heap[k]? = w.heap[k]?) (hN:∀ k,lo<=k->k<w.heap.size->¬ N k->¬ N' k):Xg7 c z person now lo w' N' item r where
 itm:=h.itm
 tot:=h.tot
 fans:=h.fans
 len:=h.len
 pts:=Q4n.stay h.pts fun a ha hl=>by
  obtain⟨q1,q2,q3⟩:=h.blk a (.inl ha);exact hk _ q1 q2 q3
 evs:=Qk2.stay h.evs fun a ha hl=>by
  obtain⟨q1,q2,q3⟩:=h.blk a (.inr ha);exact hk _ q1 q2 q3
 blk:=fun a ha=>by
  obtain⟨q1,q2,q3⟩:=h.blk a ha;exact⟨q1,Om,hN _ q1 q2 q3⟩
def AvN (A B:Option Addr) (T:Nat->Prop) (k:Nat):Prop:=T k\/A.map (·.block)=some k\/B.map (·.block)=some k
def RsL (c:Cfg) (z:List Ev) (person:Bj) (now:Int) (lo:Nat) (w:World) (N:Nat->Prop) (I:List Bj) (X:List RE):Prop:=∀ (i:Nat) (r:RE),X[i]? = some r->∃ x,I[i]? = some x/\Xg7 c z person now lo w N x r
theorem RsL.keep {c:Cfg} {z:List Ev} {person:Bj} {now:Int} {lo:Nat} {w w':World} {N N':Nat->Prop} {I:List Bj} {X:List RE} (h:RsL c z person now lo w N I X) (hs:w.heap.size<=w'.heap.size) (hk:∀ k,lo<=k->k<w.heap.size->¬ N k->w'.heap[k]? = w.heap[k]?) (hN:∀ k,lo<=k->k<w.heap.size->¬ N k->¬ N' k):RsL c z person now lo w' N' I X:=fun i r hi=>by
 obtain⟨x,hx,ho⟩:=h i r hi;exact⟨x,hx,ho.keep hs hk hN⟩
theorem RsL.weak {c:Cfg} {z:List Ev} {person:Bj} {now:Int} {lo lo':Nat} {w:World} {N N':Nat->Prop} {I:List Bj} {X:List RE} (h:RsL c z person now lo w N I X) (hl:lo'<=lo) (hN:∀ g,N' g->N g):RsL c z person now lo' w N' I X:=fun i r hi=>by
 obtain⟨x,hx,ho⟩:=h i r hi
 exact⟨x,hx,ho.itm,ho.tot,ho.fans,ho.len,ho.pts,ho.evs,fun a ha=>by
  obtain⟨q1,q2,q3⟩:=ho.blk a ha;exact⟨Om,q2,fun h=>q3 (hN _ h)⟩⟩
theorem RsL.snoc {c:Cfg} {z:List Ev} {person:Bj} {now:Int} {lo:Nat} {w:World} {N:Nat->Prop} {I:List Bj} {X:List RE} (h:RsL c z person now lo w N I X) {x:Bj} {r:RE} (hx:I[X.length]? = some x) (hr:Xg7 c z person now lo w N x r):RsL c z person now lo w N I (X ++ [r]):=fun i r' hi=>by
 rcases Nat.lt_trichotomy i X.length with q | q | q
 . rw[Zz q] at hi;exact h i r' hi
 . subst q;rw[List.getElem?_concat_length] at hi;obtain rfl:r=r':=Su hi;exact⟨x,hx,hr⟩
 . rw[Zcu (by simp;omega)] at hi;cases hi
set_option maxHeartbeats 4000000 in
theorem Qlw {w:World} {T:Nat->Prop} {p:Nat} {c:Cfg} {z:List Ev} (hW:WT w T p c z) (hok:Qm7 c z) (hg:Gl w) (hT:∀ k,T k->10<=k) (every seed:Int) (he:0<=every/\every<=3) (person:Bj) (hp:Qr person=true) (now:Int) (hn:0<=now/\now<=1099511627776) :
 Cal Tryz.prog 10 [Pj p,.agg (Qap c (Qaq 6) every seed).toArray,.string person,Vj now] w fun r w'=>∃ A q AX cX X AY cY T',r = .agg #[.slice A (Q4g c z every seed person now).length q,.slice AX (Q4g c z every seed person now).length cX,.slice AY (Q4g c z every seed person now).length cY,Vj 0]/\Own Qab 1 9 w.heap.size w' A q (Q4g c z every seed person now)/\Own reC 5 72 w.heap.size w' AX cX X/\X.length=(Q4g c z every seed person now).length/\Own boE 1 4 w.heap.size w' AY cY ((Q4g c z every seed person now).map fun x=>decide (x∉Qde c z person now))/\RsL c z person now w.heap.size w' T' (Q4g c z every seed person now) X/\(∀ a,A=some a->¬ T' a.block)/\(∀ a,AX=some a->¬ T' a.block)/\(∀ a,AY=some a->¬ T' a.block)/\WT w' T' p c z/\(∀ k,T' k->T k\/w.heap.size<=k)/\Mod T w w':=by
 have hTl:=hW.lt;have hsz:=hg.size;refine Fi Tryz.func10 rfl _ rfl rfl (Hh ?_);intro b1 w1 hn1;have h1:At w1 b1 32 (Qap c (Qaq 6) every seed):=hn1.At;have e1:=hn1.block;have s1:=hn1.size;refine Gg ?_;intro b2 w2 hn2;have h2:At w2 b2 48 Xhk:=hn2.At;have e2:=hn2.block;have s2:=hn2.size;replace h1:=h1.ext hn2.ext;have hx:=hn1.ext.trans hn2.ext;clear hn1 hn2;refine Gg ?_;refine⟨Qap c (Qaq 6) every seed,⟨rfl,h1.all⟩,Gg ?_⟩;refine(Q66 c hok.cfg every seed he w2 (hg.ext hx)).mono ?_;rintro _ w3 ⟨rfl,hx3⟩;refine Gg ?_;refine⟨Unit,fun _=>(.bool true),fun _ w'=>Ext w3 w',(),fun hg=>((Qxu person hp w3)).mono fun r w' h=>⟨(),h.1,h.2⟩,?_⟩;intro _ w4 h2
 have hx4:Ext w3 w4:=by
  rcases h2 with⟨_,h⟩ | ⟨_,h⟩
  . exact h
  . rw[h];exact Ext.refl _
 clear h2;refine Hh ?_;have hx34:=hx3.trans hx4;replace h1:=h1.ext hx34;replace h2:=h2.ext hx34;replace hx:=hx.trans hx34;clear hx3 hx4 hx34;constructor
 . intro h;have:now<0\/1099511627776<now:=Su h;omega
 intro _;refine Gg ?_;refine⟨Qap c (Qaq 6) every seed,⟨rfl,h1.all⟩,Gg ?_⟩;have hW4:=(Qjz (p:=p) hok).ext hW hx;have z4:=hx.size;have l1:=h1.lt;have l2:=h2.lt;refine(Qui hW4 hok (hg.ext hx) hT every seed person now).mono ?_;rintro _ w5 ⟨A5,c5,T5,rfl,ho5,hA5,hW5,hT5,hM5⟩;have hb1:¬ T b1:=fun h=>by have:=hTl _ h;omega
 have hb2:¬ T b2:=fun h=>by have:=hTl _ h;omega
 replace h1:At w5 b1 _ _:=(hM5.block b1 h1.lt hb1).trans h1;replace h2:At w5 b2 _ _:=(hM5.block b2 h2.lt hb2).trans h2;have hM:Mod T w w5:=(Mod.of_ext hx).trans hM5;have hg5:Gl w5:=hg.mod hM hT;have hpl:=Qds hp;have hT0:∀ k,T5 k->T k\/w.heap.size<=k:=fun k hk=>(hT5 k hk).imp id fun h=>Om
 have h51:¬ T5 b1:=fun h=>by
  rcases hT5 _ h with q | q
  . exact hb1 q
  . omega
 have h52:¬ T5 b2:=fun h=>by
  rcases hT5 _ h with q | q
  . exact hb2 q
  . omega
 have z5:=hM.size;have z45:=hM5.size;have h15a:=h1;have h25a:=h2;refine Gg ?_;refine⟨[Vj 4,Vj 2,Vj 3],⟨rfl,Q1q h1⟩,Gg ?_⟩;obtain⟨v00,T00,hQ0,_⟩:=id hW;have hmay:=hQ0.may;clear hQ0;have hcl:(Qtx c z (Qaq 6) person now 5).length<1000:=(by refine Zb0 ?_ hok.len;refine Zv ?_ (Qja (c:=c) hmay person now 5);unfold Qtx;rw[Zf];exact Zc _ _);have hct:∀ x∈Qtx c z (Qaq 6) person now 5,x.tags.size<1000:=fun x hx=>(by obtain⟨i,_,rfl⟩:=Zh.1 hx;exact Qfm _ (fun e he=>hmay e (Ze.1 he).1) _ _)
 have hcn:∀ x∈Qtx c z (Qaq 6) person now 5,x.item.size<1000000:=fun x hx=>by
  obtain⟨i,hi,rfl⟩:=Zh.1 hx;have:=Qds (Qng hmay (Ze.1 hi).1).1;show i.size<1000000
  omega
 unfold Q4g Q8y Qde;generalize Qtx c z (Qaq 6) person now 5=L at ho5 hcl hct hcn ⊢;refine(Qvl Xfb L A5 c5 w5 hg5 (ho5.sl Qge) hcl hct).mono ?_;rintro _ w6 ⟨A6,c6,rfl,ho6,hx6⟩;generalize hM':Qf1 Xfb L=M at ho6 ⊢;have hml:M.length<=L.length:=by rw[<- hM'];exact Qoz _ _
 have z6:=hx6.size;have hsM:=ho6.sl Qge;refine Gg ?_
 refine Qh Qb (fun(q:Nat×(Option Addr×Nat×List Bj)) w'=>q.1<=M.length/\q.2.2.2=(M.take q.1).map (·.item)/\Own Qab 1 9 w6.heap.size w' q.2.1 q.2.2.1 q.2.2.2/\Ext w6 w')
  (fun | (k,(B,d,R)) => [(0,Pj p),(2,.string person),(3,Vj now),(5,Pj b1),(8,Pj b2),(9,.slice A5 L.length c5),(10,.slice B R.length d),(11,.slice none 0 0),(44,.slice A6 M.length c6),(45,Vj M.length),(46,Vj (k:Nat))]) (fun q=>M.length-q.1) (0,(none,0,[])) ⟨Zu _,rfl,Own.nil,Ext.refl _⟩ Rr ?_
 rintro ⟨k,⟨B,d,R⟩⟩ w7 ⟨hk,hR,hoB,hx7⟩;simp only at hk hR hoB;have hRl:R.length<=k:=by rw[hR,Zf,Zn];omega
 refine Gg ?_;constructor
 . intro hlt;have hlt:k<M.length:=Su hlt;have hs7:Sl chC 4 w7 A6 M:=Qgz.stay hsM fun a ha hl=>hx7.block _ hl
   obtain⟨a,rfl,hc⟩:=hs7.get hlt;have hstep:(M.take (k+1)).map (·.item)=R ++ [M[k].item]:=by rw[hR,Za hlt,Zp];rfl
   generalize M[k]=y at hc hstep;refine Gg ?_;refine⟨a,Ix,Gg ?_⟩;refine⟨chC y,⟨rfl,hc⟩,Gg ?_⟩;intro b13 w8 hn8;refine Gg ?_;have e13:=hn8.block;refine Qc Qb (e:=ty68) rfl hn8.At rfl rfl rfl (by simp[Qg,chC,Value.oneCell']) fun w9 h9 ho9 => ?_
   have h9:At w9 b13 68 (chC y):=h9;have hx79:Ext w7 w9:=ho9.ext hn8.ext Om;clear ho9 hn8;refine Gg ?_;refine⟨.string y.item,h9.one rfl,Gg ?_⟩;intro b14 w10 hn10;refine Gg ?_;have z10:=hn10.ext.size;have z7:=hx7.size;have z79:=hx79.size;refine Qq X7 (l:=R) (news := [y.item]) rfl ((hoB.ext hx79).ext hn10.ext) rfl (X7.new1 (x:=y.item) hn10) (by simp;omega) Om fun A12 c12 w12 hown12 hg12 hA12 => ?_
   have hx12:Ext w6 w12:=Qu (hx7.trans (hx79.trans hn10.ext)) hg12 (Xq hoB);generalize hR2:R ++ [y.item]=R2 at hown12 hstep ⊢;clear hg12 hA12 hn10;refine Gg ?_;refine⟨_,wrap_succ Om,Gg ?_⟩;exact⟨(k+1,(A12,c12,R2)),Sj,⟨Sj,hstep.symm,hown12,hx12⟩,Rr⟩
 intro hge;have hge:k=M.length:=(by have:M.length<=k:=Su hge;omega);subst hge;rw[Zb (Zg _)] at hR;rw[<- hR];refine Gg ?_;have z7:=hx7.size;have hsL:=ho5.sl Qge;have hx57:=hx6.trans hx7
 refine Qh Qb (fun(q:Nat×(Option Addr×Nat×List Bj)) w'=>q.1<=L.length/\q.2.2.2=((L.take q.1).map (·.item)).filter (fun x=>decide (x∉R))/\Own Qab 1 9 w7.heap.size w' q.2.1 q.2.2.1 q.2.2.2/\Ext w7 w')
  (fun | (k,(C,e,O)) => [(0,Pj p),(2,.string person),(3,Vj now),(5,Pj b1),(8,Pj b2),(10,.slice B R.length d),(11,.slice C O.length e),(56,.slice A5 L.length c5),(57,Vj L.length),(58,Vj (k:Nat))]) (fun q=>L.length-q.1) (0,(none,0,[])) ⟨Zu _,rfl,Own.nil,Ext.refl _⟩ Rr ?_
 rintro ⟨k,⟨C,e,O⟩⟩ w8 ⟨hk2,hO,hoC,hx8⟩;simp only at hk2 hO hoC;have hOl:O.length<=k:=(by rw[hO];refine Zv (Zc _ _) ?_;rw[Zf,Zn];omega);refine Gg ?_;constructor
 . intro hlt;have hlt:k<L.length:=Su hlt;have hs8:Sl chC 4 w8 A5 L:=Qgz.stay hsL fun a ha hl=>(hx57.trans hx8).block _ hl
   obtain⟨a,rfl,hc⟩:=hs8.get hlt
   have hstep:((L.take (k+1)).map (·.item)).filter (fun x=>decide (x∉R))=O++if L[k].item∈R then [] else [L[k].item]:=by
    rw[hO,Za hlt,Zp,Zq];congr 1
    by_cases hq:L[k].item∈R <;> simp[hq]
   generalize L[k]=y at hc hstep;refine Gg ?_;refine⟨a,Ix,Gg ?_⟩;refine⟨chC y,⟨rfl,hc⟩,Gg ?_⟩;intro b15 w9 hn9;refine Gg ?_;have e15:=hn9.block;refine Qc Qb (e:=ty68) rfl hn9.At rfl rfl rfl (by simp[Qg,chC,Value.oneCell']) fun w10 h10 ho10 => ?_
   have h10:At w10 b15 68 (chC y):=h10;have hx810:Ext w8 w10:=ho10.ext hn9.ext Om;clear ho10 hn9;refine Gg ?_;refine⟨.string y.item,h10.one rfl,Gg ?_⟩;have z8:=hx8.size;have z810:=hx810.size;refine(Qfg R B d y.item w10 ((hoB.ext (hx8.trans hx810)).sl Qw) Om).mono ?_;rintro _ w11 ⟨rfl,hx11⟩;have h11:=h10.ext hx11;have hx811:=hx810.trans hx11;have z811:=hx811.size;clear h10 hx810 hx11;refine Gg ?_;constructor
   . intro hq;have hq:y.item∉R:=Su hq;rw[if_neg hq] at hstep;refine Gg ?_;refine⟨.string y.item,h11.one rfl,Gg ?_⟩;intro b16 w12 hn12;refine Gg ?_;have z12:=hn12.ext.size;refine Qq X7 (l:=O) (news := [y.item]) rfl ((hoC.ext hx811).ext hn12.ext) rfl (X7.new1 (x:=y.item) hn12) (by simp;omega) Om fun A13 c13 w13 hown13 hg13 hA13 => ?_
     have hx13:Ext w7 w13:=Qu (hx8.trans (hx811.trans hn12.ext)) hg13 (Xq hoC);generalize hO2:O ++ [y.item]=O2 at hown13 hstep ⊢;clear hg13 hA13 hn12;refine Gg ?_;refine⟨_,wrap_succ Om,Gg ?_⟩;exact⟨(k+1,(A13,c13,O2)),Sj,⟨Sj,hstep.symm,hown13,hx13⟩,Rr⟩
   intro hq;have hq:y.item∈R:=Su hq;rw[if_pos hq,Zw] at hstep;refine Gg ?_;refine⟨_,wrap_succ Om,Gg ?_⟩;exact⟨(k+1,(C,e,O)),Sj,⟨Sj,hstep.symm,hoC.ext hx811,hx8.trans hx811⟩,Rr⟩
 intro hge;have hge:k=L.length:=(by have:L.length<=k:=Su hge;omega);subst hge;rw[Zb (Zg _)] at hO;rw[<- hO];refine Gg ?_;intro b16 w9 hn9;have h16:At w9 b16 48 Xhk:=hn9.At;have e16:=hn9.block;have z8:=hx8.size;have z9:=hn9.ext.size;have hx9:=hx8.trans hn9.ext;have hx59:=hx57.trans hx9;have hRow:=hoB.ext hx9;have hOow:=hoC.ext hn9.ext;replace h1:=h1.ext hx59;replace h2:=h2.ext hx59;have hC8:∀ a,C=some a->a.block<w8.heap.size:=fun a ha=>(hoC.block ha).2
 have hOz:∀ x∈O,x.size<1000000:=fun x hx=>(by rw[hO] at hx;obtain⟨i,hi,rfl⟩:=Zh.1 (Ze.1 hx).1;exact hcn i hi)
 clear hn9 hsL hsM ho6 hx8 hoC;refine Gg ?_;refine Qc Qb (e:=ty36) rfl h16 rfl rfl rfl Oj fun w10 h10 ho10 => ?_
 have h10:At w10 b16 48 [.slice B R.length d,.slice none 0 0,.slice none 0 0,Vj 0]:=h10;refine Hh ?_;replace h1:=ho10.at_ h1 Om;replace h2:=ho10.at_ h2 Om;have hBb:∀ a,B=some a->w6.heap.size<=a.block/\a.block<w7.heap.size:=fun a ha=>hoB.block ha
 have hCb:∀ a,C=some a->w7.heap.size<=a.block/\a.block<w8.heap.size:=fun a ha=>(by have:=hOow.block ha;refine⟨this.1,hC8 a ha⟩)
 replace hRow:=hRow.keep fun a ha=>ho10.block a.block (by have:=hBb a ha;omega)
 replace hOow:=hOow.keep fun a ha=>ho10.block a.block (by have:=hCb a ha;omega)
 have hK:Ext w5 w10:=ho10.ext hx59 Om;have z10:=hK.size;clear ho10 h16 hoB hx59 hx9 hx57;have hdl:=Qjg now.toNat Om;generalize hI:(if 0<every then Xg9 (hash seed [person,Qr1 now.toNat]) R O every else R)=I
 refine Xl Qb (ι:=Option Addr×Nat) (fun | (A,q) => [(0,Pj p),(2,.string person),(3,Vj now),(5,Pj b1),(8,Pj b2),(10,.slice B R.length d),(16,Pj b16)])
  (fun | (A,q),w'=>Own Qab 1 9 w5.heap.size w' A q I/\(∀ a,A=some a->a.block≠b16)/\Own Qab 1 9 w6.heap.size w' B d R/\At w' b16 48 [.slice A I.length q,.slice none 0 0,.slice none 0 0,Vj 0]/\Ext w5 w') ?_ ?_
 . (conv=>whnf)
   refine⟨Vj every,h1.one rfl,Hh ?_⟩;constructor
   . intro hev;have hev:0<every:=Su hev;rw[if_pos hev] at hI;refine Hh ?_;refine Dr .ext [0,1,2,3,7,8,9,10,4,5,6] [11,12,13] (Hh ?_);replace h1:At w10.drew b1 _ _:=h1;replace h2:At w10.drew b2 _ _:=h2;replace h10:At w10.drew b16 _ _:=h10;replace hRow:=hRow.ext (Ext.refl w10).drew;replace hOow:=hOow.ext (Ext.refl w10).drew;replace hK:Ext w5 w10.drew:=hK.drew;have z11:w10.drew.heap.size=w10.heap.size:=rfl;generalize w10.drew=w11 at h1 h2 h10 hK hRow hOow z11 ⊢;refine⟨.int .u64 seed,h1.one rfl,Hh ?_⟩;refine⟨Vj every,h1.one rfl,Hh ?_⟩;refine(Qfv now w11 (hg5.ext hK) hn.1 Om).mono ?_;rintro _ w12 ⟨rfl,hx12⟩;refine⟨hx12,Hh ?_⟩;intro b17 w13 hn13;refine⟨hn13.ext,Hh ?_⟩
     refine(Qei seed [person,Qr1 now.toNat] (some ⟨b17,0,none⟩) 2 w13 (Qak (enc:=Qab) Qw hn13) (by simp) (fun s hs=>by
      rcases Zr.1 hs with rfl | hs
      . omega
      . rw[Zk.1 hs];omega)).mono ?_
     rintro _ w14 ⟨rfl,rfl⟩;refine⟨Ext.refl _,Hh ?_⟩;have hx1113:=hx12.trans hn13.ext;refine(Xcm _ every R O B C d e w14 Om ((hRow.ext hx1113).sl Qw) Om ((hOow.ext hx1113).sl Qw) Om hOz).mono ?_;rintro _ w15 ⟨A15,c15,rfl,hown15,hx15⟩;rw[hI] at hown15 ⊢;have hxx:=hx1113.trans hx15;have z15:=hx1113.size;have l16:=(h10.ext hx1113).lt;replace h10:=h10.ext hxx;replace hRow:=hRow.ext hxx;replace hK:=hK.trans hxx;clear hxx hx12 hn13 hx15 hx1113;refine Hh ?_;refine Qc Qb (e:=ty36) rfl h10 rfl rfl rfl Oj fun w16 h16 ho16 => ?_
     have h16:At w16 b16 48 [.slice A15 I.length c15,.slice none 0 0,.slice none 0 0,Vj 0]:=h16;have hK16:Ext w5 w16:=ho16.ext hK Om;have hne:∀ a,A15=some a->a.block≠b16:=fun a ha=>by have:=hown15.block ha;omega
     refine Hh ?_;exact⟨(A15,c15),⟨(hown15.keep fun a ha=>ho16.block a.block (hne a ha)).base Om,hne,hRow.keep fun a ha=>ho16.block a.block (by have:=hBb a ha;omega),h16,hK16⟩,Rr⟩
   intro hev;have hev:¬ 0<every:=Su hev;rw[if_neg hev] at hI;subst hI;refine Hh ?_;exact⟨(B,d),⟨hRow.base Om,fun a ha=>by have:=hBb a ha;omega,hRow,h10,hK⟩,Rr⟩
 have hIl:I.length<1000000:=by
  rw[<- hI];have h2:=Qga R;split
  . rw[Q8k];omega
  . omega
 rintro ⟨A11,c11⟩ w11 ⟨hoI,hneI,hoR,h11,hx11⟩;have h1l5:b1<w5.heap.size:=h15a.lt;have h2l5:b2<w5.heap.size:=h25a.lt;clear hI hOow hRow hO h10;refine Gg ?_;refine⟨.slice A11 I.length c11,h11.one rfl,Gg ?_⟩;have l11:=h11.lt;have hIlt:∀ a,A11=some a->a.block<w11.heap.size:=fun a ha=>(hoI.block ha).2
 refine Qh Qb (fun(q:Nat×(Option Addr×Nat×List RE)×(Option Addr×Nat)×(Nat->Prop)) w'=>q.1<=I.length/\q.2.1.2.2.length=q.1/\RsL c z person now w11.heap.size w' (AvN q.2.1.1 q.2.2.1.1 q.2.2.2) I q.2.1.2.2/\WT w' q.2.2.2 p c z/\(∀ i,q.2.2.2 i->T5 i\/w11.heap.size<=i)/\Own reC 5 72 w11.heap.size w' q.2.1.1 q.2.1.2.1 q.2.1.2.2/\Own boE 1 4 w11.heap.size w' q.2.2.1.1 q.2.2.1.2 ((I.take q.1).map fun x=>decide (x∉R))/\(∀ a b,q.2.1.1=some a->q.2.2.1.1=some b->a.block≠b.block)/\(∀ a,q.2.1.1=some a->¬ q.2.2.2 a.block)/\(∀ a,q.2.2.1.1=some a->¬ q.2.2.2 a.block)/\Own Qab 1 9 w6.heap.size w' B d R/\Own Qab 1 9 w5.heap.size w' A11 c11 I/\At w' b16 48 [.slice A11 I.length c11,.slice q.2.1.1 q.1 q.2.1.2.1,.slice q.2.2.1.1 q.1 q.2.2.1.2,Vj 0]/\Mod T5 w5 w'/\w11.heap.size<=w'.heap.size)
  (fun | (k,(AX,cX,X),(AY,cY),_) => [(0,Pj p),(2,.string person),(3,Vj now),(5,Pj b1),(8,Pj b2),(10,.slice B R.length d),(16,Pj b16),(92,.slice A11 I.length c11),(93,Vj I.length),(94,Vj (k:Nat))]) (fun q=>I.length-q.1) (0,(none,0,[]),(none,0),T5) ⟨Zu _,rfl,(fun i r hi=>by simp at hi),(Qjz (p:=p) hok).ext hW5 hx11,fun i hi => .inl hi,Own.nil,Own.nil,(fun a b ha=>by cases ha),(fun a ha=>by cases ha),(fun a ha=>by cases ha),hoR,hoI,h11,Mod.of_ext hx11,Zg _⟩ Rr ?_
 rintro ⟨k,⟨AX,cX,X⟩,⟨AY,cY⟩,T2⟩ w12 ⟨hk3,hXl,hXs,hW12,hT2,hoX,hoY,hXY,hXT,hYT,hoR12,hoI12,h12,hM12,z12⟩;simp only at hk3 hXl hXs hW12 hT2 hoX hoY hXY hXT hYT h12;refine Gg ?_;constructor
 . intro hlt;have hlt:k<I.length:=Su hlt;obtain⟨a,ha11,hc⟩:=(hoI12.sl Qw).get hlt;have hIk:I[k]? = some I[k]:=Zd hlt;have hstep:(I.take (k+1)).map (fun x=>decide (x∉R))=(I.take k).map (fun x=>decide (x∉R)) ++ [decide (I[k]∉R)]:=by rw[Za hlt,Zp];rfl
   generalize I[k]=y at hc hstep hIk;subst ha11;refine Gg ?_;refine⟨a,Ix,Gg ?_⟩;refine⟨.string y,hc 0 (.string y) rfl,Gg ?_⟩;refine Dr .ext [0,1,2,3,4,5,6] [7,8,9] (Hh ?_);replace h12:At w12.drew b16 _ _:=h12;replace hW12:=(Qjz (p:=p) hok).ext hW12 (Ext.refl w12).drew;replace hoX:=hoX.ext (Ext.refl w12).drew;replace hoY:=hoY.ext (Ext.refl w12).drew;replace hoR12:=hoR12.ext (Ext.refl w12).drew;replace hoI12:=hoI12.ext (Ext.refl w12).drew;replace hM12:=hM12.trans (Mod.of_ext (Ext.refl w12).drew);replace z12:w11.heap.size<=w12.drew.heap.size:=z12;replace hXs:RsL c z person now w11.heap.size w12.drew (AvN AX AY T2) I X:=hXs.keep (Zg _) (fun _ _ _ _=>rfl) (fun _ _ _ h=>h);generalize w12.drew=w13 at h12 hW12 hoX hoY hoR12 hoI12 hM12 z12 hXs ⊢;refine⟨_,h12.one rfl,Hh ?_⟩;refine(Qfg R B d y w13 (hoR12.sl Qw) Om).mono ?_;rintro _ w14 ⟨rfl,hx14⟩;refine⟨hx14,Hh ?_⟩;intro b18 w15 hn15;refine⟨hn15.ext,Hh ?_⟩;have hx1315:=hx14.trans hn15.ext;have zx:=hx1315.size;have l12:=h12.lt;have hYl:((I.take k).map fun x=>decide (x∉R)).length=k:=by rw[Zf,Zn];omega
   have hyd:(!decide (y∈R))=decide (y∉R):=by by_cases hq:y∈R <;> simp[hq]
   have hb18:=hn15.block;have s15:=hn15.size;have z14:=hx14.size;have hn15':New w14 w15 b18 (.cells (boE (decide (y∉R))).toArray 4):=hyd ▸ hn15;have hXs15:RsL c z person now w11.heap.size w15 (AvN AX AY T2) I X:=hXs.keep zx (fun k _ hl _=>hx1315.block k hl) (fun _ _ _ h=>h);have hl15:=((Qjz (p:=p) hok).ext hW12 hx1315).lt;refine Qq Q9o (l:=(I.take k).map fun x=>decide (x∉R)) (news := [decide (y∉R)]) (by rw[hYl]) (hoY.ext hx1315) rfl (Q9o.new1 (x:=decide (y∉R)) hn15') (by rw[hYl];simp;omega) Om fun AZ cZ w16 hoZ hg16 hAZ => ?_
   rw[<- hstep] at hoZ ⊢;have hZl:((I.take (k+1)).map fun x=>decide (x∉R)).length=k+1:=by rw[Zf,Zn];omega
   rw[hZl];have hYge:∀ g,AY.map (·.block)=some g->w11.heap.size<=g:=Xq hoY
   have hYT':∀ g,AY.map (·.block)=some g->¬ T2 g:=fun g hg h=>by
    cases hq:AY with
    | none=>rw[hq] at hg;simp at hg
    | some b=>rw[hq] at hg;simp at hg;exact hYT b hq (hg ▸ h)
   have hXY':∀ a,AX=some a->AY.map (·.block)≠some a.block:=fun a ha hg=>by
    cases hq:AY with
    | none=>rw[hq] at hg;simp at hg
    | some b=>rw[hq] at hg;simp at hg;exact hXY a b ha hq hg.symm
   have hYT2:∀ g,T2 g->some g≠AY.map (·.block):=fun g hg e=>hYT' g e.symm hg
   have hb16T:¬ T2 b16:=fun h=>by
    rcases hT2 _ h with q | q
    . have:=hW5.lt _ q;omega
    . omega
   have hk16:∀ g,g<w13.heap.size->some g≠AY.map (·.block)->w16.heap[g]? = w13.heap[g]? := fun g hl hne=>(by rw[hg16.block g Om hne];exact hx1315.block g hl)
   have h16:At w16 b16 _ _:=(hk16 b16 l12 (fun e=>by have:=hYge _ e.symm;omega)).trans h12;have zg16:=hg16.size;refine Hh ?_;refine Qc Qb (e:=ty46) rfl h16 rfl rfl rfl Oj fun w17 h17 ho17 => ?_
   have h17:At w17 b16 48 [.slice (some a) I.length c11,.slice AX k cX,.slice AZ (k+1) cZ,Vj 0]:=h17;have zo17:=(Qj (S:=fun g=>g=b16) ho17 rfl).size;have hk17:∀ g,g<w13.heap.size->g≠b16->some g≠AY.map (·.block)->w17.heap[g]? = w13.heap[g]? := fun g hl h1 h2=>(by rw[ho17.block g h1];exact hk16 g hl h2)
   have hZge:∀ b,AZ=some b->w11.heap.size<=b.block/\b.block<w16.heap.size:=fun b hb=>hoZ.block hb
   have hAZ2:∀ g,AZ.map (·.block)=some g->AY.map (·.block)=some g\/g=w15.heap.size:=fun g hg=>by
    rcases hAZ with q | q | q
    . rw[q] at hg;exact .inl hg
    . rw[q] at hg;exact .inl hg
    . rw[q] at hg;exact .inr (Su hg.symm)
   have hW17:WT w17 T2 p c z:=hW12.keep fun g hg=>hk17 g (hW12.lt _ hg) (fun e=>hb16T (e ▸ hg)) (hYT2 g hg)
   have hoX17:=hoX.keep (w':=w17) fun a ha=>hk17 a.block (hoX.block ha).2 (by have:=hoX.block ha;omega) (fun e=>hXY' a ha e.symm)
   have hoZ17:=hoZ.keep (w':=w17) fun b hb=>ho17.block b.block (by have:=hZge b hb;omega)
   have hoR17:=hoR12.keep (w':=w17) fun b hb=>hk17 b.block (hoR12.block hb).2 (by have:=hBb b hb;omega) (fun e=>by have:=hYge _ e.symm;have:=hBb b hb;omega)
   have hoI17:=hoI12.keep (w':=w17) fun b hb=>hk17 b.block (hoI12.block hb).2 (hneI b hb) (fun e=>by have:=hYge _ e.symm;have:=hIlt b hb;omega)
   have hXs17:RsL c z person now w11.heap.size w17 (AvN AX AZ T2) I X:=hXs.keep Om (fun g h1 h2 h3=>hk17 g h2 Om (fun e=>h3 (.inr (.inr e.symm)))) (fun g h1 h2 h3 h=>by
    rcases h with q | q | q
    . exact h3 (.inl q)
    . exact h3 (.inr (.inl q))
    . rcases hAZ2 g q with q | q
      . exact h3 (.inr (.inr q))
      . omega)
   have hM17:Mod T5 w5 w17:=Qn hM12 (((Mod.of_ext hx1315).trans (Xx hg16 fun g hg => .inr (by have:=hYge g hg;omega))).trans (Qj ho17 (.inr Om)))
   have hXZ:∀ a b,AX=some a->AZ=some b->a.block≠b.block:=fun a b ha hb e=>by
    rcases hAZ2 b.block (by rw[hb];rfl) with q | q
    . exact hXY' a ha (e ▸ q)
    . have:=hoX.block ha;omega
   have hZT:∀ b,AZ=some b->¬ T2 b.block:=fun b hb h=>by
    rcases hAZ2 b.block (by rw[hb];rfl) with q | q
    . exact hYT' _ q h
    . have:=hW12.lt _ h;omega
   have z17:w11.heap.size<=w17.heap.size:=Om;clear hoX hoY hoR12 hoI12 hM12 hXs hXs15 hW12 hoZ hg16 hAZ hAZ2 hZge ho17 hk17 hk16 h16 hXY hXY' hYT hYT' hYT2 hYge hx1315 hx14 hn15 hn15' h12 hl15;have h117:At w17 b1 _ _:=(hM17.block b1 h1l5 h51).trans h15a;refine Dr (.mods T2) [0,1,2,3,4,5,6,7,8,9] [10,11,12] (Hh ?_);replace h17:At w17.drew b16 _ _:=h17;replace h117:At w17.drew b1 _ _:=h117;replace hW17:=(Qjz (p:=p) hok).ext hW17 (Ext.refl w17).drew;replace hoX17:=hoX17.ext (Ext.refl w17).drew;replace hoZ17:=hoZ17.ext (Ext.refl w17).drew;replace hoR17:=hoR17.ext (Ext.refl w17).drew;replace hoI17:=hoI17.ext (Ext.refl w17).drew;replace hM17:=hM17.trans (Mod.of_ext (Ext.refl w17).drew);replace z17:w11.heap.size<=w17.drew.heap.size:=z17;replace hXs17:RsL c z person now w11.heap.size w17.drew (AvN AX AZ T2) I X:=hXs17.keep (Zg _) (fun _ _ _ _=>rfl) (fun _ _ _ h=>h);generalize w17.drew=w18 at h17 h117 hW17 hoX17 hoZ17 hoR17 hoI17 hM17 z17 hXs17 ⊢
   have hb1T:¬ T2 b1:=fun h=>by
    rcases hT2 _ h with q | q
    . exact h51 q
    . omega
   refine⟨_,⟨h17.one rfl,by rw[add_block];exact hb16T⟩,Hh ?_⟩;refine⟨wsC (Qaq 6),⟨rfl,⟨Qtk h117,by rw[add_block];exact hb1T⟩⟩,Hh ?_⟩
   have hT510:∀ i,T5 i->10<=i:=fun i hi=>by
    rcases hT5 _ hi with q | q
    . exact hT _ q
    . omega
   refine(Qj3 hW17 hok (hg5.mod hM17 hT510) (fun i hi=>by
    rcases hT2 _ hi with q | q
    . exact hT510 _ q
    . omega) (Qaq 6) person y now).mono ?_
   rintro _ w19 ⟨A1,c1,A2,c2,T3,rfl,ho1,ho2,_,hA1,hA2,hW19,hT3,hM19⟩;refine⟨hM19,Hh ?_⟩;intro b20 w20 hn20;refine⟨Mod.of_ext hn20.ext,Hh ?_⟩;have z19:=hM19.size;have s20:=hn20.size;have e20:=hn20.block;have l17:=h17.lt;have hn20':New w19 w20 b20 (.cells (reC ⟨y,A1,c1,Qmi (Qlt (Qs6 c z person y now) (Qaq 6) 6),A2,(Qvt c z person y now).length,c2,Qpt c z y⟩).toArray 72):=hn20;have hk20:∀ g,g<w18.heap.size->¬ T2 g->w20.heap[g]? = w18.heap[g]? := fun g hl hg=>(by rw[hn20.ext.block g Om];exact hM19.block g hl hg)
   have hoX20:=hoX17.keep (w':=w20) fun a ha=>hk20 a.block (hoX17.block ha).2 (hXT a ha)
   generalize hr:(⟨y,A1,c1,Qmi (Qlt (Qs6 c z person y now) (Qaq 6) 6),A2,(Qvt c z person y now).length,c2,Qpt c z y⟩:RE)=r at hn20';have hsr:=Xdd.new1 hn20';refine Qq Xdd (l:=X) (news := [r]) hXl.symm hoX20 rfl hsr (by rw[hXl];simp;omega) Om fun AW cW w21 hoW hg21 hAW => ?_
   have hWl:(X ++ [r]).length=k+1:=by rw[Zo,hXl];rfl
   rw[hWl];have zg21:=hg21.size;have hXge:∀ b,AX=some b->w11.heap.size<=b.block/\b.block<w18.heap.size:=fun b hb=>hoX17.block hb
   have hXm:∀ g,some g=AX.map (·.block)->w11.heap.size<=g/\g<w18.heap.size/\¬ T2 g:=fun g hg=>by
    cases hq:AX with
    | none=>rw[hq] at hg;simp at hg
    | some b=>rw[hq] at hg;simp at hg;subst hg;exact⟨(hXge b hq).1,(hXge b hq).2,hXT b hq⟩
   have hZb:∀ b,AZ=some b->w11.heap.size<=b.block/\b.block<w18.heap.size:=fun b hb=>hoZ17.block hb
   have hT3':∀ g,g<w18.heap.size->¬ T2 g->¬ T3 g:=fun g hl hg h=>by
    rcases hT3 _ h with q | q
    . exact hg q
    . omega
   have hb163:¬ T3 b16:=hT3' _ l17 hb16T;have hT3X:∀ g,T3 g->some g≠AX.map (·.block):=fun g hg e=>(by obtain⟨_,q2,q3⟩:=hXm g e;exact hT3' g q2 q3 hg)
   have hk21:∀ g,g<w18.heap.size->¬ T2 g->some g≠AX.map (·.block)->w21.heap[g]? = w18.heap[g]? := fun g hl h2 hne=>(by rw[hg21.block g Om hne];exact hk20 g hl h2)
   have h21:At w21 b16 _ _:=(hk21 b16 l17 hb16T (fun e=>by have:=(hXm _ e).1;omega)).trans h17;refine Hh ?_;refine Qc Qb (e:=ty45) rfl h21 rfl rfl rfl Oj fun w22 h22 ho22 => ?_
   have h22:At w22 b16 48 [.slice (some a) I.length c11,.slice AW (k+1) cW,.slice AZ (k+1) cZ,Vj 0]:=h22;have zo22:=(Qj (S:=fun g=>g=b16) ho22 rfl).size;have hk22:∀ g,g<w18.heap.size->¬ T2 g->g≠b16->some g≠AX.map (·.block)->w22.heap[g]? = w18.heap[g]? := fun g hl h2 h1 h3=>(by rw[ho22.block g h1];exact hk21 g hl h2 h3)
   have hk19:∀ g,g<w19.heap.size->g≠b16->some g≠AX.map (·.block)->w22.heap[g]? = w19.heap[g]? := fun g hl h1 h3=>(by rw[ho22.block g h1,hg21.block g Om h3];exact hn20.ext.block g hl)
   have hAW2:∀ g,AW.map (·.block)=some g->AX.map (·.block)=some g\/g=w20.heap.size:=fun g hg=>by
    rcases hAW with q | q | q
    . rw[q] at hg;exact .inl hg
    . rw[q] at hg;exact .inl hg
    . rw[q] at hg;exact .inr (Su hg.symm)
   have hW22:WT w22 T3 p c z:=hW19.keep fun g hg=>hk19 g (hW19.lt _ hg) (fun e=>hb163 (e ▸ hg)) (hT3X g hg)
   have hoW22:=hoW.keep (w':=w22) fun b hb=>ho22.block b.block (by have:=hoW.block hb;omega)
   have hoZ22:=hoZ17.keep (w':=w22) fun b hb=>hk22 b.block (hZb b hb).2 (hZT b hb) (by have:=hZb b hb;omega) (fun e=>by
    cases hq:AX with
    | none=>rw[hq] at e;simp at e
    | some b'=>rw[hq] at e;simp at e;exact hXZ b' b hq hb e.symm)
   have hT25:∀ g,w5.heap.size<=g->g<w11.heap.size->¬ T2 g:=fun g h1 h2 h=>by
    rcases hT2 _ h with q | q
    . have:=hW5.lt _ q;omega
    . omega
   have hoR22:=hoR17.keep (w':=w22) fun b hb=>(by have:=hBb b hb;exact hk22 b.block Om (hT25 _ Om Om) Om (fun e=>by have:=(hXm _ e).1;omega))
   have hoI22:=hoI17.keep (w':=w22) fun b hb=>(by have q1:=hIlt b hb;have q2:=(hoI17.block hb).1;exact hk22 b.block Om (hT25 _ Om Om) (hneI b hb) (fun e=>by have:=(hXm _ e).1;omega))
   have hXs22:RsL c z person now w11.heap.size w22 (AvN AW AZ T3) I X:=hXs17.keep Om (fun g h1 h2 h3=>hk22 g h2 (fun h=>h3 (.inl h)) Om (fun e=>h3 (.inr (.inl e.symm)))) (fun g h1 h2 h3 h=>by
    rcases h with q | q | q
    . exact hT3' g h2 (fun h=>h3 (.inl h)) q
    . rcases hAW2 g q with q | q
      . exact h3 (.inr (.inl q))
      . omega
    . exact h3 (.inr (.inr q)))
   have hnew:∀ b:Addr,w18.heap.size<=b.block->b.block<w19.heap.size->¬ T3 b.block->w11.heap.size<=b.block/\b.block<w22.heap.size/\¬ AvN AW AZ T3 b.block:=fun b q1 q2 q3=>by
    refine⟨Om,Om,fun h => ?_⟩;rcases h with q | q | q
    . exact q3 q
    . rcases hAW2 _ q with q | q
      . have:=(hXm _ q.symm).2.1;omega
      . omega
    . cases hz:AZ with
      | none=>rw[hz] at q;simp at q
      | some b'=>rw[hz] at q;simp at q;have:=(hZb b' hz).2;omega
   have hkn:∀ b:Addr,w18.heap.size<=b.block->b.block<w19.heap.size->w22.heap[b.block]? = w19.heap[b.block]? := fun b q1 q2=>hk19 _ q2 Om (fun e=>by have:=(hXm _ e).2.1;omega)
   have hRs:Xg7 c z person now w11.heap.size w22 (AvN AW AZ T3) y r:=by
    subst hr;refine⟨rfl,rfl,rfl,rfl,Q4n.stay (ho1.sl Qs4) fun b hb _=>hkn b (ho1.block hb).1 (ho1.block hb).2,Qk2.stay (ho2.sl Qag) fun b hb _=>hkn b (ho2.block hb).1 (ho2.block hb).2,fun b hb => ?_⟩;rcases hb with hb | hb
    . exact hnew b (ho1.block hb).1 (ho1.block hb).2 (hA1 b hb)
    . exact hnew b (ho2.block hb).1 (ho2.block hb).2 (hA2 b hb)
   have hXs23:=hXs22.snoc (by rw[hXl];exact hIk) hRs
   have hM22:Mod T5 w5 w22:=Qn hM17 ((((hM19.mono fun g _ hg=>(by
    rcases hT2 _ hg with q | q
    . exact .inl q
    . exact .inr Om)).trans (Mod.of_ext hn20.ext)).trans (Xx hg21 fun g hg => .inr (by have:=(hXm g hg.symm).1;omega))).trans (Qj ho22 (.inr Om)))
   have hT35:∀ i,T3 i->T5 i\/w11.heap.size<=i:=fun i hi=>by
    rcases hT3 _ hi with q | q
    . exact hT2 _ q
    . exact .inr Om
   have hXZ3:∀ a b,AW=some a->AZ=some b->a.block≠b.block:=fun a b ha hb e=>by
    have:=hZb b hb;rcases hAW2 a.block (by rw[ha];rfl) with q | q
    . cases hq:AX with
      | none=>rw[hq] at q;simp at q
      | some b'=>rw[hq] at q;simp at q;exact hXZ b' b hq hb Om
    . omega
   have hXT3:∀ b,AW=some b->¬ T3 b.block:=fun b hb h=>by
    rcases hAW2 b.block (by rw[hb];rfl) with q | q
    . exact hT3X _ h q.symm
    . have:=hW19.lt _ h;omega
   have hZT3:∀ b,AZ=some b->¬ T3 b.block:=fun b hb=>hT3' _ (hZb b hb).2 (hZT b hb)
   generalize X ++ [r]=X2 at hWl hoW22 hXs23;have z22:w11.heap.size<=w22.heap.size:=Om;clear hXs22 hRs hg21 hoW ho22 hk22 hk21 hk20 hk19 hn20 hn20' hsr hoX17 hoX20 hoZ17 hoR17 hoI17 hXs17 hM17 hM19 hW17 hW19 h17 h117 h21 hnew hkn;refine Hh ?_;refine Gg ?_;refine⟨_,wrap_succ Om,Gg ?_⟩;exact⟨(k+1,(AW,cW,X2),(AZ,cZ),T3),Sj,⟨Sj,hWl,hXs23,hW22,hT35,hoW22,hoZ22,hXZ3,hXT3,hZT3,hoR22,hoI22,h22,hM22,z22⟩,Rr⟩
 intro hge;have hge:k=I.length:=(by have:I.length<=k:=Su hge;omega);subst hge;rw[Zb (Zg _)] at hoY;refine Gg ?_;refine⟨_,⟨rfl,h12.all⟩,Gg ?_⟩
 have hT25:∀ g,w5.heap.size<=g->g<w11.heap.size->¬ T2 g:=fun g h1 h2 h=>by
  rcases hT2 _ h with q | q
  . have:=hW5.lt _ q;omega
  . omega
 have hb2T:¬ T2 b2:=fun h=>by
  rcases hT2 _ h with q | q
  . exact h52 q
  . omega
 have h212:At w12 b2 _ _:=(hM12.block b2 h2l5 h52).trans h25a;refine Qc Qb (e:=ty48) rfl h212 rfl rfl rfl Oj fun w20 h20 ho20 => ?_
 have h20:At w20 b2 48 [.slice A11 I.length c11,.slice AX I.length cX,.slice AY I.length cY,Vj 0]:=h20;refine Gg ?_;refine⟨_,⟨rfl,h20.all⟩,A11,c11,AX,cX,X,AY,cY,T2,rfl,(hoI12.keep fun b hb=>ho20.block _ (by have:=hoI12.block hb;omega)).base Om,(hoX.keep fun b hb=>ho20.block _ (by have:=hoX.block hb;omega)).base Om,hXl,(hoY.keep fun b hb=>ho20.block _ (by have:=hoY.block hb;omega)).base Om,?_,(fun b hb=>hT25 _ (hoI12.block hb).1 (hIlt b hb)),hXT,hYT,hW12.keep fun g hg=>ho20.block g (fun e=>hb2T (e ▸ hg)),?_,?_⟩
 . refine(hXs.keep (N':=AvN AX AY T2) (by have:=(Qj (S:=fun g=>g=b2) ho20 rfl).size;omega) (fun g h1 h2 h3=>ho20.block g Om) (fun _ _ _ h=>h)).weak Om fun g h => .inl h
 . intro g hg;rcases hT2 _ hg with q | q
   . exact hT0 _ q
   . exact .inr Om
 . refine Qn hM ((hM12.mono fun g _ hg => ?_).trans (Qj ho20 (.inr Om)));rcases hT0 _ hg with q | q
   . exact .inl q
   . exact .inr q
theorem Xfq (c:Cfg) (z:List Ev) (item:Bj):Qpt c z item=0\/c.crowd<=Qpt c z item:=by
 unfold Qpt;split
 . exact .inr ‹_›
 . exact .inl rfl
theorem Q38 {c:Cfg} {z:List Ev} {person item:Bj} {now:Int} {x:Ev} (h:x∈Qvt c z person item now):x.person=person:=by
 have h1:=(Ze.1 h).1;unfold Qej hist at h1;have h2:=(Ze.1 h1).2;simpa using h2
theorem filter_one:∀ {L:List Ch},(L.map (·.item)).Nodup->∀ {x:Ch},x∈L->L.filter (fun y=>decide (y.item=x.item)) = [x]
 | [],_,x,h=>by cases h
 | y :: L,hn,x,h=>by
   rw[Zm,Zbc] at hn;rcases Zr.1 h with rfl | h
   . rw[Zbk (by simp),List.filter_eq_nil_iff.2 fun z hz hq=>hn.1 (by
      have hq:z.item=x.item:=Su hq;exact hq ▸ Zh.2 ⟨z,hz,rfl⟩)]
   . have hne:y.item≠x.item:=fun e=>hn.1 (e ▸ Zh.2 ⟨x,h,rfl⟩)
     rw[Zbl (Su hne),filter_one hn.2 h]
theorem Qq0 {L:List Ch} (hn:(L.map (·.item)).Nodup):∀ {S:List Ch},(∀ x∈S,x∈L)->(S.map (·.item)).flatMap (fun i=>L.filter fun y=>decide (y.item=i))=S
 | [],_=>rfl
 | x :: S,h=>by
   rw[Zm,Zat,filter_one hn (h x (List.mem_cons_self ..)),Qq0 hn fun y hy=>h y (List.mem_cons_of_mem _ hy)];rfl
theorem Q6u (c:Cfg) (z:List Ev) (a:Nat->Int) (person:Bj) (now limit:Int):((Qtx c z a person now limit).map (·.item)).Nodup:=by
 have h1:(Qtx c z a person now limit).map (·.item)=(Qgd c z person now limit).filter fun x=>decide (Qpl c z person x now=0):=(by unfold Qtx;rw[Zy];exact(Za7 fun _ _=>rfl).trans (List.map_id _))
 rw[h1];exact(show (Qgd c z person now limit).Nodup from Qcs _).filter _
theorem Qvy (c:Cfg) (z:List Ev) (person:Bj) (now:Int):(Qde c z person now).flatMap (fun i=>(Qtx c z (Qaq 6) person now 5).filter fun y=>decide (y.item=i))=Qf1 Xfb (Qtx c z (Qaq 6) person now 5) :=
 Qq0 (Q6u c z (Qaq 6) person now 5) fun _ h=>Qwb h
theorem Q58 {c:Cfg} {z:List Ev} {person x:Bj} {now:Int} (h:x∈Qde c z person now):Qpl c z person x now=0:=by
 obtain⟨y,hy,rfl⟩:=Zh.1 h;obtain⟨i,hi,rfl⟩:=Zh.1 (Qwb hy);have:=(Ze.1 hi).2;show Qpl c z person i now=0
 simpa using this
theorem Qv1 {k:Nat} {P:Bj} (h:Xh9[k]? = some P):Qr P=true:=(by decide:∀ x∈Xh9,Qr x=true) P (Zax h)
theorem Q9d {c:Cfg} {z:List Ev} (hm:∀ e∈z,X0 e=true) (every seed:Int) (person:Bj) (now:Int):(Q4g c z every seed person now).length<=z.length:=by
 have h1:(Qde c z person now).length<=z.length:=(by refine Zv ?_ (Qja (c:=c) hm person now 5);unfold Qde;rw[Zf];refine Zv (Qoz _ _) ?_;unfold Qtx;rw[Zf];exact Zc _ _);unfold Q4g;split
 . rw[Q8k];exact Zv (Qga _) h1
 . exact h1
