import Derived.Test.YtnpacgccajekgaaGreatDoorGC
import Derived.Test.YtnpacgccajekgaaGreatDoorHShelf2
set_option linter.all false
namespace Go.Proofs.YtnpacgccajekgaaGreatDoor
open Go.Se Go.RowKit
def stk:Bj:=⟨#[115,116,111,99,107,62,48]⟩
theorem Xc3(j:Nat)(b)(h:stk.data.toList[j]?=some b):b.toNat<128:=(by decide:∀b∈stk.data.toList,b.toNat<128) b (Zap h)
abbrev Tok:=Bj×Int
def Q7a(x:Tok):List Value:= [.string x.1,Vj x.2]
theorem Q3u(x):(Q7a x).length=2:=rfl
theorem Xhv:Qle Tryz.prog 199 288 Q7a 2 24:=⟨by kernel_rfl,⟨_,ty288_ok,rfl,rfl⟩,by288,by decide,by decide,Q3u,fun x=>by simp[Q7a,Value.oneCell']⟩
theorem Qkd(s a:Bj)(w)(c:2<=a.size)(d:s.size<=8)(e:∀(j:Nat) b,s.data.toList[j]?=some b->b.toNat<128) :
 Cal Tryz.prog 170 [.string s,.string a] w fun r w'=>r=Vj (Lib.indexAny s.data.toList a.data.toList)/\Ext w w':=by
 refine Qae ⟨_,Tryz.func170,rfl,rfl⟩ (Tryz.strings_IndexAny_short s a w c d e) ?_;rintro w' ⟨pos,rfl⟩;exact⟨rfl,(Below.refl _ _).alloc (Zf _) _⟩
theorem Xjq{α:Type}{enc sz b base w A c}{l:List α}(h:Own enc sz b base w A c l):l.length<=c:=by
 rcases h.2 with⟨a,e⟩|⟨g,cap,d,a,f,k,i,_⟩
 .omega
 .injection a with _ _ j;omega
set_option maxHeartbeats 2000000 in
theorem Q1n(w):Cal Tryz.prog 109 [.string stk] w fun r w'=>∃A c,r=.slice A 1 c/\1<=c/\Sl Q7a 2 w' A [(stk,0)]/\Ext w w':=by
 refine Fi Tryz.func109 rfl _ rfl rfl (Hh ?_)
 refine Qh Qb (fun(x:Nat×Option Addr×Nat) w'=>x.1<=1/\Ext w w'/\Own Q7a 2 288 w.heap.size w' x.2.1 x.2.2 (if x.1=0 then [] else [(stk,(0:Int))]))
  (fun x=>[(0,.string stk),(3,.slice x.2.1 x.1 x.2.2),(4,Vj (7*x.1:Nat))]) (fun x=>1-x.1) (0,none,0) ⟨by simp,Ext.refl _,Own.nil⟩ Rr ?_
 rintro ⟨j,A,c⟩ g ⟨s,hx,b⟩;simp only at s b⊢;refine Gg ?_;constructor
 .intro h;have u:j=0:=(by have m:((7*j:Nat):Int)<((stk.size:Nat):Int):=Su h;have n:stk.size=7:=rfl;omega);subst u;refine Gg ?_;refine⟨115,⟨Om,rfl⟩,?_⟩;refine Gg ?_;constructor
  .intro a;exact absurd a (by decide)
  intro _;refine Gg ?_;constructor
  .intro a;exact absurd a (by decide)
  intro _;refine Gg ?_;constructor
  .intro a;exact absurd a (by decide)
  intro _;refine Gg ?_;refine⟨⟨Om,by simp⟩,?_⟩;rw[show stk.extract (((7*0:Nat):Int)).toNat stk.size=stk from rfl];refine Gg ?_;refine(Qkd stk ⟨#[32,40,41]⟩ g (by decide) (by decide) Xc3).mono ?_;rintro _ B ⟨rfl,e⟩;rw[show Lib.indexAny stk.data.toList [32,40,41]=-1 from rfl];replace hx:=hx.trans e;replace b:=b.ext e;clear e;refine Gg ?_;constructor
  .intro _;refine Gg ?_;refine⟨7,rfl,?_⟩;refine Gg ?_;refine⟨7,rfl,?_⟩;refine Gg ?_;refine⟨⟨Om,Om,by decide⟩,?_⟩;rw[show stk.extract (((7*0:Nat):Int)).toNat ((7:Int)).toNat=stk from rfl];refine Gg ?_;intro E C d;refine Gg ?_;have f:Own Q7a 2 288 w.heap.size C A c []:=(show Own Q7a 2 288 w.heap.size B A c [] from b).ext d.ext;refine Qq Xhv (l:= []) (news:= [(stk,(0:Int))]) rfl f rfl (Xhv.new1 (x:=(stk,(0:Int))) d) (by simp) (by have:=hx.size;have:=d.size;omega) fun i k D y o F=>?_
   have z:Ext w D:=Qu (hx.trans d.ext) o (Xm f);refine Gg ?_;refine⟨7,rfl,?_⟩;refine Gg ?_;exact⟨(1,i,k),Sj,⟨by simp,z,y⟩,Rr⟩
  intro a;exact absurd a (by decide)
 .intro h;have v:j=1:=(by have m:¬((7*j:Nat):Int)<((stk.size:Nat):Int):=Su h;have n:stk.size=7:=rfl;omega);subst v;refine Gg ?_;exact⟨A,c,rfl,Xjq (show Own Q7a 2 288 w.heap.size g A c [(stk,(0:Int))] from b),b.sl Q3u,hx⟩
def prC(A:Option Addr)(n c:Nat):List Value:= [.slice A n c,Vj 7,Vj 0,.bool false,Vj 0]
theorem Qr1(w p A c)(h:At w p 202 (prC A 1 c))(f:Sl Q7a 2 w A [(stk,0)]) :
 Cal Tryz.prog 172 [Pj p] w fun r w'=>r=.string stk/\Ext w w':=by
 refine Fi Tryz.func172 rfl _ rfl rfl (Hh ?_);refine⟨.bool false,h.one rfl,Hh ?_⟩;refine⟨.slice A 1 c,fun _=>h.one rfl,Gg ?_⟩;constructor
 .intro e;exact absurd e (by decide)
 intro _;refine Gg ?_;refine⟨.slice A 1 c,h.one rfl,Hh ?_⟩;obtain⟨a,b,d⟩:=f.get (k:=0) (show 0<[(stk,(0:Int))].length by decide);refine⟨a,⟨b,Om,Om⟩,Hh ?_⟩;refine⟨.string stk,Qp d,Hh ?_⟩;exact⟨rfl,Ext.refl _⟩
theorem Qr0(w p A c)(h:At w p 202 (prC A 0 c)) :
 Cal Tryz.prog 172 [Pj p] w fun r w'=>r=.string ⟨#[]⟩/\Ext w w':=by
 refine Fi Tryz.func172 rfl _ rfl rfl (Hh ?_);refine⟨.bool false,h.one rfl,Hh ?_⟩;refine⟨.slice A 0 c,fun _=>h.one rfl,Gg ?_⟩;constructor
 .intro _;refine Gg ?_;exact⟨rfl,Ext.refl _⟩
 intro a;exact absurd a (by decide)
theorem Xdj(w p A c)(h:At w p 202 (prC A 1 c))(g:1<=c) :
 Cal Tryz.prog 173 [Pj p] w fun r w'=>r=.tuple #[]/\(∃a b,At w' p 202 (prC a 0 b))/\Only w w' p:=by
 refine Fi Tryz.func173 rfl _ rfl rfl (Hh ?_);refine⟨.slice A 1 c,h.one rfl,Hh ?_⟩;refine⟨⟨Om,Om,Om,Om⟩,Hh ?_⟩;refine Qiq Qb (e:=ty199) rfl h rfl (show 0+1<=5 by decide) Oj fun i d f=>?_
 refine Hh ?_;exact⟨rfl,⟨_,_,d⟩,f⟩
def Qt3:Value:= .iface 501 (.agg #[.string ⟨#[115,116,111,99,107]⟩,.bool false,Vj 0])
def Qw8(_:Unit):List Value:= [Qt3]
theorem Qkk(x):(Qw8 x).length=1:=rfl
theorem Q3i:Qle Tryz.prog 289 204 Qw8 1 16:=⟨by kernel_rfl,⟨_,ty204_ok,rfl,rfl⟩,by204,by decide,by decide,Qkk,fun x=>by simp[Qw8,Qt3,Value.oneCell']⟩
set_option maxHeartbeats 2000000 in
theorem Q6p(w A c)(K:Sl Qw8 1 w A [()]):Cal Tryz.prog 174 [.slice A 1 c] w fun r w'=>r=Qt3/\Ext w w':=by
 refine Fi Tryz.func174 rfl _ rfl rfl (Hh ?_)
 refine Qh Qb (fun(x:Nat×Option Addr×Nat) w'=>x.1<=1/\Ext w w'/\Own Qw8 1 204 w.heap.size w' x.2.1 x.2.2 (if x.1=0 then [] else [()]))
  (fun x=>[(0,.slice A 1 c),(3,.slice x.2.1 x.1 x.2.2),(8,.slice A 1 c),(9,Vj 1),(10,Vj (x.1:Nat))]) (fun x=>1-x.1) (0,none,0) ⟨by simp,Ext.refl _,Own.nil⟩ Rr ?_
 rintro ⟨j,d,i⟩ b ⟨E,hx,o⟩;simp only at E o⊢;refine Gg ?_;constructor
 .intro h;have F:j=0:=(by have:(j:Int)<1:=Su h;omega);subst F;have I:Own Qw8 1 204 w.heap.size b d i []:=o;obtain⟨a,m,n⟩:=(K.ext hx).get (k:=0) (show 0<[()].length by decide);refine Gg ?_;refine⟨a,⟨m,Om,Om⟩,Gg ?_⟩;refine⟨Qt3,Qp n,Gg ?_⟩;refine⟨.tuple #[.agg #[.slice none 0 0],.bool false],b,by kernel_rfl,?_⟩;refine Gg ?_;intro P U f;refine Gg ?_;refine Qc Qb (e:=ty339) rfl f.At rfl rfl rfl Oj fun N C v=>?_
  have u:Ext b N:=v.ext f.ext (by have:=f.block;omega);clear v C f;refine Gg ?_;constructor
  .intro s;exact absurd s (by decide)
  intro _;refine Gg ?_;intro R O g;refine Gg ?_;have y:Own Qw8 1 204 w.heap.size O d i []:=I.ext (u.trans g.ext);refine Qq Q3i (l:= []) (news:= [()]) rfl y rfl (Q3i.new1 (x:=()) g) (by simp) (by have:=(hx.trans u).size;have:=g.size;omega) fun z B w5 J D S=>?_
  have M:Ext w w5:=Qu ((hx.trans u).trans g.ext) D (Xm y);refine Gg ?_;refine⟨1,rfl,?_⟩;refine Gg ?_;exact⟨(1,z,B),Sj,⟨by simp,M,J⟩,Rr⟩
 .intro h;have H:j=1:=(by have:¬(j:Int)<1:=Su h;omega);subst H;refine Gg ?_;constructor
  .intro _;refine Gg ?_;have L:Sl Qw8 1 b d [()]:=(show Own Qw8 1 204 w.heap.size b d i [()] from o).sl Qkk;obtain⟨a,m,n⟩:=L.get (k:=0) (show 0<[()].length by decide);refine⟨a,⟨m,Om,Om⟩,Gg ?_⟩;refine⟨Qt3,Qp n,Gg ?_⟩;exact⟨rfl,hx⟩
  intro s;exact absurd s (by decide)
set_option maxHeartbeats 2000000 in
theorem Qzj(w A c)(K:Sl Qw8 1 w A [()]):Cal Tryz.prog 229 [.slice A 1 c] w fun r w'=>r=Qt3/\Ext w w':=by
 refine Fi Tryz.func229 rfl _ rfl rfl (Hh ?_)
 refine Qh Qb (fun(x:Nat×Option Addr×Nat) w'=>x.1<=1/\Ext w w'/\Own Qw8 1 204 w.heap.size w' x.2.1 x.2.2 (if x.1=0 then [] else [()]))
  (fun x=>[(0,.slice A 1 c),(3,.slice x.2.1 x.1 x.2.2),(8,.slice A 1 c),(9,Vj 1),(10,Vj (x.1:Nat))]) (fun x=>1-x.1) (0,none,0) ⟨by simp,Ext.refl _,Own.nil⟩ Rr ?_
 rintro ⟨j,d,i⟩ b ⟨E,hx,o⟩;simp only at E o⊢;refine Gg ?_;constructor
 .intro h;have F:j=0:=(by have:(j:Int)<1:=Su h;omega);subst F;have I:Own Qw8 1 204 w.heap.size b d i []:=o;obtain⟨a,m,n⟩:=(K.ext hx).get (k:=0) (show 0<[()].length by decide);refine Gg ?_;refine⟨a,⟨m,Om,Om⟩,Gg ?_⟩;refine⟨Qt3,Qp n,Gg ?_⟩;refine⟨.tuple #[.agg #[.slice none 0 0],.bool false],b,by kernel_rfl,?_⟩;refine Gg ?_;intro P U f;refine Gg ?_;refine Qc Qb (e:=ty416) rfl f.At rfl rfl rfl Oj fun N C v=>?_
  have u:Ext b N:=v.ext f.ext (by have:=f.block;omega);clear v C f;refine Gg ?_;constructor
  .intro s;exact absurd s (by decide)
  intro _;refine Gg ?_;intro R O g;refine Gg ?_;have y:Own Qw8 1 204 w.heap.size O d i []:=I.ext (u.trans g.ext);refine Qq Q3i (l:= []) (news:= [()]) rfl y rfl (Q3i.new1 (x:=()) g) (by simp) (by have:=(hx.trans u).size;have:=g.size;omega) fun z B w5 J D S=>?_
  have M:Ext w w5:=Qu ((hx.trans u).trans g.ext) D (Xm y);refine Gg ?_;refine⟨1,rfl,?_⟩;refine Gg ?_;exact⟨(1,z,B),Sj,⟨by simp,M,J⟩,Rr⟩
 .intro h;have H:j=1:=(by have:¬(j:Int)<1:=Su h;omega);subst H;refine Gg ?_;constructor
  .intro _;refine Gg ?_;have L:Sl Qw8 1 b d [()]:=(show Own Qw8 1 204 w.heap.size b d i [()] from o).sl Qkk;obtain⟨a,m,n⟩:=L.get (k:=0) (show 0<[()].length by decide);refine⟨a,⟨m,Om,Om⟩,Gg ?_⟩;refine⟨Qt3,Qp n,Gg ?_⟩;exact⟨rfl,hx⟩
  intro s;exact absurd s (by decide)
theorem Q4b(w):Cal Tryz.prog 85 [.string ⟨#[48]⟩] w fun r w'=>r=.tuple #[Vj 0,.nilIface]/\Ext w w':=by
 refine Qae ⟨_,Tryz.func85,rfl,rfl⟩ (Tryz.strconv_Atoi ⟨#[48]⟩ 0 (by decide) (by rfl) w) ?_;rintro w' ⟨t,rfl⟩;exact⟨rfl,rfl,rfl,rfl,by rw[Lib.bytesWorld_size];omega,fun k a=>Lib.bytesWorld_at_old w _ _ k a⟩
set_option maxHeartbeats 2000000 in
theorem Q5l(w)(f:Gl w):Cal Tryz.prog 348 [.string stk] w fun r w'=>r=.tuple #[Qt3,.bool true]/\Ext w w':=by
 refine Fi Tryz.func348 rfl _ rfl rfl (Hh ?_);constructor
 .intro a;exact absurd a (by decide)
 intro _;refine Gg ?_;refine(Qkd stk ⟨#[58,60,62]⟩ w (by decide) (by decide) Xc3).mono ?_;rintro _ i ⟨rfl,b⟩;rw[show Lib.indexAny stk.data.toList [58,60,62]=5 from rfl];refine Gg ?_;constructor
 .intro a;exact absurd a (by decide)
 intro _;refine Gg ?_;refine Dr .same [0,1,2,3,4,5,6,7,8,9,10,11,12] [] (Hh ?_);replace b:=b.drew;generalize i.drew=j at b⊢;refine Gg ?_;refine⟨⟨by decide,by decide⟩,?_⟩;rw[show stk.extract 0 ((5:Int)).toNat=⟨#[115,116,111,99,107]⟩ from rfl];refine Gg ?_;refine⟨62,⟨by decide,rfl⟩,?_⟩;refine Gg ?_;refine⟨6,rfl,?_⟩;refine Gg ?_;refine⟨⟨by decide,by decide⟩,?_⟩;rw[show stk.extract ((6:Int)).toNat stk.size=⟨#[48]⟩ from rfl];refine Gg ?_;constructor
 .intro a;exact absurd a (by decide)
 intro _;refine Gg ?_;constructor
 .intro a;exact absurd a (by decide)
 intro _;refine Gg ?_;constructor
 .intro _;refine Gg ?_;constructor
  .intro _;refine Gg ?_;refine(Q4b j).mono ?_;rintro _ c ⟨rfl,e⟩;refine Gg ?_;refine⟨true,fun w'=>⟨by kernel_rfl,by kernel_rfl⟩,?_⟩;refine Gg ?_;refine⟨Unit,fun _=>(.string (Qd4 (0:Int).toNat)),fun _ w'=>Ext c w',(),fun k=>((Qcj 0 c (f.ext (b.trans e)) (by decide) (by decide))).mono fun r w' h=>⟨(),h.1,h.2⟩,?_⟩;intro _ w5 d
   have g:Ext c w5:=by
    rcases d with⟨_,h⟩|⟨_,h⟩
    .exact h
    .rw[h];exact Ext.refl _
   clear d;refine Hh ?_;rw[show Qd4 (0:Int).toNat=(⟨#[48]⟩:Bj) by kernel_rfl];constructor
   .intro a;exact absurd a (by decide)
   intro _;refine Gg ?_;refine⟨fun w' _=>by kernel_rfl,?_⟩;refine Gg ?_;exact⟨rfl,(b.trans e).trans g⟩
  intro a;exact absurd a (by decide)
 intro a;exact absurd a (by decide)
theorem Q4c(w)(k:Gl w)(p A c)(h:At w p 202 (prC A 1 c))(j:1<=c)(n:Sl Q7a 2 w A [(stk,0)]) :
 Cal Tryz.prog 297 [Pj p] w fun r w'=>r=Qt3/\(∃f g,At w' p 202 (prC f 0 g))/\∀a,Ext a w->a.heap.size<=p->Ext a w':=by
 refine Fi Tryz.func297 rfl _ rfl rfl (Hh ?_);refine(Qr1 w p A c h n).mono ?_;rintro _ s ⟨rfl,d⟩;refine Gg ?_;constructor
 .intro _;refine Gg ?_;refine(Q5l s (k.ext d)).mono ?_;rintro _ u ⟨rfl,o⟩;refine Gg ?_;constructor
  .intro b;exact absurd b (by decide)
  intro _;refine Gg ?_;have e:=d.trans o;refine(Xdj u p A c (h.ext e) j).mono ?_;rintro _ v ⟨rfl,i,l⟩;refine Gg ?_;exact⟨rfl,i,fun a hx m=>l.ext (hx.trans e) m⟩
 intro b;exact absurd b (by decide)
theorem Xa7(w)(j:Gl w)(p A c)(h:At w p 202 (prC A 1 c))(i:1<=c)(d:Sl Q7a 2 w A [(stk,0)]) :
 Cal Tryz.prog 228 [Pj p] w fun r w'=>r=Qt3/\(∃e f,At w' p 202 (prC e 0 f))/\∀a,Ext a w->a.heap.size<=p->Ext a w':=by
 refine Fi Tryz.func228 rfl _ rfl rfl (Hh ?_);refine(Qr1 w p A c h d).mono ?_;rintro _ n ⟨rfl,b⟩;refine Gg ?_;constructor
 .intro _;refine Gg ?_;refine(Q4c n (j.ext b) p A c (h.ext b) i (d.ext b)).mono ?_;rintro _ o ⟨rfl,g,m⟩;refine Gg ?_;exact⟨rfl,g,fun a hx k=>m a (hx.trans b) k⟩
 intro l;exact absurd l (by decide)
def Q73(w w':World)(p:Nat):Prop:=(∃b c,At w' p 202 (prC b 0 c))/\∀a,Ext a w->a.heap.size<=p->Ext a w'
theorem Q8b(w)(m:Gl w)(p A c)(h:At w p 202 (prC A 1 c))(k:1<=c)(s:Sl Q7a 2 w A [(stk,0)]) :
 Cal Tryz.prog 171 [Pj p] w fun r w'=>r=Qt3/\Q73 w w' p:=by
 refine Fi Tryz.func171 rfl _ rfl rfl (Hh ?_);refine(Xa7 w m p A c h k s).mono ?_;rintro _ B ⟨rfl,⟨d,e,j⟩,v⟩;refine Gg ?_;intro i y a;refine Gg ?_;have u:=Qai (enc:=Qw8) (l:= [()]) Qkk a;have f:=j.ext a.ext;refine Qh Qb (fun(_:Unit) w'=>w'=y) (fun _=>[(0,Pj p),(3,.slice (some ⟨i,0,none⟩) 1 1)]) (fun _=>0) () rfl Rr ?_;rintro _ _ rfl;refine Gg ?_;refine(Qr0 _ p d e f).mono ?_;rintro _ z ⟨rfl,b⟩;refine Gg ?_;constructor
 .intro o;exact absurd o (by decide)
 intro _;refine Gg ?_;refine(Qzj z _ 1 (u.ext b)).mono ?_;rintro _ C ⟨rfl,g⟩;refine Gg ?_;exact⟨rfl,⟨d,e,f.ext (b.trans g)⟩,fun x hx n=>((v x hx n).trans a.ext).trans (b.trans g)⟩
theorem Xft(w)(m:Gl w)(p A c)(h:At w p 202 (prC A 1 c))(k:1<=c)(s:Sl Q7a 2 w A [(stk,0)]) :
 Cal Tryz.prog 110 [Pj p] w fun r w'=>r=Qt3/\Q73 w w' p:=by
 refine Fi Tryz.func110 rfl _ rfl rfl (Hh ?_);refine(Q8b w m p A c h k s).mono ?_;rintro _ B ⟨rfl,⟨d,e,j⟩,v⟩;refine Gg ?_;intro i y a;refine Gg ?_;have u:=Qai (enc:=Qw8) (l:= [()]) Qkk a;have f:=j.ext a.ext;refine Qh Qb (fun(_:Unit) w'=>w'=y) (fun _=>[(0,Pj p),(3,.slice (some ⟨i,0,none⟩) 1 1)]) (fun _=>0) () rfl Rr ?_;rintro _ _ rfl;refine Gg ?_;refine(Qr0 _ p d e f).mono ?_;rintro _ z ⟨rfl,b⟩;refine Gg ?_;constructor
 .intro o;exact absurd o (by decide)
 intro _;refine Gg ?_;refine(Q6p z _ 1 (u.ext b)).mono ?_;rintro _ C ⟨rfl,g⟩;refine Gg ?_;exact⟨rfl,⟨d,e,f.ext (b.trans g)⟩,fun x hx n=>((v x hx n).trans a.ext).trans (b.trans g)⟩
theorem Qps(w)(s:Gl w):Cal Tryz.prog 60 [.string stk] w fun r w'=>(∃b,r=.tuple #[Pj b,Vj 0,Vj 0]/\At w' b 206 [Qt3]/\w.heap.size<=b)/\Ext w w':=by
 refine Fi Tryz.func60 rfl _ rfl rfl (Hh ?_);constructor
 .intro a;exact absurd a (by decide)
 intro _;refine Gg ?_;refine(Q1n w).mono ?_;rintro _ y ⟨A,c,rfl,o,u,i⟩;refine Gg ?_;intro p k d;refine Gg ?_;have h:At k p 202 (prC A 1 c):=d.At;have j:=i.trans d.ext;have x:=d.block;have v:=u.ext d.ext;clear d;refine⟨.slice A 1 c,h.one rfl,Gg ?_⟩;constructor
 .intro a;exact absurd a (by decide)
 intro _;refine Gg ?_;refine(Xft k (s.ext j) p A c h o v).mono ?_;rintro _ z ⟨rfl,⟨l,n,f⟩,e⟩;have e:=e w j (by have:=i.size;omega);refine Gg ?_;refine⟨.bool false,f.one rfl,Gg ?_⟩;refine⟨.slice l 0 n,fun _=>f.one rfl,Gg ?_⟩;constructor
 .intro a;exact absurd a (by decide)
 intro _;refine Gg ?_;refine⟨.bool false,f.one rfl,Gg ?_⟩;constructor
 .intro a;exact absurd a (by decide)
 intro _;refine Gg ?_;intro m B g;refine Gg ?_;exact⟨⟨m,rfl,g.At,by have:=e.size;have:=g.block;omega⟩,e.trans g.ext⟩
