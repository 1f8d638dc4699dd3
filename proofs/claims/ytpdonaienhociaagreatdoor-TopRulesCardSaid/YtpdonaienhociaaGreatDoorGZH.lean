import Derived.Test.YtpdonaienhociaaGreatDoorGC
import Derived.Test.YtpdonaienhociaaGreatDoorHShelf2
set_option linter.all false
namespace Go.Proofs.YtpdonaienhociaaGreatDoor
open Go.Se Go.RowKit
def stk:Bj:=⟨#[115,116,111,99,107,62,48]⟩
theorem Xaj (j:Nat) (b:UInt8) (h:stk.data.toList[j]? = some b):b.toNat<128:=(by decide:∀ b∈stk.data.toList,b.toNat<128) b (Zax h)
abbrev Tok:=Bj×Int
def Q5g (x:Tok):List Value := [.string x.1,Vj x.2]
theorem Q10 (x:Tok):(Q5g x).length=2:=rfl
theorem Xep:Ql9 Tryz.prog 99 166 Q5g 2 24:=⟨by kernel_rfl,⟨_,ty166_ok,rfl,rfl⟩,by166,by decide,by decide,Q10,fun x=>by simp[Q5g,Value.oneCell']⟩
theorem Qjn (s ch:Bj) (w:World) (h1:2<=ch.size) (h2:s.size<=8) (ha:∀ (j:Nat) b,s.data.toList[j]? = some b->b.toNat<128) :
 Cal Tryz.prog 69 [.string s,.string ch] w fun r w'=>r = Vj (Lib.indexAny s.data.toList ch.data.toList)/\Ext w w':=by
 refine Qa9 ⟨_,Tryz.func69,rfl,rfl⟩ (Tryz.strings_IndexAny_short s ch w h1 h2 ha) ?_;rintro w' ⟨pos,rfl⟩;exact⟨rfl,(Below.refl _ _).alloc (Zg _) _⟩
theorem Xf5 {α:Type} {enc:α->List Value} {sz:Nat} {te:TypeId} {base:Nat} {w:World} {A:Option Addr} {c:Nat} {l:List α} (h:Own enc sz te base w A c l):l.length<=c:=by
 rcases h.2 with⟨hv,h1⟩ | ⟨g,cap,cur,hv,hb,hg,hc1,_⟩
 . omega
 . injection hv with _ _ hcc;omega
set_option maxHeartbeats 2000000 in
theorem Qzy (w:World):Cal Tryz.prog 24 [.string stk] w fun r w'=>∃ A c,r = .slice A 1 c/\1<=c/\Sl Q5g 2 w' A [(stk,0)]/\Ext w w':=by
 refine Fi Tryz.func24 rfl _ rfl rfl (Hh ?_)
 refine Qh Qb (fun(x:Nat×Option Addr×Nat) w'=>x.1<=1/\Ext w w'/\Own Q5g 2 166 w.heap.size w' x.2.1 x.2.2 (if x.1=0 then [] else [(stk,(0:Int))]))
  (fun x => [(0,.string stk),(3,.slice x.2.1 x.1 x.2.2),(4,Vj (7*x.1:Nat))]) (fun x=>1-x.1) (0,none,0) ⟨by simp,Ext.refl _,Own.nil⟩ Rr ?_
 rintro ⟨j,A,c⟩ w1 ⟨hj,hx,ho⟩;simp only at hj ho ⊢;refine Gg ?_;constructor
 . intro h;have hj0:j=0:=(by have h2:((7*j:Nat):Int)<((stk.size:Nat):Int):=Su h;have h3:stk.size=7:=rfl;omega);subst hj0;refine Gg ?_;refine⟨115,⟨Om,rfl⟩,?_⟩;refine Gg ?_;constructor
   . intro hq;exact absurd hq (by decide)
   intro _;refine Gg ?_;constructor
   . intro hq;exact absurd hq (by decide)
   intro _;refine Gg ?_;constructor
   . intro hq;exact absurd hq (by decide)
   intro _;refine Gg ?_;refine⟨⟨Om,by simp⟩,?_⟩;rw[show stk.extract (((7*0:Nat):Int)).toNat stk.size=stk from rfl];refine Gg ?_;refine(Qjn stk ⟨#[32,40,41]⟩ w1 (by decide) (by decide) Xaj).mono ?_;rintro _ w2 ⟨rfl,hx2⟩;rw[show Lib.indexAny stk.data.toList [32,40,41] = -1 from rfl];replace hx:=hx.trans hx2;replace ho:=ho.ext hx2;clear hx2;refine Gg ?_;constructor
   . intro _;refine Gg ?_;refine⟨7,rfl,?_⟩;refine Gg ?_;refine⟨7,rfl,?_⟩;refine Gg ?_;refine⟨⟨Om,Om,by decide⟩,?_⟩;rw[show stk.extract (((7*0:Nat):Int)).toNat ((7:Int)).toNat=stk from rfl];refine Gg ?_;intro b3 w3 hn3;refine Gg ?_;have ho':Own Q5g 2 166 w.heap.size w3 A c []:=(show Own Q5g 2 166 w.heap.size w2 A c [] from ho).ext hn3.ext;refine Qq Xep (l := []) (news := [(stk,(0:Int))]) rfl ho' rfl (Xep.new1 (x:=(stk,(0:Int))) hn3) (by simp) (by have:=hx.size;have:=hn3.size;omega) fun A2 c2 w4 hown2 hg2 hA2 => ?_
     have hx4:Ext w w4:=Qu (hx.trans hn3.ext) hg2 (Xq ho');refine Gg ?_;refine⟨7,rfl,?_⟩;refine Gg ?_;exact⟨(1,A2,c2),Sj,⟨by simp,hx4,hown2⟩,Rr⟩
   intro hq;exact absurd hq (by decide)
 . intro h;have hj1:j=1:=(by have h2:¬ ((7*j:Nat):Int)<((stk.size:Nat):Int):=Su h;have h3:stk.size=7:=rfl;omega);subst hj1;refine Gg ?_;exact⟨A,c,rfl,Xf5 (show Own Q5g 2 166 w.heap.size w1 A c [(stk,(0:Int))] from ho),ho.sl Q10,hx⟩
def prC (A:Option Addr) (n c:Nat):List Value := [.slice A n c,Vj 7,Vj 0,.bool false,Vj 0]
theorem Qqt (w:World) (p:Nat) (A:Option Addr) (c:Nat) (h:At w p 102 (prC A 1 c)) (hs:Sl Q5g 2 w A [(stk,0)]) :
 Cal Tryz.prog 71 [Pj p] w fun r w'=>r = .string stk/\Ext w w':=by
 refine Fi Tryz.func71 rfl _ rfl rfl (Hh ?_);refine⟨.bool false,h.one rfl,Hh ?_⟩;refine⟨.slice A 1 c,fun _=>h.one rfl,Gg ?_⟩;constructor
 . intro hq;exact absurd hq (by decide)
 intro _;refine Gg ?_;refine⟨.slice A 1 c,h.one rfl,Hh ?_⟩;obtain⟨a,ha,hca⟩:=hs.get (k:=0) (show 0 < [(stk,(0:Int))].length by decide);refine⟨a,⟨ha,Om,Om⟩,Hh ?_⟩;refine⟨.string stk,Qs hca,Hh ?_⟩;exact⟨rfl,Ext.refl _⟩
theorem Qqs (w:World) (p:Nat) (A:Option Addr) (c:Nat) (h:At w p 102 (prC A 0 c)) :
 Cal Tryz.prog 71 [Pj p] w fun r w'=>r = .string ⟨#[]⟩/\Ext w w':=by
 refine Fi Tryz.func71 rfl _ rfl rfl (Hh ?_);refine⟨.bool false,h.one rfl,Hh ?_⟩;refine⟨.slice A 0 c,fun _=>h.one rfl,Gg ?_⟩;constructor
 . intro _;refine Gg ?_;exact⟨rfl,Ext.refl _⟩
 intro hq;exact absurd hq (by decide)
theorem Xaz (w:World) (p:Nat) (A:Option Addr) (c:Nat) (h:At w p 102 (prC A 1 c)) (hc:1<=c) :
 Cal Tryz.prog 72 [Pj p] w fun r w'=>r = .tuple #[]/\(∃ A' c',At w' p 102 (prC A' 0 c'))/\Only w w' p:=by
 refine Fi Tryz.func72 rfl _ rfl rfl (Hh ?_);refine⟨.slice A 1 c,h.one rfl,Hh ?_⟩;refine⟨⟨Om,Om,Om,Om⟩,Hh ?_⟩;refine Qh2 Qb (e:=ty99) rfl h rfl (show 0+1<=5 by decide) Oj fun w1 h1 ho1 => ?_
 refine Hh ?_;exact⟨rfl,⟨_,_,h1⟩,ho1⟩
def Qss:Value := .iface 431 (.agg #[.string ⟨#[115,116,111,99,107]⟩,.bool false,Vj 0])
def Qvs (_:Unit):List Value := [Qss]
theorem Qju (x:Unit):(Qvs x).length=1:=rfl
theorem Q1n:Ql9 Tryz.prog 168 104 Qvs 1 16:=⟨by kernel_rfl,⟨_,ty104_ok,rfl,rfl⟩,by104,by decide,by decide,Qju,fun x=>by simp[Qvs,Qss,Value.oneCell']⟩
set_option maxHeartbeats 2000000 in
theorem Q4w (w:World) (A:Option Addr) (c:Nat) (hs:Sl Qvs 1 w A [()]):Cal Tryz.prog 73 [.slice A 1 c] w fun r w'=>r=Qss/\Ext w w':=by
 refine Fi Tryz.func73 rfl _ rfl rfl (Hh ?_)
 refine Qh Qb (fun(x:Nat×Option Addr×Nat) w'=>x.1<=1/\Ext w w'/\Own Qvs 1 104 w.heap.size w' x.2.1 x.2.2 (if x.1=0 then [] else [()]))
  (fun x => [(0,.slice A 1 c),(3,.slice x.2.1 x.1 x.2.2),(8,.slice A 1 c),(9,Vj 1),(10,Vj (x.1:Nat))]) (fun x=>1-x.1) (0,none,0) ⟨by simp,Ext.refl _,Own.nil⟩ Rr ?_
 rintro ⟨j,A1,c1⟩ w1 ⟨hj,hx,ho⟩;simp only at hj ho ⊢;refine Gg ?_;constructor
 . intro h;have hj0:j=0:=(by have:(j:Int)<1:=Su h;omega);subst hj0;have ho0:Own Qvs 1 104 w.heap.size w1 A1 c1 []:=ho;obtain⟨a,ha,hca⟩:=(hs.ext hx).get (k:=0) (show 0 < [()].length by decide);refine Gg ?_;refine⟨a,⟨ha,Om,Om⟩,Gg ?_⟩;refine⟨Qss,Qs hca,Gg ?_⟩;refine⟨.tuple #[.agg #[.slice none 0 0],.bool false],w1,by kernel_rfl,?_⟩;refine Gg ?_;intro b2 w2 hn2;refine Gg ?_;refine Qc Qb (e:=ty227) rfl hn2.At rfl rfl rfl Oj fun w3 h3 ho3 => ?_
   have hx3:Ext w1 w3:=ho3.ext hn2.ext (by have:=hn2.block;omega);clear ho3 h3 hn2;refine Gg ?_;constructor
   . intro hq;exact absurd hq (by decide)
   intro _;refine Gg ?_;intro b4 w4 hn4;refine Gg ?_;have ho4:Own Qvs 1 104 w.heap.size w4 A1 c1 []:=ho0.ext (hx3.trans hn4.ext);refine Qq Q1n (l := []) (news := [()]) rfl ho4 rfl (Q1n.new1 (x:=()) hn4) (by simp) (by have:=(hx.trans hx3).size;have:=hn4.size;omega) fun A2 c2 w5 hown5 hg5 hA5 => ?_
   have hx5:Ext w w5:=Qu ((hx.trans hx3).trans hn4.ext) hg5 (Xq ho4);refine Gg ?_;refine⟨1,rfl,?_⟩;refine Gg ?_;exact⟨(1,A2,c2),Sj,⟨by simp,hx5,hown5⟩,Rr⟩
 . intro h;have hj1:j=1:=(by have:¬ (j:Int)<1:=Su h;omega);subst hj1;refine Gg ?_;constructor
   . intro _;refine Gg ?_;have hs1:Sl Qvs 1 w1 A1 [()]:=(show Own Qvs 1 104 w.heap.size w1 A1 c1 [()] from ho).sl Qju;obtain⟨a,ha,hca⟩:=hs1.get (k:=0) (show 0 < [()].length by decide);refine⟨a,⟨ha,Om,Om⟩,Gg ?_⟩;refine⟨Qss,Qs hca,Gg ?_⟩;exact⟨rfl,hx⟩
   intro hq;exact absurd hq (by decide)
set_option maxHeartbeats 2000000 in
theorem Qxx (w:World) (A:Option Addr) (c:Nat) (hs:Sl Qvs 1 w A [()]):Cal Tryz.prog 127 [.slice A 1 c] w fun r w'=>r=Qss/\Ext w w':=by
 refine Fi Tryz.func127 rfl _ rfl rfl (Hh ?_)
 refine Qh Qb (fun(x:Nat×Option Addr×Nat) w'=>x.1<=1/\Ext w w'/\Own Qvs 1 104 w.heap.size w' x.2.1 x.2.2 (if x.1=0 then [] else [()]))
  (fun x => [(0,.slice A 1 c),(3,.slice x.2.1 x.1 x.2.2),(8,.slice A 1 c),(9,Vj 1),(10,Vj (x.1:Nat))]) (fun x=>1-x.1) (0,none,0) ⟨by simp,Ext.refl _,Own.nil⟩ Rr ?_
 rintro ⟨j,A1,c1⟩ w1 ⟨hj,hx,ho⟩;simp only at hj ho ⊢;refine Gg ?_;constructor
 . intro h;have hj0:j=0:=(by have:(j:Int)<1:=Su h;omega);subst hj0;have ho0:Own Qvs 1 104 w.heap.size w1 A1 c1 []:=ho;obtain⟨a,ha,hca⟩:=(hs.ext hx).get (k:=0) (show 0 < [()].length by decide);refine Gg ?_;refine⟨a,⟨ha,Om,Om⟩,Gg ?_⟩;refine⟨Qss,Qs hca,Gg ?_⟩;refine⟨.tuple #[.agg #[.slice none 0 0],.bool false],w1,by kernel_rfl,?_⟩;refine Gg ?_;intro b2 w2 hn2;refine Gg ?_;refine Qc Qb (e:=ty309) rfl hn2.At rfl rfl rfl Oj fun w3 h3 ho3 => ?_
   have hx3:Ext w1 w3:=ho3.ext hn2.ext (by have:=hn2.block;omega);clear ho3 h3 hn2;refine Gg ?_;constructor
   . intro hq;exact absurd hq (by decide)
   intro _;refine Gg ?_;intro b4 w4 hn4;refine Gg ?_;have ho4:Own Qvs 1 104 w.heap.size w4 A1 c1 []:=ho0.ext (hx3.trans hn4.ext);refine Qq Q1n (l := []) (news := [()]) rfl ho4 rfl (Q1n.new1 (x:=()) hn4) (by simp) (by have:=(hx.trans hx3).size;have:=hn4.size;omega) fun A2 c2 w5 hown5 hg5 hA5 => ?_
   have hx5:Ext w w5:=Qu ((hx.trans hx3).trans hn4.ext) hg5 (Xq ho4);refine Gg ?_;refine⟨1,rfl,?_⟩;refine Gg ?_;exact⟨(1,A2,c2),Sj,⟨by simp,hx5,hown5⟩,Rr⟩
 . intro h;have hj1:j=1:=(by have:¬ (j:Int)<1:=Su h;omega);subst hj1;refine Gg ?_;constructor
   . intro _;refine Gg ?_;have hs1:Sl Qvs 1 w1 A1 [()]:=(show Own Qvs 1 104 w.heap.size w1 A1 c1 [()] from ho).sl Qju;obtain⟨a,ha,hca⟩:=hs1.get (k:=0) (show 0 < [()].length by decide);refine⟨a,⟨ha,Om,Om⟩,Gg ?_⟩;refine⟨Qss,Qs hca,Gg ?_⟩;exact⟨rfl,hx⟩
   intro hq;exact absurd hq (by decide)
theorem Q2f (w:World):Cal Tryz.prog 322 [.string ⟨#[48]⟩] w fun r w'=>r = .tuple #[Vj 0,.nilIface]/\Ext w w':=by
 refine Qa9 ⟨_,Tryz.func322,rfl,rfl⟩ (Tryz.strconv_Atoi ⟨#[48]⟩ 0 (by decide) (by rfl) w) ?_;rintro w' ⟨t,rfl⟩;exact⟨rfl,rfl,rfl,rfl,by rw[Lib.bytesWorld_size];omega,fun k hk=>Lib.bytesWorld_at_old w _ _ k hk⟩
set_option maxHeartbeats 2000000 in
theorem Q3q (w:World) (hgl:Gl w):Cal Tryz.prog 256 [.string stk] w fun r w'=>r = .tuple #[Qss,.bool true]/\Ext w w':=by
 refine Fi Tryz.func256 rfl _ rfl rfl (Hh ?_);constructor
 . intro hq;exact absurd hq (by decide)
 intro _;refine Gg ?_;refine(Qjn stk ⟨#[58,60,62]⟩ w (by decide) (by decide) Xaj).mono ?_;rintro _ w2 ⟨rfl,hx2⟩;rw[show Lib.indexAny stk.data.toList [58,60,62]=5 from rfl];refine Gg ?_;constructor
 . intro hq;exact absurd hq (by decide)
 intro _;refine Gg ?_;refine Dr .same [0,1,2,3,4,5,6,7,8,9,10,11,12] [] (Hh ?_);replace hx2:=hx2.drew;generalize w2.drew=w3 at hx2 ⊢;refine Gg ?_;refine⟨⟨by decide,by decide⟩,?_⟩;rw[show stk.extract 0 ((5:Int)).toNat=⟨#[115,116,111,99,107]⟩ from rfl];refine Gg ?_;refine⟨62,⟨by decide,rfl⟩,?_⟩;refine Gg ?_;refine⟨6,rfl,?_⟩;refine Gg ?_;refine⟨⟨by decide,by decide⟩,?_⟩;rw[show stk.extract ((6:Int)).toNat stk.size=⟨#[48]⟩ from rfl];refine Gg ?_;constructor
 . intro hq;exact absurd hq (by decide)
 intro _;refine Gg ?_;constructor
 . intro hq;exact absurd hq (by decide)
 intro _;refine Gg ?_;constructor
 . intro _;refine Gg ?_;constructor
   . intro _;refine Gg ?_;refine(Q2f w3).mono ?_;rintro _ w4 ⟨rfl,hx4⟩;refine Gg ?_;refine⟨true,fun w'=>⟨by kernel_rfl,by kernel_rfl⟩,?_⟩;refine Gg ?_;refine⟨Unit,fun _=>(.string (Qr1 (0:Int).toNat)),fun _ w'=>Ext w4 w',(),fun hg=>((Qfv 0 w4 (hgl.ext (hx2.trans hx4)) (by decide) (by decide))).mono fun r w' h=>⟨(),h.1,h.2⟩,?_⟩;intro _ w5 h2
     have hx5:Ext w4 w5:=by
      rcases h2 with⟨_,h⟩ | ⟨_,h⟩
      . exact h
      . rw[h];exact Ext.refl _
     clear h2;refine Hh ?_;rw[show Qr1 (0:Int).toNat=(⟨#[48]⟩:Bj) by kernel_rfl];constructor
     . intro hq;exact absurd hq (by decide)
     intro _;refine Gg ?_;refine⟨fun w' _=>by kernel_rfl,?_⟩;refine Gg ?_;exact⟨rfl,(hx2.trans hx4).trans hx5⟩
   intro hq;exact absurd hq (by decide)
 intro hq;exact absurd hq (by decide)
theorem Q2g (w:World) (hg:Gl w) (p:Nat) (A:Option Addr) (c:Nat) (h:At w p 102 (prC A 1 c)) (hc:1<=c) (hs:Sl Q5g 2 w A [(stk,0)]) :
 Cal Tryz.prog 192 [Pj p] w fun r w'=>r=Qss/\(∃ A' c',At w' p 102 (prC A' 0 c'))/\∀ w0,Ext w0 w->w0.heap.size<=p->Ext w0 w':=by
 refine Fi Tryz.func192 rfl _ rfl rfl (Hh ?_);refine(Qqt w p A c h hs).mono ?_;rintro _ w1 ⟨rfl,hx1⟩;refine Gg ?_;constructor
 . intro _;refine Gg ?_;refine(Q3q w1 (hg.ext hx1)).mono ?_;rintro _ w2 ⟨rfl,hx2⟩;refine Gg ?_;constructor
   . intro hq;exact absurd hq (by decide)
   intro _;refine Gg ?_;have hx12:=hx1.trans hx2;refine(Xaz w2 p A c (h.ext hx12) hc).mono ?_;rintro _ w3 ⟨rfl,h3,ho3⟩;refine Gg ?_;exact⟨rfl,h3,fun w0 hx hp=>ho3.ext (hx.trans hx12) hp⟩
 intro hq;exact absurd hq (by decide)
theorem Q8t (w:World) (hg:Gl w) (p:Nat) (A:Option Addr) (c:Nat) (h:At w p 102 (prC A 1 c)) (hc:1<=c) (hs:Sl Q5g 2 w A [(stk,0)]) :
 Cal Tryz.prog 126 [Pj p] w fun r w'=>r=Qss/\(∃ A' c',At w' p 102 (prC A' 0 c'))/\∀ w0,Ext w0 w->w0.heap.size<=p->Ext w0 w':=by
 refine Fi Tryz.func126 rfl _ rfl rfl (Hh ?_);refine(Qqt w p A c h hs).mono ?_;rintro _ w1 ⟨rfl,hx1⟩;refine Gg ?_;constructor
 . intro _;refine Gg ?_;refine(Q2g w1 (hg.ext hx1) p A c (h.ext hx1) hc (hs.ext hx1)).mono ?_;rintro _ w2 ⟨rfl,h2,hx2⟩;refine Gg ?_;exact⟨rfl,h2,fun w0 hx hp=>hx2 w0 (hx.trans hx1) hp⟩
 intro hq;exact absurd hq (by decide)
def Q53 (w w':World) (p:Nat):Prop:=(∃ A' c',At w' p 102 (prC A' 0 c'))/\∀ w0,Ext w0 w->w0.heap.size<=p->Ext w0 w'
theorem Q6c (w:World) (hg:Gl w) (p:Nat) (A:Option Addr) (c:Nat) (h:At w p 102 (prC A 1 c)) (hc:1<=c) (hs:Sl Q5g 2 w A [(stk,0)]) :
 Cal Tryz.prog 70 [Pj p] w fun r w'=>r=Qss/\Q53 w w' p:=by
 refine Fi Tryz.func70 rfl _ rfl rfl (Hh ?_);refine(Q8t w hg p A c h hc hs).mono ?_;rintro _ w1 ⟨rfl,⟨A1,c1,h1⟩,hx1⟩;refine Gg ?_;intro b2 w2 hn2;refine Gg ?_;have hs2:=Qak (enc:=Qvs) (l := [()]) Qju hn2;have h2:=h1.ext hn2.ext;refine Qh Qb (fun(_:Unit) w'=>w'=w2) (fun _ => [(0,Pj p),(3,.slice (some ⟨b2,0,none⟩) 1 1)]) (fun _=>0) () rfl Rr ?_;rintro _ _ rfl;refine Gg ?_;refine(Qqs _ p A1 c1 h2).mono ?_;rintro _ w3 ⟨rfl,hx3⟩;refine Gg ?_;constructor
 . intro hq;exact absurd hq (by decide)
 intro _;refine Gg ?_;refine(Qxx w3 _ 1 (hs2.ext hx3)).mono ?_;rintro _ w4 ⟨rfl,hx4⟩;refine Gg ?_;exact⟨rfl,⟨A1,c1,h2.ext (hx3.trans hx4)⟩,fun w0 hx hp=>((hx1 w0 hx hp).trans hn2.ext).trans (hx3.trans hx4)⟩
theorem Xcx (w:World) (hg:Gl w) (p:Nat) (A:Option Addr) (c:Nat) (h:At w p 102 (prC A 1 c)) (hc:1<=c) (hs:Sl Q5g 2 w A [(stk,0)]) :
 Cal Tryz.prog 25 [Pj p] w fun r w'=>r=Qss/\Q53 w w' p:=by
 refine Fi Tryz.func25 rfl _ rfl rfl (Hh ?_);refine(Q6c w hg p A c h hc hs).mono ?_;rintro _ w1 ⟨rfl,⟨A1,c1,h1⟩,hx1⟩;refine Gg ?_;intro b2 w2 hn2;refine Gg ?_;have hs2:=Qak (enc:=Qvs) (l := [()]) Qju hn2;have h2:=h1.ext hn2.ext;refine Qh Qb (fun(_:Unit) w'=>w'=w2) (fun _ => [(0,Pj p),(3,.slice (some ⟨b2,0,none⟩) 1 1)]) (fun _=>0) () rfl Rr ?_;rintro _ _ rfl;refine Gg ?_;refine(Qqs _ p A1 c1 h2).mono ?_;rintro _ w3 ⟨rfl,hx3⟩;refine Gg ?_;constructor
 . intro hq;exact absurd hq (by decide)
 intro _;refine Gg ?_;refine(Q4w w3 _ 1 (hs2.ext hx3)).mono ?_;rintro _ w4 ⟨rfl,hx4⟩;refine Gg ?_;exact⟨rfl,⟨A1,c1,h2.ext (hx3.trans hx4)⟩,fun w0 hx hp=>((hx1 w0 hx hp).trans hn2.ext).trans (hx3.trans hx4)⟩
theorem Qit (w:World) (hg:Gl w):Cal Tryz.prog 9 [.string stk] w fun r w'=>(∃ b,r = .tuple #[Pj b,Vj 0,Vj 0]/\At w' b 106 [Qss]/\w.heap.size<=b)/\Ext w w':=by
 refine Fi Tryz.func9 rfl _ rfl rfl (Hh ?_);constructor
 . intro hq;exact absurd hq (by decide)
 intro _;refine Gg ?_;refine(Qzy w).mono ?_;rintro _ w1 ⟨A,c,rfl,hc,hs,hx1⟩;refine Gg ?_;intro p w2 hn2;refine Gg ?_;have h2:At w2 p 102 (prC A 1 c):=hn2.At;have hx2:=hx1.trans hn2.ext;have hp:=hn2.block;have hs2:=hs.ext hn2.ext;clear hn2;refine⟨.slice A 1 c,h2.one rfl,Gg ?_⟩;constructor
 . intro hq;exact absurd hq (by decide)
 intro _;refine Gg ?_;refine(Xcx w2 (hg.ext hx2) p A c h2 hc hs2).mono ?_;rintro _ w3 ⟨rfl,⟨A3,c3,h3⟩,hx3⟩;have hx3:=hx3 w hx2 (by have:=hx1.size;omega);refine Gg ?_;refine⟨.bool false,h3.one rfl,Gg ?_⟩;refine⟨.slice A3 0 c3,fun _=>h3.one rfl,Gg ?_⟩;constructor
 . intro hq;exact absurd hq (by decide)
 intro _;refine Gg ?_;refine⟨.bool false,h3.one rfl,Gg ?_⟩;constructor
 . intro hq;exact absurd hq (by decide)
 intro _;refine Gg ?_;intro b4 w4 hn4;refine Gg ?_;exact⟨⟨b4,rfl,hn4.At,by have:=hx3.size;have:=hn4.block;omega⟩,hx3.trans hn4.ext⟩
