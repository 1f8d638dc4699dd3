/- Several texts in one: Ru1, Ru2, Ru3, Ru4. -/
import Derived.Test.YtohkipkjleldpaaGreatDoorGC
import Derived.Test.YtohkipkjleldpaaGreatDoorHShelf2
set_option linter.unusedVariables false
set_option linter.unusedSimpArgs false
namespace Go.Proofs.YtohkipkjleldpaaGreatDoor
open Go.Se Go.RowKit
def stk:ByteArray:=⟨#[115,116,111,99,107,62,48]⟩
theorem Q50 (j:Nat) (b:UInt8) (h:stk.data.toList[j]? = some b):b.toNat<128:=(by decide:∀ b∈stk.data.toList,b.toNat<128) b (List.mem_of_getElem? h)
abbrev Tok:=ByteArray×Int
def Q1o (x:Tok):List Value := [.string x.1,.int .i64 x.2]
theorem Qyq (x:Tok):(Q1o x).length=2:=rfl
theorem Q9e:Qne Tryz.prog 225 306 Q1o 2 24:=⟨by kernel_rfl,⟨_,ty306_ok,rfl,rfl⟩,by306,by decide,by decide,Qyq,fun x=>by simp[Q1o,Value.oneCell']⟩
theorem Qia (s ch:ByteArray) (w:World) (h1:2≤ch.size) (h2:s.size≤8) (ha:∀ (j:Nat) b,s.data.toList[j]? = some b→b.toNat<128) :
 Cal Tryz.prog 182 [.string s,.string ch] w fun r w'=>r = .int .i64 (Lib.indexAny s.data.toList ch.data.toList)∧Ext w w':=by
 refine Qa3 ⟨_,Tryz.func182,rfl,rfl⟩ (Tryz.strings_IndexAny_short s ch w h1 h2 ha) ?_;rintro w' ⟨pos,rfl⟩
 exact⟨rfl,(Below.refl _ _).alloc (Nat.le_refl _) _⟩
theorem Xa3 {α:Type} {enc:α→List Value} {sz:Nat} {te:TypeId} {base:Nat} {w:World} {A:Option Addr} {c:Nat} {l:List α} (h:Own enc sz te base w A c l):l.length≤c:=by
 rcases h.2 with⟨hv,h1⟩ | ⟨g,cap,cur,hv,hb,hg,hc1,_⟩
 · omega
 · injection hv with _ _ hcc
   omega
set_option maxHeartbeats 2000000 in
theorem Qwv (w:World):Cal Tryz.prog 111 [.string stk] w fun r w'=>∃ A c,r = .slice A 1 c∧1≤c∧Sl Q1o 2 w' A [(stk,0)]∧Ext w w':=by
 refine Fi Tryz.func111 rfl _ rfl rfl (Hh ?_)
 refine Qh Qa (fun(x:Nat×Option Addr×Nat) w'=>x.1≤1∧Ext w w'∧Own Q1o 2 306 w.heap.size w' x.2.1 x.2.2 (if x.1=0 then [] else [(stk,(0:Int))]))
  (fun x => [(0,.string stk),(3,.slice x.2.1 x.1 x.2.2),(4,.int .i64 (7*x.1:Nat))]) (fun x=>1-x.1) (0,none,0) ⟨by simp,Ext.refl _,Own.nil⟩ Rr ?_
 rintro ⟨j,A,c⟩ w1 ⟨hj,hx,ho⟩;simp only at hj ho ⊢;refine Gg ?_;constructor
 · intro h
   have hj0:j=0:=by
    have h2:((7*j:Nat):Int)<((stk.size:Nat):Int):=by simpa using h
    have h3:stk.size=7:=rfl;omega
   subst hj0;refine Gg ?_;refine⟨115,⟨by omega,rfl⟩,?_⟩;refine Gg ?_;constructor
   · intro hq
     exact absurd hq (by decide)
   intro _;refine Gg ?_;constructor
   · intro hq
     exact absurd hq (by decide)
   intro _;refine Gg ?_;constructor
   · intro hq
     exact absurd hq (by decide)
   intro _;refine Gg ?_;refine⟨⟨by omega,by simp⟩,?_⟩;rw[show stk.extract (((7*0:Nat):Int)).toNat stk.size=stk from rfl];refine Gg ?_;refine(Qia stk ⟨#[32,40,41]⟩ w1 (by decide) (by decide) Q50).mono ?_;rintro _ w2 ⟨rfl,hx2⟩;rw[show Lib.indexAny stk.data.toList [32,40,41] = -1 from rfl];replace hx:=hx.trans hx2;replace ho:=ho.ext hx2;clear hx2;refine Gg ?_;constructor
   · intro _
     refine Gg ?_;refine⟨7,rfl,?_⟩;refine Gg ?_;refine⟨7,rfl,?_⟩;refine Gg ?_;refine⟨⟨by omega,by omega,by decide⟩,?_⟩;rw[show stk.extract (((7*0:Nat):Int)).toNat ((7:Int)).toNat=stk from rfl];refine Gg ?_;intro b3 w3 hn3;refine Gg ?_;have ho':Own Q1o 2 306 w.heap.size w3 A c []:=(show Own Q1o 2 306 w.heap.size w2 A c [] from ho).ext hn3.ext;refine Qs Q9e (l := []) (news := [(stk,(0:Int))]) rfl ho' rfl (Q9e.new1 (x:=(stk,(0:Int))) hn3) (by simp) (by have:=hx.size;have:=hn3.size;omega) fun A2 c2 w4 hown2 hg2 hA2 => ?_
     have hx4:Ext w w4:=Qr (hx.trans hn3.ext) hg2 (Xy ho');refine Gg ?_;refine⟨7,rfl,?_⟩;refine Gg ?_
     exact⟨(1,A2,c2),by simp only;omega,⟨by simp,hx4,hown2⟩,Rr⟩
   intro hq
   exact absurd hq (by decide)
 · intro h
   have hj1:j=1:=by
    have h2:¬ ((7*j:Nat):Int)<((stk.size:Nat):Int):=by simpa using h
    have h3:stk.size=7:=rfl;omega
   subst hj1;refine Gg ?_
   exact⟨A,c,rfl,Xa3 (show Own Q1o 2 306 w.heap.size w1 A c [(stk,(0:Int))] from ho),ho.sl Qyq,hx⟩
def prC (A:Option Addr) (n c:Nat):List Value := [.slice A n c,.int .i64 7,.int .i64 0,.bool false,.int .i64 0]
theorem Qn4 (w:World) (p:Nat) (A:Option Addr) (c:Nat) (h:At w p 228 (prC A 1 c)) (hs:Sl Q1o 2 w A [(stk,0)]) :
 Cal Tryz.prog 184 [.pointer (some ⟨p,0,none⟩)] w fun r w'=>r = .string stk∧Ext w w':=by
 refine Fi Tryz.func184 rfl _ rfl rfl (Hh ?_);refine⟨.bool false,h.one rfl,Hh ?_⟩;refine⟨.slice A 1 c,fun _=>h.one rfl,Gg ?_⟩;constructor
 · intro hq
   exact absurd hq (by decide)
 intro _;refine Gg ?_;refine⟨.slice A 1 c,h.one rfl,Hh ?_⟩;obtain⟨a,ha,hca⟩:=hs.get (k:=0) (show 0 < [(stk,(0:Int))].length by decide);refine⟨a,⟨ha,by omega,by omega⟩,Hh ?_⟩;refine⟨.string stk,Qv hca,Hh ?_⟩
 exact⟨rfl,Ext.refl _⟩
theorem Qn3 (w:World) (p:Nat) (A:Option Addr) (c:Nat) (h:At w p 228 (prC A 0 c)) :
 Cal Tryz.prog 184 [.pointer (some ⟨p,0,none⟩)] w fun r w'=>r = .string ⟨#[]⟩∧Ext w w':=by
 refine Fi Tryz.func184 rfl _ rfl rfl (Hh ?_);refine⟨.bool false,h.one rfl,Hh ?_⟩;refine⟨.slice A 0 c,fun _=>h.one rfl,Gg ?_⟩;constructor
 · intro _
   refine Gg ?_
   exact⟨rfl,Ext.refl _⟩
 intro hq
 exact absurd hq (by decide)
theorem Q6b (w:World) (p:Nat) (A:Option Addr) (c:Nat) (h:At w p 228 (prC A 1 c)) (hc:1≤c) :
 Cal Tryz.prog 185 [.pointer (some ⟨p,0,none⟩)] w fun r w'=>r = .tuple #[]∧(∃ A' c',At w' p 228 (prC A' 0 c'))∧Only w w' p:=by
 refine Fi Tryz.func185 rfl _ rfl rfl (Hh ?_);refine⟨.slice A 1 c,h.one rfl,Hh ?_⟩;refine⟨⟨by omega,by omega,by omega,by omega⟩,Hh ?_⟩;refine Qgx Qa (e:=ty225) rfl h rfl (show 0+1≤5 by decide) (by simp[Qg,Value.oneCell']) fun w1 h1 ho1 => ?_
 conv=>whnf
 exact⟨rfl,⟨_,_,h1⟩,ho1⟩
def Qx1:Value := .iface 489 (.agg #[.string ⟨#[115,116,111,99,107]⟩,.bool false,.int .i64 0])
def Qsp (_:Unit):List Value := [Qx1]
theorem Qig (x:Unit):(Qsp x).length=1:=rfl
theorem Qyc:Qne Tryz.prog 307 230 Qsp 1 16:=⟨by kernel_rfl,⟨_,ty230_ok,rfl,rfl⟩,by230,by decide,by decide,Qig,fun x=>by simp[Qsp,Qx1,Value.oneCell']⟩
set_option maxHeartbeats 2000000 in
theorem Q05 (w:World) (A:Option Addr) (c:Nat) (hs:Sl Qsp 1 w A [()]):Cal Tryz.prog 186 [.slice A 1 c] w fun r w'=>r=Qx1∧Ext w w':=by
 refine Fi Tryz.func186 rfl _ rfl rfl (Hh ?_)
 refine Qh Qa (fun(x:Nat×Option Addr×Nat) w'=>x.1≤1∧Ext w w'∧Own Qsp 1 230 w.heap.size w' x.2.1 x.2.2 (if x.1=0 then [] else [()]))
  (fun x => [(0,.slice A 1 c),(3,.slice x.2.1 x.1 x.2.2),(8,.slice A 1 c),(9,.int .i64 1),(10,.int .i64 (x.1:Nat))]) (fun x=>1-x.1) (0,none,0) ⟨by simp,Ext.refl _,Own.nil⟩ Rr ?_
 rintro ⟨j,A1,c1⟩ w1 ⟨hj,hx,ho⟩;simp only at hj ho ⊢;refine Gg ?_;constructor
 · intro h
   have hj0:j=0:=by
    have:(j:Int)<1:=by simpa using h
    omega
   subst hj0;have ho0:Own Qsp 1 230 w.heap.size w1 A1 c1 []:=ho;obtain⟨a,ha,hca⟩:=(hs.ext hx).get (k:=0) (show 0 < [()].length by decide);refine Gg ?_;refine⟨a,⟨ha,by omega,by omega⟩,Gg ?_⟩;refine⟨Qx1,Qv hca,Gg ?_⟩;refine⟨.tuple #[.agg #[.slice none 0 0],.bool false],w1,by kernel_rfl,?_⟩;refine Gg ?_;intro b2 w2 hn2;refine Gg ?_;refine Qd Qa (e:=ty354) rfl hn2.At rfl rfl rfl (by simp[Qg,Value.oneCell']) fun w3 h3 ho3 => ?_
   have hx3:Ext w1 w3:=ho3.ext hn2.ext (by have:=hn2.block;omega);clear ho3 h3 hn2;refine Gg ?_;constructor
   · intro hq
     exact absurd hq (by decide)
   intro _;refine Gg ?_;intro b4 w4 hn4;refine Gg ?_;have ho4:Own Qsp 1 230 w.heap.size w4 A1 c1 []:=ho0.ext (hx3.trans hn4.ext);refine Qs Qyc (l := []) (news := [()]) rfl ho4 rfl (Qyc.new1 (x:=()) hn4) (by simp) (by have:=(hx.trans hx3).size;have:=hn4.size;omega) fun A2 c2 w5 hown5 hg5 hA5 => ?_
   have hx5:Ext w w5:=Qr ((hx.trans hx3).trans hn4.ext) hg5 (Xy ho4);refine Gg ?_;refine⟨1,rfl,?_⟩;refine Gg ?_
   exact⟨(1,A2,c2),by simp only;omega,⟨by simp,hx5,hown5⟩,Rr⟩
 · intro h
   have hj1:j=1:=by
    have:¬ (j:Int)<1:=by simpa using h
    omega
   subst hj1;refine Gg ?_;constructor
   · intro _
     refine Gg ?_;have hs1:Sl Qsp 1 w1 A1 [()]:=(show Own Qsp 1 230 w.heap.size w1 A1 c1 [()] from ho).sl Qig;obtain⟨a,ha,hca⟩:=hs1.get (k:=0) (show 0 < [()].length by decide);refine⟨a,⟨ha,by omega,by omega⟩,Gg ?_⟩;refine⟨Qx1,Qv hca,Gg ?_⟩
     exact⟨rfl,hx⟩
   intro hq
   exact absurd hq (by decide)
set_option maxHeartbeats 2000000 in
theorem Qu0 (w:World) (A:Option Addr) (c:Nat) (hs:Sl Qsp 1 w A [()]):Cal Tryz.prog 235 [.slice A 1 c] w fun r w'=>r=Qx1∧Ext w w':=by
 refine Fi Tryz.func235 rfl _ rfl rfl (Hh ?_)
 refine Qh Qa (fun(x:Nat×Option Addr×Nat) w'=>x.1≤1∧Ext w w'∧Own Qsp 1 230 w.heap.size w' x.2.1 x.2.2 (if x.1=0 then [] else [()]))
  (fun x => [(0,.slice A 1 c),(3,.slice x.2.1 x.1 x.2.2),(8,.slice A 1 c),(9,.int .i64 1),(10,.int .i64 (x.1:Nat))]) (fun x=>1-x.1) (0,none,0) ⟨by simp,Ext.refl _,Own.nil⟩ Rr ?_
 rintro ⟨j,A1,c1⟩ w1 ⟨hj,hx,ho⟩;simp only at hj ho ⊢;refine Gg ?_;constructor
 · intro h
   have hj0:j=0:=by
    have:(j:Int)<1:=by simpa using h
    omega
   subst hj0;have ho0:Own Qsp 1 230 w.heap.size w1 A1 c1 []:=ho;obtain⟨a,ha,hca⟩:=(hs.ext hx).get (k:=0) (show 0 < [()].length by decide);refine Gg ?_;refine⟨a,⟨ha,by omega,by omega⟩,Gg ?_⟩;refine⟨Qx1,Qv hca,Gg ?_⟩;refine⟨.tuple #[.agg #[.slice none 0 0],.bool false],w1,by kernel_rfl,?_⟩;refine Gg ?_;intro b2 w2 hn2;refine Gg ?_;refine Qd Qa (e:=ty423) rfl hn2.At rfl rfl rfl (by simp[Qg,Value.oneCell']) fun w3 h3 ho3 => ?_
   have hx3:Ext w1 w3:=ho3.ext hn2.ext (by have:=hn2.block;omega);clear ho3 h3 hn2;refine Gg ?_;constructor
   · intro hq
     exact absurd hq (by decide)
   intro _;refine Gg ?_;intro b4 w4 hn4;refine Gg ?_;have ho4:Own Qsp 1 230 w.heap.size w4 A1 c1 []:=ho0.ext (hx3.trans hn4.ext);refine Qs Qyc (l := []) (news := [()]) rfl ho4 rfl (Qyc.new1 (x:=()) hn4) (by simp) (by have:=(hx.trans hx3).size;have:=hn4.size;omega) fun A2 c2 w5 hown5 hg5 hA5 => ?_
   have hx5:Ext w w5:=Qr ((hx.trans hx3).trans hn4.ext) hg5 (Xy ho4);refine Gg ?_;refine⟨1,rfl,?_⟩;refine Gg ?_
   exact⟨(1,A2,c2),by simp only;omega,⟨by simp,hx5,hown5⟩,Rr⟩
 · intro h
   have hj1:j=1:=by
    have:¬ (j:Int)<1:=by simpa using h
    omega
   subst hj1;refine Gg ?_;constructor
   · intro _
     refine Gg ?_;have hs1:Sl Qsp 1 w1 A1 [()]:=(show Own Qsp 1 230 w.heap.size w1 A1 c1 [()] from ho).sl Qig;obtain⟨a,ha,hca⟩:=hs1.get (k:=0) (show 0 < [()].length by decide);refine⟨a,⟨ha,by omega,by omega⟩,Gg ?_⟩;refine⟨Qx1,Qv hca,Gg ?_⟩
     exact⟨rfl,hx⟩
   intro hq
   exact absurd hq (by decide)
theorem Qy3 (w:World):Cal Tryz.prog 371 [.string ⟨#[48]⟩] w fun r w'=>r = .tuple #[.int .i64 0,.nilIface]∧Ext w w':=by
 refine Qa3 ⟨_,Tryz.func371,rfl,rfl⟩ (Tryz.strconv_Atoi ⟨#[48]⟩ 0 (by decide) (by rfl) w) ?_;rintro w' ⟨t,rfl⟩
 exact⟨rfl,rfl,rfl,rfl,by rw[Lib.bytesWorld_size];omega,fun k hk=>Lib.bytesWorld_at_old w _ _ k hk⟩
set_option maxHeartbeats 2000000 in
theorem Qz8 (w:World) (hgl:Gl w):Cal Tryz.prog 344 [.string stk] w fun r w'=>r = .tuple #[Qx1,.bool true]∧Ext w w':=by
 refine Fi Tryz.func344 rfl _ rfl rfl (Hh ?_);constructor
 · intro hq
   exact absurd hq (by decide)
 intro _;refine Gg ?_;refine(Qia stk ⟨#[58,60,62]⟩ w (by decide) (by decide) Q50).mono ?_;rintro _ w2 ⟨rfl,hx2⟩;rw[show Lib.indexAny stk.data.toList [58,60,62]=5 from rfl];refine Gg ?_;constructor
 · intro hq
   exact absurd hq (by decide)
 intro _;refine Gg ?_;refine Dr .same [0,1,2,3,4,5,6,7,8,9,10,11,12] [] (Hh ?_);replace hx2:=hx2.drew;generalize w2.drew=w3 at hx2 ⊢;refine Gg ?_;refine⟨⟨by decide,by decide⟩,?_⟩;rw[show stk.extract 0 ((5:Int)).toNat=⟨#[115,116,111,99,107]⟩ from rfl];refine Gg ?_;refine⟨62,⟨by decide,rfl⟩,?_⟩;refine Gg ?_;refine⟨6,rfl,?_⟩;refine Gg ?_;refine⟨⟨by decide,by decide⟩,?_⟩;rw[show stk.extract ((6:Int)).toNat stk.size=⟨#[48]⟩ from rfl];refine Gg ?_;constructor
 · intro hq
   exact absurd hq (by decide)
 intro _;refine Gg ?_;constructor
 · intro hq
   exact absurd hq (by decide)
 intro _;refine Gg ?_;constructor
 · intro _
   refine Gg ?_;constructor
   · intro _
     refine Gg ?_;refine(Qy3 w3).mono ?_;rintro _ w4 ⟨rfl,hx4⟩;refine Gg ?_;refine⟨true,fun w'=>⟨by kernel_rfl,by kernel_rfl⟩,?_⟩;refine Gg ?_;refine⟨Unit,fun _=>(.string (Qru (0:Int).toNat)),fun _ w'=>Ext w4 w',(),fun hg=>((Qev 0 w4 (hgl.ext (hx2.trans hx4)) (by decide) (by decide))).mono fun r w' h=>⟨(),h.1,h.2⟩,?_⟩;intro _ w5 h2
     have hx5:Ext w4 w5:=by
      rcases h2 with⟨_,h⟩ | ⟨_,h⟩
      · exact h
      · rw[h];exact Ext.refl _
     clear h2
     conv=>whnf
     rw[show Qru (0:Int).toNat=(⟨#[48]⟩:ByteArray) by kernel_rfl];constructor
     · intro hq
       exact absurd hq (by decide)
     intro _;refine Gg ?_;refine⟨fun w' _=>by kernel_rfl,?_⟩;refine Gg ?_
     exact⟨rfl,(hx2.trans hx4).trans hx5⟩
   intro hq
   exact absurd hq (by decide)
 intro hq
 exact absurd hq (by decide)
theorem Qy4 (w:World) (hg:Gl w) (p:Nat) (A:Option Addr) (c:Nat) (h:At w p 228 (prC A 1 c)) (hc:1≤c) (hs:Sl Q1o 2 w A [(stk,0)]) :
 Cal Tryz.prog 303 [.pointer (some ⟨p,0,none⟩)] w fun r w'=>r=Qx1∧(∃ A' c',At w' p 228 (prC A' 0 c'))∧∀ w0,Ext w0 w→w0.heap.size≤p→Ext w0 w':=by
 refine Fi Tryz.func303 rfl _ rfl rfl (Hh ?_);refine(Qn4 w p A c h hs).mono ?_;rintro _ w1 ⟨rfl,hx1⟩;refine Gg ?_;constructor
 · intro _
   refine Gg ?_;refine(Qz8 w1 (hg.ext hx1)).mono ?_;rintro _ w2 ⟨rfl,hx2⟩;refine Gg ?_;constructor
   · intro hq
     exact absurd hq (by decide)
   intro _;refine Gg ?_;have hx12:=hx1.trans hx2;refine(Q6b w2 p A c (h.ext hx12) hc).mono ?_;rintro _ w3 ⟨rfl,h3,ho3⟩;refine Gg ?_
   exact⟨rfl,h3,fun w0 hx hp=>ho3.ext (hx.trans hx12) hp⟩
 intro hq
 exact absurd hq (by decide)
theorem Q4o (w:World) (hg:Gl w) (p:Nat) (A:Option Addr) (c:Nat) (h:At w p 228 (prC A 1 c)) (hc:1≤c) (hs:Sl Q1o 2 w A [(stk,0)]) :
 Cal Tryz.prog 234 [.pointer (some ⟨p,0,none⟩)] w fun r w'=>r=Qx1∧(∃ A' c',At w' p 228 (prC A' 0 c'))∧∀ w0,Ext w0 w→w0.heap.size≤p→Ext w0 w':=by
 refine Fi Tryz.func234 rfl _ rfl rfl (Hh ?_);refine(Qn4 w p A c h hs).mono ?_;rintro _ w1 ⟨rfl,hx1⟩;refine Gg ?_;constructor
 · intro _
   refine Gg ?_;refine(Qy4 w1 (hg.ext hx1) p A c (h.ext hx1) hc (hs.ext hx1)).mono ?_;rintro _ w2 ⟨rfl,h2,hx2⟩;refine Gg ?_
   exact⟨rfl,h2,fun w0 hx hp=>hx2 w0 (hx.trans hx1) hp⟩
 intro hq
 exact absurd hq (by decide)
def Q14 (w w':World) (p:Nat):Prop:=(∃ A' c',At w' p 228 (prC A' 0 c'))∧∀ w0,Ext w0 w→w0.heap.size≤p→Ext w0 w'
theorem Q2c (w:World) (hg:Gl w) (p:Nat) (A:Option Addr) (c:Nat) (h:At w p 228 (prC A 1 c)) (hc:1≤c) (hs:Sl Q1o 2 w A [(stk,0)]) :
 Cal Tryz.prog 183 [.pointer (some ⟨p,0,none⟩)] w fun r w'=>r=Qx1∧Q14 w w' p:=by
 refine Fi Tryz.func183 rfl _ rfl rfl (Hh ?_);refine(Q4o w hg p A c h hc hs).mono ?_;rintro _ w1 ⟨rfl,⟨A1,c1,h1⟩,hx1⟩;refine Gg ?_;intro b2 w2 hn2;refine Gg ?_;have hs2:=Qbd (enc:=Qsp) (l := [()]) Qig hn2;have h2:=h1.ext hn2.ext;refine Qh Qa (fun(_:Unit) w'=>w'=w2) (fun _ => [(0,.pointer (some ⟨p,0,none⟩)),(3,.slice (some ⟨b2,0,none⟩) 1 1)]) (fun _=>0) () rfl Rr ?_;rintro _ _ rfl;refine Gg ?_;refine(Qn3 _ p A1 c1 h2).mono ?_;rintro _ w3 ⟨rfl,hx3⟩;refine Gg ?_;constructor
 · intro hq
   exact absurd hq (by decide)
 intro _;refine Gg ?_;refine(Qu0 w3 _ 1 (hs2.ext hx3)).mono ?_;rintro _ w4 ⟨rfl,hx4⟩;refine Gg ?_
 exact⟨rfl,⟨A1,c1,h2.ext (hx3.trans hx4)⟩,fun w0 hx hp=>((hx1 w0 hx hp).trans hn2.ext).trans (hx3.trans hx4)⟩
theorem Q74 (w:World) (hg:Gl w) (p:Nat) (A:Option Addr) (c:Nat) (h:At w p 228 (prC A 1 c)) (hc:1≤c) (hs:Sl Q1o 2 w A [(stk,0)]) :
 Cal Tryz.prog 112 [.pointer (some ⟨p,0,none⟩)] w fun r w'=>r=Qx1∧Q14 w w' p:=by
 refine Fi Tryz.func112 rfl _ rfl rfl (Hh ?_);refine(Q2c w hg p A c h hc hs).mono ?_;rintro _ w1 ⟨rfl,⟨A1,c1,h1⟩,hx1⟩;refine Gg ?_;intro b2 w2 hn2;refine Gg ?_;have hs2:=Qbd (enc:=Qsp) (l := [()]) Qig hn2;have h2:=h1.ext hn2.ext;refine Qh Qa (fun(_:Unit) w'=>w'=w2) (fun _ => [(0,.pointer (some ⟨p,0,none⟩)),(3,.slice (some ⟨b2,0,none⟩) 1 1)]) (fun _=>0) () rfl Rr ?_;rintro _ _ rfl;refine Gg ?_;refine(Qn3 _ p A1 c1 h2).mono ?_;rintro _ w3 ⟨rfl,hx3⟩;refine Gg ?_;constructor
 · intro hq
   exact absurd hq (by decide)
 intro _;refine Gg ?_;refine(Q05 w3 _ 1 (hs2.ext hx3)).mono ?_;rintro _ w4 ⟨rfl,hx4⟩;refine Gg ?_
 exact⟨rfl,⟨A1,c1,h2.ext (hx3.trans hx4)⟩,fun w0 hx hp=>((hx1 w0 hx hp).trans hn2.ext).trans (hx3.trans hx4)⟩
theorem Qmd (w:World) (hg:Gl w):Cal Tryz.prog 74 [.string stk] w fun r w'=>(∃ b,r = .tuple #[.pointer (some ⟨b,0,none⟩),.int .i64 0,.int .i64 0]∧At w' b 232 [Qx1]∧w.heap.size≤b)∧Ext w w':=by
 refine Fi Tryz.func74 rfl _ rfl rfl (Hh ?_);constructor
 · intro hq
   exact absurd hq (by decide)
 intro _;refine Gg ?_;refine(Qwv w).mono ?_;rintro _ w1 ⟨A,c,rfl,hc,hs,hx1⟩;refine Gg ?_;intro p w2 hn2;refine Gg ?_;have h2:At w2 p 228 (prC A 1 c):=hn2.At;have hx2:=hx1.trans hn2.ext;have hp:=hn2.block;have hs2:=hs.ext hn2.ext;clear hn2;refine⟨.slice A 1 c,h2.one rfl,Gg ?_⟩;constructor
 · intro hq
   exact absurd hq (by decide)
 intro _;refine Gg ?_;refine(Q74 w2 (hg.ext hx2) p A c h2 hc hs2).mono ?_;rintro _ w3 ⟨rfl,⟨A3,c3,h3⟩,hx3⟩;have hx3:=hx3 w hx2 (by have:=hx1.size;omega);refine Gg ?_;refine⟨.bool false,h3.one rfl,Gg ?_⟩;refine⟨.slice A3 0 c3,fun _=>h3.one rfl,Gg ?_⟩;constructor
 · intro hq
   exact absurd hq (by decide)
 intro _;refine Gg ?_;refine⟨.bool false,h3.one rfl,Gg ?_⟩;constructor
 · intro hq
   exact absurd hq (by decide)
 intro _;refine Gg ?_;intro b4 w4 hn4;refine Gg ?_
 exact⟨⟨b4,rfl,hn4.At,by have:=hx3.size;have:=hn4.block;omega⟩,hx3.trans hn4.ext⟩
end Go.Proofs.YtohkipkjleldpaaGreatDoor
