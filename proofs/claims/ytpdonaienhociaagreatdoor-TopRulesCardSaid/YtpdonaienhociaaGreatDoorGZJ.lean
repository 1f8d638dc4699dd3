import Derived.Test.YtpdonaienhociaaGreatDoorGZA
import Derived.Test.YtpdonaienhociaaGreatDoorGZH
import Derived.Test.YtpdonaienhociaaGreatDoorGU
import Derived.Test.YtpdonaienhociaaGreatDoorGYF
set_option linter.all false
namespace Go.Proofs
open Go.Shelf
def Tryz.sortChoice_ren:Go.Shelf.Ren:=⟨fun | 6=>129 | 15=>168 | 14=>193 | 28=>241 | 29=>242 | 20=>257 | 21=>258 | 22=>259 | 23=>260 | 24=>261 | 25=>262 | 26=>263 | 27=>264 | 46=>323 | 47=>311 | 48=>312 | 49=>324 | 50=>325 | 57=>367 | n=>n,fun | 22=>50 | 24=>68 | 25=>230 | 3=>3 | 39=>184 | 0=>0 | 53=>357 | 55=>30 | 4=>4 | 46=>351 | 45=>350 | 50=>340 | 5=>5 | 9=>9 | 66=>416 | 70=>420 | 76=>457 | 77=>458 | n=>n,fun | n=>n⟩
theorem Tryz.sortChoice:Go.Proofs.SlLaysF0.n6 Tryz.prog Tryz.sortChoice_ren:={
 mixed:=Kr
 f6:=⟨Tryz.f129.name,by decide,Tryz.func129.trans Cj⟩
 f14:=⟨Tryz.f193.name,by decide,Tryz.func193.trans Cj⟩
 f15:=Kr
 f20:=⟨Tryz.f257.name,by decide,Tryz.func257.trans Cj⟩
 f21:=⟨Tryz.f258.name,by decide,Tryz.func258.trans Cj⟩
 f22:=⟨Tryz.f259.name,by decide,Tryz.func259.trans Cj⟩
 f23:=⟨Tryz.f260.name,by decide,Tryz.func260.trans Cj⟩
 f24:=⟨Tryz.f261.name,by decide,Tryz.func261.trans Cj⟩
 f25:=⟨Tryz.f262.name,by decide,Tryz.func262.trans Cj⟩
 f26:=⟨Tryz.f263.name,by decide,Tryz.func263.trans Cj⟩
 f27:=⟨Tryz.f264.name,by decide,Tryz.func264.trans Cj⟩
 f28:=Kr,f29:=Kr
 f46:=⟨Tryz.f323.name,by decide,Tryz.func323.trans Cj⟩
 f47:=Kr,f48:=Kr
 f49:=⟨Tryz.f324.name,by decide,Tryz.func324.trans Cj⟩
 f50:=⟨Tryz.f325.name,by decide,Tryz.func325.trans Cj⟩
 f57:=⟨Tryz.f367.name,by decide,Tryz.func367.trans Cj⟩
 t0:=Kr,a0:=Ku,z0:=Ku,v0:=Ku,t3:=Kr,a3:=Ku,z3:=Ku,v3:=Ku,t4:=Kr,a4:=Ku,z4:=Ku,v4:=Ku,t5:=Kr,a5:=Ku,z5:=Ku,v5:=Ku,t9:=Kr,a9:=Ku,z9:=Ku,v9:=Ku,t22:=Kr,a22:=Ku,z22:=Ku,v22:=Ku,t25:=Kr,a25:=Ku,z25:=Ku,v25:=Ku,t39:=Kr,a39:=Ku,z39:=Ku,v39:=Ku,t45:=Kr,a45:=Ku,z45:=Ku,v45:=Ku,t46:=Kr,a46:=Ku,z46:=Ku,v46:=Ku,t50:=Kr,a50:=Ku,z50:=Ku,v50:=Ku,t53:=Kr,a53:=Ku,z53:=Ku,v53:=Ku,t55:=Kr,a55:=Ku,z55:=Ku,v55:=Ku,t66:=Kr,a66:=Ku,z66:=Ku,v66:=Ku,t70:=Kr,a70:=Ku,z70:=Ku,v70:=Ku,t76:=Kr,a76:=Ku,z76:=Ku,v76:=Ku,t77:=Kr,a77:=Ku,z77:=Ku
 v77:=Tryz.zeroValue458 }
end Go.Proofs
namespace Go.Proofs.YtpdonaienhociaaGreatDoor
open Go.Se Go.RowKit Go.Sort Go.Shelf
end Go.Proofs.YtpdonaienhociaaGreatDoor
namespace Go.Proofs.YtpdonaienhociaaGreatDoor
open Go.Se Go.RowKit
theorem Qe2 (n high:Int) (w:World) (h:0<=n/\n<=high):Cal Tryz.prog 74 [Vj n,Vj high] w fun r w'=>r = .bool true/\Ext w w':=by
 refine Fi Tryz.func74 rfl _ rfl rfl (Hh ?_);exact⟨by simp[h.1,h.2],Ext.refl _⟩
theorem Qxt (s:Bj) (w:World):Cal Tryz.prog 28 [.string s] w fun r w'=>r = .bool (Qr s)/\Ext w w' :=
 (Qb4 s w).mono fun r w' h=>⟨h.1,by rw[h.2];exact Ext.refl _⟩
theorem Qxu (s:Bj) (hs:Qr s=true) (w:World):Cal Tryz.prog 28 [.string s] w fun r w'=>r = .bool true/\Ext w w' :=
 (Qb4 s w).mono fun r w' h=>⟨by rw[h.1,hs],by rw[h.2];exact Ext.refl _⟩
section
variable {c:Cfg} {every seed:Int} {b:Nat} {w:World}
theorem Xih (h:At w b 32 (Qap c (Qaq 6) every seed)):Xp w ⟨b,0,none⟩ (Qrp c):=At.sub (pre := []) (post:=(Qap c (Qaq 6) every seed).drop 6) h
end
set_option maxHeartbeats 2000000 in
theorem Q66 (c:Cfg) (hcf:Qw6 c=true) (every seed:Int) (he:0<=every/\every<=3) (w:World) (hg:Gl w):Cal Tryz.prog 27 [.agg (Qap c (Qaq 6) every seed).toArray] w fun r w'=>r = .bool true/\Ext w w':=by
 refine Fi Tryz.func27 rfl _ rfl rfl (Hh ?_);intro b1 w1 hn1;have h1:At w1 b1 32 (Qap c (Qaq 6) every seed):=hn1.At;have hx1:=hn1.ext;clear hn1;refine Gg ?_;refine⟨Qrp c,⟨rfl,Xih h1⟩,Gg ?_⟩;refine(Qw5 c w1).mono ?_;rintro _ w2 ⟨rfl,hx2⟩;rw[hcf];replace h1:=h1.ext hx2;replace hx1:=hx1.trans hx2;clear hx2;refine Gg ?_;refine⟨_,fun _=>h1.one rfl,Gg ?_⟩;refine⟨Unit,fun _=>(.bool true),fun _ w'=>Ext w2 w',(),fun hg=>((Qe2 1073741824 1099511627776 w2 ⟨by decide,by decide⟩)).mono fun r w' h=>⟨(),h.1,h.2⟩,?_⟩;intro _ w3 h2
 have hx3:Ext w2 w3:=by
  rcases h2 with⟨_,h⟩ | ⟨_,h⟩
  . exact h
  . rw[h];exact Ext.refl _
 clear h2;refine Hh ?_;replace h1:=h1.ext hx3;replace hx1:=hx1.trans hx3;clear hx3;refine⟨_,fun _=>h1.one rfl,Gg ?_⟩;refine⟨Unit,fun _=>(.bool true),fun _ w'=>Ext w3 w',(),fun hg=>((Qe2 0 1099511627776 w3 ⟨by decide,by decide⟩)).mono fun r w' h=>⟨(),h.1,h.2⟩,?_⟩;intro _ w4 h2
 have hx4:Ext w3 w4:=by
  rcases h2 with⟨_,h⟩ | ⟨_,h⟩
  . exact h
  . rw[h];exact Ext.refl _
 clear h2;refine Hh ?_;replace h1:=h1.ext hx4;replace hx1:=hx1.trans hx4;clear hx4;constructor
 . intro h;exact absurd h (by decide)
 intro _;refine Gg ?_;refine⟨_,h1.one rfl,Gg ?_⟩;refine(Qit w4 (hg.ext hx1)).mono ?_;rintro _ w5 ⟨⟨b5,rfl,_,_⟩,hx5⟩;replace h1:=h1.ext hx5;replace hx1:=hx1.trans hx5;clear hx5;refine Gg ?_;refine⟨_,h1.one rfl,Gg ?_⟩;refine(Qe2 5 1000 w5 ⟨by decide,by decide⟩).mono ?_;rintro _ w6 ⟨rfl,hx6⟩;replace h1:=h1.ext hx6;replace hx1:=hx1.trans hx6;clear hx6;refine Gg ?_;refine⟨_,fun _=>h1.one rfl,Gg ?_⟩;refine⟨Unit,fun _=>(.bool true),fun _ w'=>Ext w6 w',(),fun hg=>((Qe2 every 1000 w6 ⟨he.1,Om⟩)).mono fun r w' h=>⟨(),h.1,h.2⟩,?_⟩;intro _ w7 h2
 have hx7:Ext w6 w7:=by
  rcases h2 with⟨_,h⟩ | ⟨_,h⟩
  . exact h
  . rw[h];exact Ext.refl _
 clear h2;refine Hh ?_;replace h1:=h1.ext hx7;replace hx1:=hx1.trans hx7;clear hx7;refine⟨_,fun _=>h1.one rfl,Gg ?_⟩;refine⟨Unit,fun _=>(.bool (Qr ⟨#[111,119,110]⟩)),fun _ w'=>Ext w7 w',(),fun hg=>((Qxt ⟨#[111,119,110]⟩ w7)).mono fun r w' h=>⟨(),h.1,h.2⟩,?_⟩;intro _ w8 h2
 have hx8:Ext w7 w8:=by
  rcases h2 with⟨_,h⟩ | ⟨_,h⟩
  . exact h
  . rw[h];exact Ext.refl _
 clear h2;refine Hh ?_;have hon:Qr (⟨#[111,119,110]⟩:Bj)=true:=by decide +kernel
 exact⟨by simp[hon],hx1.trans hx8⟩
def Xhk:List Value := [.slice none 0 0,.slice none 0 0,.slice none 0 0,Vj 0]
