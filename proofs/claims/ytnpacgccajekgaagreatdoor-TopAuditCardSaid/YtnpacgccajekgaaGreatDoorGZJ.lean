import Derived.Test.YtnpacgccajekgaaGreatDoorGZA
import Derived.Test.YtnpacgccajekgaaGreatDoorGZH
import Derived.Test.YtnpacgccajekgaaGreatDoorGU
import Derived.Test.YtnpacgccajekgaaGreatDoorGYF
set_option linter.all false
namespace Go.Proofs
open Go.Shelf
def Tryz.sortChoice_ren:Go.Shelf.Ren:=⟨fun|6=>131|15=>189|14=>188|28=>262|29=>263|20=>254|21=>255|22=>256|23=>257|24=>258|25=>259|26=>260|27=>261|46=>331|47=>332|48=>333|49=>334|50=>335|57=>374|n=>n,fun|22=>94|24=>98|25=>237|3=>3|39=>169|0=>0|53=>376|55=>23|4=>4|46=>369|45=>368|50=>373|5=>5|9=>9|66=>448|70=>451|76=>480|77=>481|n=>n,fun|n=>n⟩
theorem Tryz.sortChoice:Go.Proofs.SlLaysF0.n6 Tryz.prog Tryz.sortChoice_ren:={
 mixed:=Kr
 f6:=⟨Tryz.f131.name,by decide,Tryz.func131.trans Cj⟩
 f14:=⟨Tryz.f188.name,by decide,Tryz.func188.trans Cj⟩
 f15:=Kr
 f20:=⟨Tryz.f254.name,by decide,Tryz.func254.trans Cj⟩
 f21:=⟨Tryz.f255.name,by decide,Tryz.func255.trans Cj⟩
 f22:=⟨Tryz.f256.name,by decide,Tryz.func256.trans Cj⟩
 f23:=⟨Tryz.f257.name,by decide,Tryz.func257.trans Cj⟩
 f24:=⟨Tryz.f258.name,by decide,Tryz.func258.trans Cj⟩
 f25:=⟨Tryz.f259.name,by decide,Tryz.func259.trans Cj⟩
 f26:=⟨Tryz.f260.name,by decide,Tryz.func260.trans Cj⟩
 f27:=⟨Tryz.f261.name,by decide,Tryz.func261.trans Cj⟩
 f28:=Kr,f29:=Kr
 f46:=⟨Tryz.f331.name,by decide,Tryz.func331.trans Cj⟩
 f47:=Kr,f48:=Kr
 f49:=⟨Tryz.f334.name,by decide,Tryz.func334.trans Cj⟩
 f50:=⟨Tryz.f335.name,by decide,Tryz.func335.trans Cj⟩
 f57:=⟨Tryz.f374.name,by decide,Tryz.func374.trans Cj⟩
 t0:=Kr,a0:=Ku,z0:=Ku,v0:=Ku,t3:=Kr,a3:=Ku,z3:=Ku,v3:=Ku,t4:=Kr,a4:=Ku,z4:=Ku,v4:=Ku,t5:=Kr,a5:=Ku,z5:=Ku,v5:=Ku,t9:=Kr,a9:=Ku,z9:=Ku,v9:=Ku,t22:=Kr,a22:=Ku,z22:=Ku,v22:=Ku,t25:=Kr,a25:=Ku,z25:=Ku,v25:=Ku,t39:=Kr,a39:=Ku,z39:=Ku,v39:=Ku,t45:=Kr,a45:=Ku,z45:=Ku,v45:=Ku,t46:=Kr,a46:=Ku,z46:=Ku,v46:=Ku,t50:=Kr,a50:=Ku,z50:=Ku,v50:=Ku,t53:=Kr,a53:=Ku,z53:=Ku,v53:=Ku,t55:=Kr,a55:=Ku,z55:=Ku,v55:=Ku,t66:=Kr,a66:=Ku,z66:=Ku,v66:=Ku,t70:=Kr,a70:=Ku,z70:=Ku,v70:=Ku,t76:=Kr,a76:=Ku,z76:=Ku,v76:=Ku,t77:=Kr,a77:=Ku,z77:=Ku
 v77:=Tryz.zeroValue481 }
end Go.Proofs
namespace Go.Proofs.YtnpacgccajekgaaGreatDoor
open Go.Se Go.RowKit Go.Sort Go.Shelf
end Go.Proofs.YtnpacgccajekgaaGreatDoor
namespace Go.Proofs.YtnpacgccajekgaaGreatDoor
open Go.Se Go.RowKit
theorem Qfa(n high w)(h:0<=n/\n<=high):Cal Tryz.prog 59 [Vj n,Vj high] w fun r w'=>r=.bool true/\Ext w w':=by
 refine Fi Tryz.func59 rfl _ rfl rfl (Hh ?_);exact⟨by simp[h.1,h.2],Ext.refl _⟩
theorem Qze(s:Bj)(w):Cal Tryz.prog 26 [.string s] w fun r w'=>r=.bool (Qo s)/\Ext w w':=
 (Qbd s w).mono fun r w' h=>⟨h.1,by rw[h.2];exact Ext.refl _⟩
theorem Qzf(s)(a:Qo s=true)(w):Cal Tryz.prog 26 [.string s] w fun r w'=>r=.bool true/\Ext w w':=
 (Qbd s w).mono fun r w' h=>⟨by rw[h.1,a],by rw[h.2];exact Ext.refl _⟩
section
variable {c:Cfg}{every seed:Int}{b:Nat}{w:World}
theorem Xl4(h:At w b 32 (Qas c (Qbp 6) every seed)):Xq w ⟨b,0,none⟩ (Qrg c):=At.sub (pre:= []) (post:=(Qas c (Qbp 6) every seed).drop 6) h
end
set_option maxHeartbeats 2000000 in
theorem Q9c(c)(z:Qu7 c=true)(every seed)(A:0<=every/\every<=3)(w)(e:Gl w):Cal Tryz.prog 25 [.agg (Qas c (Qbp 6) every seed).toArray] w fun r w'=>r=.bool true/\Ext w w':=by
 refine Fi Tryz.func25 rfl _ rfl rfl (Hh ?_);intro y v i;have a:At v y 32 (Qas c (Qbp 6) every seed):=i.At;have b:=i.ext;clear i;refine Gg ?_;refine⟨Qrg c,⟨rfl,Xl4 a⟩,Gg ?_⟩;refine(Qym c v).mono ?_;rintro _ s ⟨rfl,j⟩;rw[z];replace a:=a.ext j;replace b:=b.trans j;clear j;refine Gg ?_;refine⟨_,fun _=>a.one rfl,Gg ?_⟩;refine⟨Unit,fun _=>(.bool true),fun _ w'=>Ext s w',(),fun e=>((Qfa 1073741824 1099511627776 s ⟨by decide,by decide⟩)).mono fun r w' h=>⟨(),h.1,h.2⟩,?_⟩;intro _ f d
 have k:Ext s f:=by
  rcases d with⟨_,h⟩|⟨_,h⟩
  .exact h
  .rw[h];exact Ext.refl _
 clear d;refine Hh ?_;replace a:=a.ext k;replace b:=b.trans k;clear k;refine⟨_,fun _=>a.one rfl,Gg ?_⟩;refine⟨Unit,fun _=>(.bool true),fun _ w'=>Ext f w',(),fun e=>((Qfa 0 1099511627776 f ⟨by decide,by decide⟩)).mono fun r w' h=>⟨(),h.1,h.2⟩,?_⟩;intro _ x d
 have l:Ext f x:=by
  rcases d with⟨_,h⟩|⟨_,h⟩
  .exact h
  .rw[h];exact Ext.refl _
 clear d;refine Hh ?_;replace a:=a.ext l;replace b:=b.trans l;clear l;constructor
 .intro h;exact absurd h (by decide)
 intro _;refine Gg ?_;refine⟨_,a.one rfl,Gg ?_⟩;refine(Qps x (e.ext b)).mono ?_;rintro _ w5 ⟨⟨E,rfl,_,_⟩,m⟩;replace a:=a.ext m;replace b:=b.trans m;clear m;refine Gg ?_;refine⟨_,a.one rfl,Gg ?_⟩;refine(Qfa 5 1000 w5 ⟨by decide,by decide⟩).mono ?_;rintro _ u ⟨rfl,n⟩;replace a:=a.ext n;replace b:=b.trans n;clear n;refine Gg ?_;refine⟨_,fun _=>a.one rfl,Gg ?_⟩;refine⟨Unit,fun _=>(.bool true),fun _ w'=>Ext u w',(),fun e=>((Qfa every 1000 u ⟨A.1,Om⟩)).mono fun r w' h=>⟨(),h.1,h.2⟩,?_⟩;intro _ g d
 have o:Ext u g:=by
  rcases d with⟨_,h⟩|⟨_,h⟩
  .exact h
  .rw[h];exact Ext.refl _
 clear d;refine Hh ?_;replace a:=a.ext o;replace b:=b.trans o;clear o;refine⟨_,fun _=>a.one rfl,Gg ?_⟩;refine⟨Unit,fun _=>(.bool (Qo ⟨#[111,119,110]⟩)),fun _ w'=>Ext g w',(),fun e=>((Qze ⟨#[111,119,110]⟩ g)).mono fun r w' h=>⟨(),h.1,h.2⟩,?_⟩;intro _ D d
 have C:Ext g D:=by
  rcases d with⟨_,h⟩|⟨_,h⟩
  .exact h
  .rw[h];exact Ext.refl _
 clear d;refine Hh ?_;have B:Qo (⟨#[111,119,110]⟩:Bj)=true:=by decide +kernel
 exact⟨by simp[B],b.trans C⟩
def Xk3:List Value:= [.slice none 0 0,.slice none 0 0,.slice none 0 0,Vj 0]
