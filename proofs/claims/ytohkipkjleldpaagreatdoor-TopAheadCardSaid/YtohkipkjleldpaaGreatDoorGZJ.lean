/- Several texts in one: SfChoice, Em1, Em2, Jr1. -/
import Derived.Shelf.SlGeneric
import Derived.Shelf.SlSortCmp.NoneTotal
import Derived.Ground.SlsfProg
import Derived.Test.YtohkipkjleldpaaGreatDoorProg
import Derived.Test.YtohkipkjleldpaaGreatDoorGYB
import Derived.Test.YtohkipkjleldpaaGreatDoorGI
import Derived.Test.YtohkipkjleldpaaGreatDoorGYE
import Derived.Test.YtohkipkjleldpaaGreatDoorGZA
import Derived.Test.YtohkipkjleldpaaGreatDoorGZH
import Derived.Test.YtohkipkjleldpaaGreatDoorGU
import Derived.Test.YtohkipkjleldpaaGreatDoorGYF
import Derived.Test.YtohkipkjleldpaaGreatDoorGZI
import Derived.Test.YtohkipkjleldpaaGreatDoorGZG
import Derived.Test.YtohkipkjleldpaaGreatDoorGXA
import Derived.Test.YtohkipkjleldpaaGreatDoorGXB
set_option linter.unusedVariables false
set_option linter.unusedSimpArgs false
namespace Go.Proofs
open Go.Shelf
def Tryz.sortChoice_ren:Go.Shelf.Ren:=⟨fun | 6=>132 | 15=>106 | 14=>198 | 28=>170 | 29=>171 | 20=>258 | 21=>259 | 22=>260 | 23=>261 | 24=>262 | 25=>263 | 26=>264 | 27=>265 | 46=>325 | 47=>223 | 48=>224 | 49=>326 | 50=>327 | 57=>363 | n=>n,fun | 22=>120 | 24=>124 | 25=>256 | 3=>3 | 39=>183 | 0=>0 | 53=>298 | 55=>30 | 4=>4 | 46=>291 | 45=>290 | 50=>295 | 5=>5 | 9=>9 | 66=>339 | 70=>343 | 76=>415 | 77=>416 | n=>n,fun | n=>n⟩
theorem Tryz.sortChoice:Go.Proofs.SlLaysF0.n6 Tryz.prog Tryz.sortChoice_ren:={
 mixed:=by kernel_rfl
 f6:=⟨Tryz.f132.name,by decide,Tryz.func132.trans (congrArg some (by kernel_rfl))⟩
 f14:=⟨Tryz.f198.name,by decide,Tryz.func198.trans (congrArg some (by kernel_rfl))⟩
 f15:=Tryz.func106.trans (congrArg some (by kernel_rfl))
 f20:=⟨Tryz.f258.name,by decide,Tryz.func258.trans (congrArg some (by kernel_rfl))⟩
 f21:=⟨Tryz.f259.name,by decide,Tryz.func259.trans (congrArg some (by kernel_rfl))⟩
 f22:=⟨Tryz.f260.name,by decide,Tryz.func260.trans (congrArg some (by kernel_rfl))⟩
 f23:=⟨Tryz.f261.name,by decide,Tryz.func261.trans (congrArg some (by kernel_rfl))⟩
 f24:=⟨Tryz.f262.name,by decide,Tryz.func262.trans (congrArg some (by kernel_rfl))⟩
 f25:=⟨Tryz.f263.name,by decide,Tryz.func263.trans (congrArg some (by kernel_rfl))⟩
 f26:=⟨Tryz.f264.name,by decide,Tryz.func264.trans (congrArg some (by kernel_rfl))⟩
 f27:=⟨Tryz.f265.name,by decide,Tryz.func265.trans (congrArg some (by kernel_rfl))⟩
 f28:=Tryz.func170.trans (congrArg some (by kernel_rfl))
 f29:=Tryz.func171.trans (congrArg some (by kernel_rfl))
 f46:=⟨Tryz.f325.name,by decide,Tryz.func325.trans (congrArg some (by kernel_rfl))⟩
 f47:=Tryz.func223.trans (congrArg some (by kernel_rfl))
 f48:=Tryz.func224.trans (congrArg some (by kernel_rfl))
 f49:=⟨Tryz.f326.name,by decide,Tryz.func326.trans (congrArg some (by kernel_rfl))⟩
 f50:=⟨Tryz.f327.name,by decide,Tryz.func327.trans (congrArg some (by kernel_rfl))⟩
 f57:=⟨Tryz.f363.name,by decide,Tryz.func363.trans (congrArg some (by kernel_rfl))⟩
 t0:=Tryz.underlying0
 a0:=Tryz.isAgg0
 z0:=Tryz.sizeOf0
 v0:=Tryz.zeroValue0
 t3:=Tryz.underlying3
 a3:=Tryz.isAgg3
 z3:=Tryz.sizeOf3
 v3:=Tryz.zeroValue3
 t4:=Tryz.underlying4
 a4:=Tryz.isAgg4
 z4:=Tryz.sizeOf4
 v4:=Tryz.zeroValue4
 t5:=Tryz.underlying5
 a5:=Tryz.isAgg5
 z5:=Tryz.sizeOf5
 v5:=Tryz.zeroValue5
 t9:=Tryz.underlying9
 a9:=Tryz.isAgg9
 z9:=Tryz.sizeOf9
 v9:=Tryz.zeroValue9
 t22:=Tryz.underlying120
 a22:=Tryz.isAgg120
 z22:=Tryz.sizeOf120
 v22:=Tryz.zeroValue120
 t25:=Tryz.underlying256
 a25:=Tryz.isAgg256
 z25:=Tryz.sizeOf256
 v25:=Tryz.zeroValue256
 t39:=Tryz.underlying183
 a39:=Tryz.isAgg183
 z39:=Tryz.sizeOf183
 v39:=Tryz.zeroValue183
 t45:=Tryz.underlying290
 a45:=Tryz.isAgg290
 z45:=Tryz.sizeOf290
 v45:=Tryz.zeroValue290
 t46:=Tryz.underlying291
 a46:=Tryz.isAgg291
 z46:=Tryz.sizeOf291
 v46:=Tryz.zeroValue291
 t50:=Tryz.underlying295
 a50:=Tryz.isAgg295
 z50:=Tryz.sizeOf295
 v50:=Tryz.zeroValue295
 t53:=Tryz.underlying298
 a53:=Tryz.isAgg298
 z53:=Tryz.sizeOf298
 v53:=Tryz.zeroValue298
 t55:=Tryz.underlying30
 a55:=Tryz.isAgg30
 z55:=Tryz.sizeOf30
 v55:=Tryz.zeroValue30
 t66:=Tryz.underlying339
 a66:=Tryz.isAgg339
 z66:=Tryz.sizeOf339
 v66:=Tryz.zeroValue339
 t70:=Tryz.underlying343
 a70:=Tryz.isAgg343
 z70:=Tryz.sizeOf343
 v70:=Tryz.zeroValue343
 t76:=Tryz.underlying415
 a76:=Tryz.isAgg415
 z76:=Tryz.sizeOf415
 v76:=Tryz.zeroValue415
 t77:=Tryz.underlying416
 a77:=Tryz.isAgg416
 z77:=Tryz.sizeOf416
 v77:=Tryz.zeroValue416 }
end Go.Proofs
namespace Go.Proofs.YtohkipkjleldpaaGreatDoor
open Go.Se Go.RowKit Go.Sort Go.Shelf
theorem Xdg:Tryz.prog.underlying 120=some (.slice 124):=by kernel_rfl
theorem Qrf (w:World):Cal Tryz.prog 131 [.slice none 0 0] w fun r w'=>r = .slice none 0 0∧w'=w:=by
 refine Fi Tryz.func131 rfl _ rfl rfl (Hh ?_);refine⟨_,Xu Xdg none _ _ _ _,Hh ?_⟩;constructor
 · intro _
   conv=>whnf
   exact⟨rfl,rfl⟩
 · intro h
   exact absurd h (by decide)
theorem Q0t (w:World):Cal Tryz.prog 81 [.slice none 0 0] w fun r w'=>r = .slice none 0 0∧Ext w w':=by
 refine Fi Tryz.func81 rfl _ rfl rfl (Hh ?_);refine(Qrf w).mono ?_;rintro _ w ⟨rfl,rfl⟩;refine Gg ?_;refine(Qa3 (R:=fun r w'=>r = .tuple #[]∧w'=w) ⟨_,Tryz.func132,rfl,rfl⟩ (AnyF.slices_SortFunc_none Tryz.sortChoice none 0 _ w) (fun _ h=>⟨rfl,h⟩)).mono ?_;rintro _ w ⟨rfl,rfl⟩;refine Gg ?_;intro b3 w3 hn3;refine Gg ?_;refine Qh Qa (fun(_:Unit) w'=>w'=w3) (fun _ => [(5,.slice none 0 0),(13,.slice none 0 0),(14,.int .i64 0),(15,.int .i64 0)]) (fun _=>0) () rfl Rr ?_;rintro _ _ rfl;refine Gg ?_;constructor
 · intro h
   exact absurd h (by decide)
 intro _;refine Gg ?_
 exact⟨rfl,hn3.ext⟩
theorem Q0g (w:World):Cal Tryz.prog 42 [.slice none 0 0,.agg #[.int .i64 4,.int .i64 2,.int .i64 3]] w fun r w'=>r = .slice none 0 0∧Ext w w':=by
 refine Fi Tryz.func42 rfl _ rfl rfl (Hh ?_);intro b1 w1 hn1;refine Gg ?_;intro b2 w2 hn2;refine Gg ?_;intro b3 w3 hn3;refine Gg ?_;refine Qd Qa (e:=ty172) rfl hn3.At rfl rfl rfl (by simp[Qg,Value.oneCell']) fun w4 h4 ho4 => ?_
 have hx:=(hn1.ext.trans hn2.ext).trans (ho4.ext hn3.ext (by rw[hn3.block];exact Nat.le_refl _));refine Gg ?_;refine(Q0t w4).mono ?_;rintro _ w5 ⟨rfl,hx5⟩;refine Gg ?_;refine Qh Qa (fun(_:Unit) w'=>w'=w5) (fun _ => [(7,.slice none 0 0),(16,.slice none 0 0),(17,.int .i64 0),(18,.int .i64 0)]) (fun _=>0) () rfl Rr ?_;rintro _ _ rfl;refine Gg ?_;constructor
 · intro h
   exact absurd h (by decide)
 intro _;refine Gg ?_
 exact⟨rfl,hx.trans hx5⟩
theorem Qkf (w:World):Cal Tryz.prog 84 [.slice none 0 0] w fun r w'=>r = .slice none 0 0∧Ext w w':=by
 refine Fi Tryz.func84 rfl _ rfl rfl (Hh ?_);intro b3 w3 hn3;refine Gg ?_;refine Qh Qa (fun(_:Unit) w'=>w'=w3) (fun _ => [(4,.slice none 0 0),(8,.slice none 0 0),(9,.int .i64 0),(10,.int .i64 0)]) (fun _=>0) () rfl Rr ?_;rintro _ _ rfl;refine Gg ?_;constructor
 · intro h
   exact absurd h (by decide)
 intro _;refine Gg ?_
 exact⟨rfl,hn3.ext⟩
theorem Qrj (w:World):Cal Tryz.prog 141 [.slice none 0 0] w fun r w'=>r = .slice none 0 0∧w'=w:=by
 refine Fi Tryz.func141 rfl _ rfl rfl (Hh ?_);refine⟨_,Xu Q9o none _ _ _ _,Hh ?_⟩;constructor
 · intro _
   conv=>whnf
   exact⟨rfl,rfl⟩
 · intro h
   exact absurd h (by decide)
theorem Qs2 (seed:Int) (w:World):Cal Tryz.prog 86 [.int .u64 seed,.int .i64 9223372036854775807,.slice none 0 0] w fun r w'=>r = .slice none 0 0∧Ext w w':=by
 refine Fi Tryz.func86 rfl _ rfl rfl (Hh ?_);intro b1 w1 hn1;refine Gg ?_;refine(Qkf w1).mono ?_;rintro _ w2 ⟨rfl,hx2⟩;refine Gg ?_;refine(Qa3 (R:=fun r w'=>r = .tuple #[]∧w'=w2) ⟨_,Tryz.func138,rfl,rfl⟩ (AnyF.slices_SortFunc_none (ρ:=Tryz.sortTxt_ren) { Tryz.sortTxt with } none 0 _ w2) (fun _ h=>⟨rfl,h⟩)).mono ?_;rintro _ w2 ⟨rfl,rfl⟩;refine Gg ?_;refine⟨⟨by decide,by decide⟩,Gg ?_⟩;refine(Qrj w2).mono ?_;rintro _ w2 ⟨rfl,rfl⟩;refine Gg ?_
 exact⟨rfl,hn1.ext.trans hx2⟩
theorem Qzx (fv:Value) (w:World):Cal Tryz.prog 137 [.slice none 0 0,fv] w fun r w'=>r = .int .i64 (-1)∧w'=w:=by
 refine Fi Tryz.func137 rfl _ rfl rfl (Hh ?_);refine Qh Qa (fun(_:Unit) w'=>w'=w) (fun _ => [(7,.int .i64 0),(8,.int .i64 0)]) (fun _=>0) () rfl Rr ?_;rintro _ _ rfl;refine Gg ?_;constructor
 · intro h
   exact absurd h (by decide)
 intro _;refine Gg ?_
 exact⟨rfl,rfl⟩
theorem Qzl (fv:Value) (w:World):Cal Tryz.prog 85 [.slice none 0 0,fv] w fun r w'=>r = .slice none 0 0∧w'=w:=by
 refine Fi Tryz.func85 rfl _ rfl rfl (Hh ?_);refine(Qzx fv w).mono ?_;rintro _ w ⟨rfl,rfl⟩;refine Gg ?_;constructor
 · intro _
   refine Gg ?_
   exact⟨rfl,rfl⟩
 · intro h
   exact absurd h (by decide)
theorem Q4i (seed every:Int) (w:World):Cal Tryz.prog 43 [.int .u64 seed,.slice none 0 0,.slice none 0 0,.int .i64 every] w fun r w'=>r = .slice none 0 0∧Ext w w':=by
 refine Fi Tryz.func43 rfl _ rfl rfl (Hh ?_);refine(Qkf w).mono ?_;rintro _ w1 ⟨rfl,hx1⟩;refine Gg ?_;intro b2 w2 hn2;refine Gg ?_;refine Qd Qa (e:=ty60) rfl hn2.At rfl rfl rfl (by simp[Qg,Value.oneCell']) fun w3 h3 ho3 => ?_
 have h3:At w3 b2 60 [.slice none 0 0]:=h3;have hx3:Ext w1 w3:=ho3.ext hn2.ext (by rw[hn2.block];exact Nat.le_refl _);clear ho3 hn2;refine Gg ?_;refine(Qs2 seed w3).mono ?_;rintro _ w4 ⟨rfl,hx4⟩;refine Gg ?_;refine(Qzl _ w4).mono ?_;rintro _ w4 ⟨rfl,rfl⟩;refine Gg ?_;refine⟨.slice none 0 0,(h3.ext hx4).one0,Gg ?_⟩;refine Qh Qa (fun(_:Unit) w'=>w'=w4) (fun _ => [(11,.slice none 0 0),(21,.int .i64 0),(22,.int .i64 0)]) (fun _=>0) () rfl Rr ?_;rintro _ _ rfl;refine Gg ?_;constructor
 · intro h
   exact absurd h (by decide)
 intro _;refine Gg ?_
 exact⟨rfl,hx1.trans (hx3.trans hx4)⟩
end Go.Proofs.YtohkipkjleldpaaGreatDoor
namespace Go.Proofs.YtohkipkjleldpaaGreatDoor
open Go.Se Go.RowKit
theorem Qd9 (n high:Int) (w:World) (h:0≤n∧n≤high):Cal Tryz.prog 73 [.int .i64 n,.int .i64 high] w fun r w'=>r = .bool true∧Ext w w':=by
 refine Fi Tryz.func73 rfl _ rfl rfl (Hh ?_)
 exact⟨by simp[h.1,h.2],Ext.refl _⟩
theorem Quv (s:ByteArray) (w:World):Cal Tryz.prog 40 [.string s] w fun r w'=>r = .bool (Qn s)∧Ext w w' :=
 (Qbi s w).mono fun r w' h=>⟨h.1,by rw[h.2];exact Ext.refl _⟩
theorem Quw (s:ByteArray) (hs:Qn s=true) (w:World):Cal Tryz.prog 40 [.string s] w fun r w'=>r = .bool true∧Ext w w' :=
 (Qbi s w).mono fun r w' h=>⟨by rw[h.1,hs],by rw[h.2];exact Ext.refl _⟩
section
variable {c:Cfg} {every seed:Int} {b:Nat} {w:World}
theorem Q5o (h:At w b 32 (Qas c (Qd5 6) every seed)):Xo w ⟨b,0,none⟩ (Qt4 c):=At.sub (pre := []) (post:=(Qas c (Qd5 6) every seed).drop 6) h
theorem Xbb (h:At w b 32 (Qas c (Qd5 6) every seed)):Xo w ((⟨b,0,none⟩:Addr).add 12) [.int .i64 4,.int .i64 2,.int .i64 3]:=At.sub (pre:=(Qas c (Qd5 6) every seed).take 12) (post:=(Qas c (Qd5 6) every seed).drop 15) h
end
set_option maxHeartbeats 2000000 in
theorem Q27 (c:Cfg) (hcf:Qt3 c=true) (every seed:Int) (he:0≤every∧every≤3) (w:World) (hg:Gl w):Cal Tryz.prog 39 [.agg (Qas c (Qd5 6) every seed).toArray] w fun r w'=>r = .bool true∧Ext w w':=by
 refine Fi Tryz.func39 rfl _ rfl rfl (Hh ?_);intro b1 w1 hn1;have h1:At w1 b1 32 (Qas c (Qd5 6) every seed):=hn1.At;have hx1:=hn1.ext;clear hn1;refine Gg ?_;refine⟨Qt4 c,⟨rfl,Q5o h1⟩,Gg ?_⟩;refine(Qtx c w1).mono ?_;rintro _ w2 ⟨rfl,hx2⟩;rw[hcf];replace h1:=h1.ext hx2;replace hx1:=hx1.trans hx2;clear hx2;refine Gg ?_;refine⟨_,fun _=>h1.one rfl,Gg ?_⟩;refine⟨Unit,fun _=>(.bool true),fun _ w'=>Ext w2 w',(),fun hg=>((Qd9 1073741824 1099511627776 w2 ⟨by decide,by decide⟩)).mono fun r w' h=>⟨(),h.1,h.2⟩,?_⟩;intro _ w3 h2
 have hx3:Ext w2 w3:=by
  rcases h2 with⟨_,h⟩ | ⟨_,h⟩
  · exact h
  · rw[h];exact Ext.refl _
 clear h2
 conv=>whnf
 replace h1:=h1.ext hx3;replace hx1:=hx1.trans hx3;clear hx3;refine⟨_,fun _=>h1.one rfl,Gg ?_⟩;refine⟨Unit,fun _=>(.bool true),fun _ w'=>Ext w3 w',(),fun hg=>((Qd9 0 1099511627776 w3 ⟨by decide,by decide⟩)).mono fun r w' h=>⟨(),h.1,h.2⟩,?_⟩;intro _ w4 h2
 have hx4:Ext w3 w4:=by
  rcases h2 with⟨_,h⟩ | ⟨_,h⟩
  · exact h
  · rw[h];exact Ext.refl _
 clear h2
 conv=>whnf
 replace h1:=h1.ext hx4;replace hx1:=hx1.trans hx4;clear hx4;constructor
 · intro h
   exact absurd h (by decide)
 intro _;refine Gg ?_;refine⟨_,h1.one rfl,Gg ?_⟩;refine(Qmd w4 (hg.ext hx1)).mono ?_;rintro _ w5 ⟨⟨b5,rfl,_,_⟩,hx5⟩;replace h1:=h1.ext hx5;replace hx1:=hx1.trans hx5;clear hx5;refine Gg ?_;refine⟨_,h1.one rfl,Gg ?_⟩;refine(Qd9 5 1000 w5 ⟨by decide,by decide⟩).mono ?_;rintro _ w6 ⟨rfl,hx6⟩;replace h1:=h1.ext hx6;replace hx1:=hx1.trans hx6;clear hx6;refine Gg ?_;refine⟨_,fun _=>h1.one rfl,Gg ?_⟩;refine⟨Unit,fun _=>(.bool true),fun _ w'=>Ext w6 w',(),fun hg=>((Qd9 every 1000 w6 ⟨he.1,by omega⟩)).mono fun r w' h=>⟨(),h.1,h.2⟩,?_⟩;intro _ w7 h2
 have hx7:Ext w6 w7:=by
  rcases h2 with⟨_,h⟩ | ⟨_,h⟩
  · exact h
  · rw[h];exact Ext.refl _
 clear h2
 conv=>whnf
 replace h1:=h1.ext hx7;replace hx1:=hx1.trans hx7;clear hx7;refine⟨_,fun _=>h1.one rfl,Gg ?_⟩;refine⟨Unit,fun _=>(.bool (Qn ⟨#[111,119,110]⟩)),fun _ w'=>Ext w7 w',(),fun hg=>((Quv ⟨#[111,119,110]⟩ w7)).mono fun r w' h=>⟨(),h.1,h.2⟩,?_⟩;intro _ w8 h2
 have hx8:Ext w7 w8:=by
  rcases h2 with⟨_,h⟩ | ⟨_,h⟩
  · exact h
  · rw[h];exact Ext.refl _
 clear h2
 conv=>whnf
 have hon:Qn (⟨#[111,119,110]⟩:ByteArray)=true:=by decide +kernel
 exact⟨by simp[hon],hx1.trans hx8⟩
set_option maxHeartbeats 2000000 in
theorem Qo0 {w:World} {T:Nat→Prop} {p:Nat} {c:Cfg} (hW:WT w T p c []) (hok:Quc c []) (hg:Gl w) (hT:∀ k,T k→10≤k) (every seed:Int) (person:ByteArray) (now:Int) :
 Cal Tryz.prog 41 [.pointer (some ⟨p,0,none⟩),.agg (Qas c (Qd5 6) every seed).toArray,.string person,.int .i64 now] w fun r w'=>r = .slice none 0 0∧∃ T',WT w' T' p c []∧(∀ k,T' k→T k∨w.heap.size≤k)∧Mod T w w':=by
 refine Fi Tryz.func41 rfl _ rfl rfl (Hh ?_);intro b1 w1 hn1;have h1:At w1 b1 32 (Qas c (Qd5 6) every seed):=hn1.At;have hx1:=hn1.ext;clear hn1;refine Gg ?_;refine⟨_,h1.one rfl,Gg ?_⟩;refine(Qmd w1 (hg.ext hx1)).mono ?_;rintro _ w2 ⟨⟨b2,rfl,_,_⟩,hx2⟩;replace h1:=h1.ext hx2;replace hx1:=hx1.trans hx2;have z2:=hx1.size;clear hx2;refine Gg ?_;refine⟨_,h1.one rfl,Gg ?_⟩;have hP:=Q4z (p:=p) hok;have hW2:=hP.ext hW hx1;refine(Q29 hP hW2 hok (Xb2 c [] (by simp) (by simp)).len person now 5 (by decide)).mono ?_;rintro _ w3 ⟨A,cp,H,T',rfl,hF,hW3,hT3,hM3⟩
 have hH:H = []:=by
  have h1:=congrArg List.length hF.keys;have h2:=Qw8 (c:=c) (z := []) (by simp) person now 5;rw[List.length_map] at h1
  simp at h2
  exact List.eq_nil_of_length_eq_zero (by rw[h1,h2];rfl)
 subst hH;refine Gg ?_;refine Qh Qa (fun(_:Unit) w'=>w'=w3) (fun _ => [(12,.slice none 0 0),(32,.int .i64 0),(33,.int .i64 0)]) (fun _=>0) () rfl Rr ?_;rintro _ _ rfl;refine Gg ?_;constructor
 · intro h
   exact absurd h (by decide)
 intro _;refine Gg ?_
 exact⟨rfl,T',hW3,fun k hk=>(hT3 k hk).imp id fun h=>by omega,(Mod.of_ext hx1).trans hM3⟩
def Qi3:List Value := [.slice none 0 0,.slice none 0 0,.slice none 0 0,.int .i64 0]
def Xdu:Value := .agg Qi3.toArray
set_option maxHeartbeats 4000000 in
theorem Qqi {w:World} {T:Nat→Prop} {p:Nat} {c:Cfg} (hW:WT w T p c []) (hok:Quc c []) (hg:Gl w) (hT:∀ k,T k→10≤k) (every seed:Int) (he:0≤every∧every≤3) (person:ByteArray) (hp:Qn person=true) (now:Int) (hn:0≤now∧now≤1099511627776) :
 Cal Tryz.prog 14 [.pointer (some ⟨p,0,none⟩),.agg (Qas c (Qd5 6) every seed).toArray,.string person,.int .i64 now] w fun r w'=>r=Xdu∧∃ T',WT w' T' p c []∧(∀ k,T' k→T k∨w.heap.size≤k)∧Mod T w w':=by
 have hTl:=hW.lt;have hsz:=hg.size;refine Fi Tryz.func14 rfl _ rfl rfl (Hh ?_);intro b1 w1 hn1;have h1:At w1 b1 32 (Qas c (Qd5 6) every seed):=hn1.At;have e1:=hn1.block;have s1:=hn1.size;refine Gg ?_;intro b2 w2 hn2;have h2:At w2 b2 67 Qi3:=hn2.At;have e2:=hn2.block;have s2:=hn2.size;replace h1:=h1.ext hn2.ext;have hx:=hn1.ext.trans hn2.ext;clear hn1 hn2;refine Gg ?_;refine⟨Qas c (Qd5 6) every seed,⟨rfl,h1.all⟩,Gg ?_⟩;refine(Q27 c hok.cfg every seed he w2 (hg.ext hx)).mono ?_;rintro _ w3 ⟨rfl,hx3⟩;refine Gg ?_;refine⟨Unit,fun _=>(.bool true),fun _ w'=>Ext w3 w',(),fun hg=>((Quw person hp w3)).mono fun r w' h=>⟨(),h.1,h.2⟩,?_⟩;intro _ w4 h2
 have hx4:Ext w3 w4:=by
  rcases h2 with⟨_,h⟩ | ⟨_,h⟩
  · exact h
  · rw[h];exact Ext.refl _
 clear h2
 conv=>whnf
 have hx34:=hx3.trans hx4;replace h1:=h1.ext hx34;replace h2:=h2.ext hx34;replace hx:=hx.trans hx34;clear hx3 hx4 hx34;constructor
 · intro h
   have:now<0∨1099511627776<now:=by simpa using h
   omega
 intro _;refine Gg ?_;refine⟨Qas c (Qd5 6) every seed,⟨rfl,h1.all⟩,Gg ?_⟩;have hW4:=(Q4z (p:=p) hok).ext hW hx;have z4:=hx.size;have l1:=h1.lt;have l2:=h2.lt;refine(Qo0 hW4 hok (hg.ext hx) hT every seed person now).mono ?_;rintro _ w5 ⟨rfl,T5,hW5,hT5,hM5⟩;have hb1:¬ T b1:=fun h=>by have:=hTl _ h;omega
 have hb2:¬ T b2:=fun h=>by have:=hTl _ h;omega
 replace h1:At w5 b1 _ _:=(hM5.block b1 h1.lt hb1).trans h1;replace h2:At w5 b2 _ _:=(hM5.block b2 h2.lt hb2).trans h2;have hM:Mod T w w5:=(Mod.of_ext hx).trans hM5;have hg5:Gl w5:=hg.mod hM hT;have hpl:=Qdv hp;have hT0:∀ k,T5 k→T k∨w.heap.size≤k:=fun k hk=>(hT5 k hk).imp id fun h=>by omega
 have h51:¬ T5 b1:=fun h=>by
  rcases hT5 _ h with q | q
  · exact hb1 q
  · omega
 have h52:¬ T5 b2:=fun h=>by
  rcases hT5 _ h with q | q
  · exact hb2 q
  · omega
 refine Gg ?_;refine⟨[.int .i64 4,.int .i64 2,.int .i64 3],⟨rfl,Xbb h1⟩,Gg ?_⟩;refine(Q0g w5).mono ?_;rintro _ w6 ⟨rfl,hx6⟩;refine Gg ?_;refine Qh Qa (fun(_:Unit) w'=>w'=w6) (fun _ => [(0,.pointer (some ⟨p,0,none⟩)),(2,.string person),(3,.int .i64 now),(5,.pointer (some ⟨b1,0,none⟩)),(8,.pointer (some ⟨b2,0,none⟩)),(9,.slice none 0 0),(10,.slice none 0 0),(11,.slice none 0 0),(45,.int .i64 0),(46,.int .i64 0)]) (fun _=>0) () rfl Rr ?_;rintro _ w6 rfl;refine Gg ?_;constructor
 · intro h
   exact absurd h (by decide)
 intro _;refine Gg ?_;refine Qh Qa (fun(_:Unit) w'=>w'=w6) (fun _ => [(0,.pointer (some ⟨p,0,none⟩)),(2,.string person),(3,.int .i64 now),(5,.pointer (some ⟨b1,0,none⟩)),(8,.pointer (some ⟨b2,0,none⟩)),(10,.slice none 0 0),(11,.slice none 0 0),(57,.int .i64 0),(58,.int .i64 0)]) (fun _=>0) () rfl Rr ?_;rintro _ w6 rfl;refine Gg ?_;constructor
 · intro h
   exact absurd h (by decide)
 intro _;refine Gg ?_;intro b7 w7 hn7;have h7:At w7 b7 67 Qi3:=hn7.At;have e7:=hn7.block;have z6:=hx6.size;have z5:=hM.size;have hx7:=hx6.trans hn7.ext;replace h1:=h1.ext hx7;replace h2:=h2.ext hx7;refine Gg ?_;refine Qd Qa (e:=ty60) rfl h7 rfl rfl rfl (by simp[Qg,Value.oneCell']) fun w8 h8 ho8 => ?_
 have h8:At w8 b7 67 Qi3:=h8;have hl1:=hM5.size;have hK:Ext w5 w8:=ho8.ext hx7 (by omega);replace h1:=ho8.at_ h1 (by omega);replace h2:=ho8.at_ h2 (by omega);clear ho8 hn7 hx7 hx6 h7;refine Gg ?_;refine⟨.int .i64 every,h1.one rfl,Gg ?_⟩;constructor
 · intro _
   refine Gg ?_;refine Dr .ext [0,1,2,3,7,8,9,10,4,5,6] [11,12,13] (Hh ?_);replace h1:At w8.drew b1 _ _:=h1;replace h2:At w8.drew b2 _ _:=h2;replace h8:At w8.drew b7 _ _:=h8;replace hK:Ext w5 w8.drew:=hK.drew;generalize w8.drew=w9 at h1 h2 h8 hK ⊢;refine⟨.int .u64 seed,h1.one rfl,Hh ?_⟩;refine⟨.int .i64 every,h1.one rfl,Hh ?_⟩;refine(Qev now w9 (hg5.ext hK) hn.1 (by omega)).mono ?_;rintro _ w10 ⟨rfl,hx10⟩;refine⟨hx10,Hh ?_⟩;intro b11 w11 hn11;refine⟨hn11.ext,Hh ?_⟩;have hdl:=Qh3 now.toNat (by omega)
   refine(Q3j seed [person,Qru now.toNat] (some ⟨b11,0,none⟩) 2 w11 (Qbd (enc:=Qav) Xi hn11) (by simp) (fun s hs=>by
    rcases List.mem_cons.1 hs with rfl | hs
    · omega
    · rw[List.mem_singleton.1 hs];omega)).mono ?_
   rintro _ w11 ⟨rfl,rfl⟩;refine⟨Ext.refl _,Hh ?_⟩;refine(Q4i _ every w11).mono ?_;rintro _ w12 ⟨rfl,hx12⟩;have hxx:=hx10.trans (hn11.ext.trans hx12);replace h1:=h1.ext hxx;replace h2:=h2.ext hxx;replace h8:=h8.ext hxx;replace hK:=hK.trans hxx;clear hxx hx10 hn11 hx12
   conv=>whnf
   refine Qd Qa (e:=ty60) rfl h8 rfl rfl rfl (by simp[Qg,Value.oneCell']) fun w13 h13 ho13 => ?_
   have h13:At w13 b7 67 Qi3:=h13;replace h2:=ho13.at_ h2 (by omega);have hK13:Ext w5 w13:=ho13.ext hK (by omega);clear ho13 hK h8 h1;refine Gg ?_;refine⟨.slice none 0 0,h13.one rfl,Gg ?_⟩;refine Qh Qa (fun(_:Unit) w'=>w'=w13) (fun _ => [(8,.pointer (some ⟨b2,0,none⟩)),(16,.pointer (some ⟨b7,0,none⟩)),(93,.int .i64 0),(94,.int .i64 0)]) (fun _=>0) () rfl Rr ?_;rintro _ w13 rfl;refine Gg ?_;constructor
   · intro h
     exact absurd h (by decide)
   intro _;refine Gg ?_;refine⟨Qi3,⟨rfl,h13.all⟩,Gg ?_⟩;refine Qd Qa (e:=ty67) rfl h2 rfl rfl rfl (by simp[Qg,Qi3,Value.oneCell']) fun w20 h20 ho20 => ?_
   have h20:At w20 b2 67 Qi3:=h20;refine Gg ?_;refine⟨Qi3,⟨rfl,h20.all⟩,rfl,T5,hW5.keep fun k hk => ?_,hT0,Qp hM ((Mod.of_ext hK13).trans (Qi ho20 (.inr (by omega))))⟩;have hlt:=hW5.lt _ hk;rw[ho20.block k (fun e=>h52 (e ▸ hk))]
   exact hK13.block k hlt
 intro _;refine Gg ?_;refine⟨.slice none 0 0,h8.one rfl,Gg ?_⟩;refine Qh Qa (fun(_:Unit) w'=>w'=w8) (fun _ => [(8,.pointer (some ⟨b2,0,none⟩)),(16,.pointer (some ⟨b7,0,none⟩)),(93,.int .i64 0),(94,.int .i64 0)]) (fun _=>0) () rfl Rr ?_;rintro _ w8 rfl;refine Gg ?_;constructor
 · intro h
   exact absurd h (by decide)
 intro _;refine Gg ?_;refine⟨Qi3,⟨rfl,h8.all⟩,Gg ?_⟩;refine Qd Qa (e:=ty67) rfl h2 rfl rfl rfl (by simp[Qg,Qi3,Value.oneCell']) fun w20 h20 ho20 => ?_
 have h20:At w20 b2 67 Qi3:=h20;refine Gg ?_;refine⟨Qi3,⟨rfl,h20.all⟩,rfl,T5,hW5.keep fun k hk => ?_,hT0,Qp hM ((Mod.of_ext hK).trans (Qi ho20 (.inr (by omega))))⟩;have hlt:=hW5.lt _ hk;rw[ho20.block k (fun e=>h52 (e ▸ hk))]
 exact hK.block k hlt
theorem Xb0 {w:World} {base p:Nat} {c:Cfg} (h:Qeg w base p c WS0):WV w base p c []:=⟨h,by simp,List.Pairwise.nil,by decide⟩
set_option maxHeartbeats 8000000 in
theorem Qic (c:Cfg) (hcf:Qt3 c=true) (every seed:Int) (he:0≤every∧every≤3) (k:Int) (hk:1≤k∧k≤1000) (l:List Ev) (A:Option Addr) (cap:Nat) (w:World) (hg:Gl w) (hs:SlE w A l) (hl:l.length<1000) (hm:∀ e∈l,Xn e=true) (hd:∀ e∈l,fbB e=true→e.at_<86400) :
 Cal Tryz.prog 6 [.agg (Qas c (Qd5 6) every seed).toArray,.int .i64 k,.slice A l.length cap] w fun r w'=>r = .tuple #[grV ((Qag (Qbg l)).2.length:Nat),.int .i64 0]∧Ext w w':=by
 have hsz:=hg.size;have hzl:=Qkn l;have hzm:∀ e∈Qbg l,Xn e=true:=fun e he=>hm e (Qko he)
 have hzd:∀ e∈Qbg l,fbB e=true→e.at_<86400:=fun e he=>hd e (Qko he)
 refine Fi Tryz.func6 rfl _ rfl rfl (Hh ?_);intro b1 w1 hn1;have h1:At w1 b1 32 (Qas c (Qd5 6) every seed):=hn1.At;have e1:=hn1.block;have s1:=hn1.size;refine Gg ?_;intro b2 w2 hn2;have h2:At w2 b2 40 (grC 0):=hn2.At;have e2:=hn2.block;have s2:=hn2.size;replace h1:=h1.ext hn2.ext;have hx:=hn1.ext.trans hn2.ext;clear hn1 hn2;refine Gg ?_;constructor
 · intro h
   have:k<1∨1000<k:=by simpa using h
   omega
 intro _;refine Gg ?_;refine⟨Qt4 c,⟨rfl,Q5o h1⟩,Gg ?_⟩;refine(Q4b c hcf l A cap w2 (hg.ext hx) (hs.ext hx) (by omega) hm).mono ?_;rintro _ w3 ⟨p,rfl,hW,hx3⟩;replace h1:=h1.ext hx3;replace h2:=h2.ext hx3;replace hx:=hx.trans hx3;clear hx3 hs hm hd;refine Gg ?_;constructor
 · intro h
   simp at h
 intro _;refine Gg ?_;obtain⟨T0,hW0,_⟩:=hW.t;refine(Quz hW0).mono ?_;rintro _ w4 ⟨A4,c4,rfl,hown4,_,hx4⟩;have hs4:=hown4.sl Xz;have hA4:∀ a,A4=some a→a.block<w4.heap.size:=fun a ha=>(hown4.block ha).2
 generalize Qbg l=z at hzl hzm hzd hW hW0 hown4 hs4 ⊢;replace h1:=h1.ext hx4;replace h2:=h2.ext hx4;replace hx:=hx.trans hx4;have l1:=h1.lt;have l2:=h2.lt;have hcl:=Q2o z;clear hx4 hW hW0 hown4;refine Gg ?_;refine⟨Qt4 c,⟨rfl,Q5o h1⟩,Gg ?_⟩;have z4:=hx.size;refine(Qiz c w4 (by omega) hcf).mono ?_;rintro _ w5 ⟨q,rfl,hW5,hx5⟩;obtain⟨T,hT5,hTb⟩:=(Xb0 hW5).t;replace hs4:=hs4.ext hx5;replace h1:=h1.ext hx5;replace h2:=h2.ext hx5;replace hx:=hx.trans hx5;have z5:=hx5.size;clear hW5 hx5;refine Gg ?_;intro b6 w6 hn6;have h6:At w6 b6 40 (grC 0):=hn6.At;have e6:=hn6.block;have s6:=hn6.size;have hok:Quc c []:=⟨hcf,by simp⟩;have hP:=Q4z (p:=q) hok;refine Gg ?_;refine(Qve z A4 c4 w6 (hs4.ext hn6.ext) (by omega) hzm).mono ?_;rintro _ w7 ⟨B,d,H,rfl,hsH,hHl,hHm,hB,hx7⟩;have hx57:=hn6.ext.trans hx7;have hW7:=hP.ext hT5 hx57;replace hs4:=hs4.ext hx57;replace h1:=h1.ext hx57;replace h2:=h2.ext hx57;replace h6:=h6.ext hx7;replace hx:=hx.trans hx57;have hTl:=hP.lt hT5;have z7:=hx7.size
 have hHd:∀ x∈H,Qn x.1=true∧x.2.1=0:=fun x hx=>by
  obtain⟨y,hy,h1,h2⟩:=hHm x hx;obtain⟨e,he,hf,hy1⟩:=Q87 y hy;rw[h1,h2,hy1];have ha:=Qsl (hzm e he);have hd0:=hzd e he hf;refine⟨?_,?_⟩
  · refine Qvu hzm (List.mem_filter.2 ⟨he,?_⟩)
    have:e.kind=2∨e.kind=3:=by simpa [fbB] using hf
    rcases this with h | h <;> simp[peB,thB,h]
  · show e.at_.tdiv 86400*86400=0
    rw[Int.tdiv_eq_ediv_of_nonneg ha.1];omega
 rw[← hHl];clear hn6 hx7 hx57 hT5 hHm;refine Gg ?_
 refine Qh Qa (fun(x:Nat×(Nat→Prop)) w'=>x.1≤H.length∧WT w' x.2 q c []∧(∀ k,x.2 k→T k∨w7.heap.size≤k)∧(¬ x.2 b6)∧At w' b6 40 (grC x.1)∧Mod (fun k=>T k∨k=b6) w7 w')
  (fun | (j,_) => [(1,.int .i64 k),(3,.pointer (some ⟨b1,0,none⟩)),(6,.pointer (some ⟨b2,0,none⟩)),(10,.slice A4 z.length c4),(11,.pointer (some ⟨q,0,none⟩)),(13,.pointer (some ⟨b6,0,none⟩)),(46,.slice B H.length d),(47,.int .i64 H.length),(48,.int .i64 (j:Nat))]) (fun x=>H.length-x.1) (0,T) ⟨Nat.zero_le _,hW7,fun k hk => .inl hk,fun h=>by have:=hTl _ h;omega,h6,Mod.refl _ _⟩ Rr ?_
 rintro ⟨j,T8⟩ w8 ⟨hj,hW8,hT8,hb6,h68,hM8⟩;simp only at hj hW8 hT8 hb6 h68;have z8:=hM8.size
 have hb1T:∀ k,k<w4.heap.size→¬ (T k∨k=b6):=fun k hk h=>by
  rcases h with h | h
  · have:=hTb k h;omega
  · omega
 have h18:At w8 b1 _ _:=(hM8.block b1 h1.lt (hb1T b1 (by omega))).trans h1
 have hg8:Gl w8:=(hg.ext hx).mod hM8 fun k hk=>by
  rcases hk with hk | hk
  · have:=hTb k hk;omega
  · omega
 refine Gg ?_;constructor
 · intro hlt
   have hlt:j<H.length:=by simpa using hlt
   have hs8:Sl caC 3 w8 B H:=Xa8.stay hsH fun a ha hlt2=>hM8.block _ hlt2 fun h=>by
    have:=hB a ha;rcases h with h | h
    · have:=hTl _ h;omega
    · omega
   have hsz8:SlE w8 A4 z:=Qkk.stay hs4 fun a ha hlt2=>hM8.block _ hlt2 (hb1T _ (hA4 a ha))
   obtain⟨a,rfl,hc⟩:=hs8.get hlt;have hHj:=hHd _ (List.getElem_mem hlt);generalize H[j]=x at hc hHj;refine Gg ?_;refine⟨a,Ix,Gg ?_⟩;refine⟨caC x,⟨rfl,hc⟩,Gg ?_⟩;intro b9 w9 hn9;refine Gg ?_;refine Qd Qa (e:=ty62) rfl hn9.At rfl rfl rfl (by simp[Qg,caC,Value.oneCell']) fun w10 h10 ho10 => ?_
   have h10:At w10 b9 62 (caC x):=h10;have e9:=hn9.block;have hx10:Ext w8 w10:=ho10.ext hn9.ext (by rw[hn9.block];exact Nat.le_refl _);have hsz10:=hsz8.ext hx10;clear ho10 hn9;refine Gg ?_;refine Qh Qa (fun(_:Unit) w'=>Ext w10 w') (fun _ => [(1,.int .i64 k),(3,.pointer (some ⟨b1,0,none⟩)),(6,.pointer (some ⟨b2,0,none⟩)),(10,.slice A4 z.length c4),(11,.pointer (some ⟨q,0,none⟩)),(13,.pointer (some ⟨b6,0,none⟩)),(15,.pointer (some ⟨b9,0,none⟩)),(46,.slice (some a) H.length d),(47,.int .i64 H.length),(48,.int .i64 (j:Nat))]) (fun _=>0) () (Ext.refl _) Rr ?_;rintro _ w11 hx11
   conv=>whnf
   refine Dr .same [0,1,2,3,4,5,6,7,8,9,10,11] [] (Hh ?_);replace hx11:Ext w10 w11.drew:=hx11.drew;generalize w11.drew=w12 at hx11 ⊢
   obtain⟨a0,h0⟩:∃ a0,0<z.length→A4=some a0∧Xo w12 (a0.add (0*8)) (evC (z.getD 0 Qt0)):=by
    by_cases hh:0<z.length
    · obtain⟨a1,h1,h2⟩:=(hsz10.ext hx11).get hh
      exact⟨a1,fun _=>⟨h1,by rw[getD_lt hh];exact h2⟩⟩
    · exact⟨a,fun h=>absurd h hh⟩
   have hz0:0≤(z.getD 0 Qt0).at_:=by
    by_cases hh:0<z.length
    · rw[getD_lt hh];exact(Qsl (hzm _ (List.getElem_mem hh))).1
    · have:z = []:=List.eq_nil_of_length_eq_zero (by omega)
      rw[this];decide
   generalize z.getD 0 Qt0=e0 at h0 hz0;have hd:decide ((0:Int)<(z.length:Int))=true→0<z.length:=fun h=>by simpa using h
   have h12:=h10.ext hx11;refine⟨a0,fun hg=>⟨(h0 (hd hg)).1,by omega,by have:=hd hg;omega⟩,Hh ?_⟩;refine⟨.int .i64 e0.at_,fun hg=>cells_at (k:=2) (h0 (hd hg)).2 rfl,Hh ?_⟩;refine⟨.int .i64 x.2.1,fun _=>h12.one rfl,Hh ?_⟩;constructor
   · intro hq
     exfalso
     have h1:=hHj.2;rw[h1] at hq
     have:e0.at_<0:=by
      have hq:(decide ((0:Int)<(z.length:Int))&&decide (e0.at_<0))=true:=hq
      simp at hq
      exact hq.2
     omega
   intro _;have hx812:=hx10.trans hx11;have hW12:=hP.ext hW8 hx812;have hl8:=hP.lt hW8;have h112:=h18.ext hx812;have h612:=h68.ext hx812;have hg12:=hg8.ext hx812;have z12:=hx812.size;refine Gg ?_;refine⟨Qas c (Qd5 6) every seed,⟨rfl,h112.all⟩,Gg ?_⟩;refine⟨.string x.1,h12.one rfl,Gg ?_⟩;refine⟨.int .i64 x.2.1,h12.one rfl,Gg ?_⟩;rw[hHj.2]
   refine(Qqi hW12 hok hg12 (fun k hk=>by
    rcases hT8 k hk with h | h
    · have:=hTb k h;omega
    · omega) every seed he x.1 hHj.1 0 ⟨by decide,by decide⟩).mono ?_
   rintro _ w13 ⟨rfl,T13,hW13,hT13,hM13⟩;have h613:At w13 b6 _ _:=(hM13.block b6 h612.lt hb6).trans h612;have h66:=h68.lt
   have hb613:¬ T13 b6:=fun h=>by
    rcases hT13 _ h with h | h
    · exact hb6 h
    · omega
   have hM813:Mod (fun k=>T k∨k=b6) w7 w13:=Qp (hM8.trans (Mod.of_ext hx812)) (hM13.mono fun i hi ht=>(hT8 i ht).elim (fun h => .inl (.inl h)) .inr);refine Gg ?_;refine⟨.int .i64 (j:Nat),h613.one rfl,Gg ?_⟩;refine⟨_,wrap_succ (by omega),Gg ?_⟩;refine Qd Qa (e:=ty3) rfl h613 rfl rfl rfl (by simp[Qg,Value.oneCell']) fun w14 h14 ho14 => ?_
   have h14:At w14 b6 40 (grC ((j+1:Nat):Int)):=h14;have hm0:min k ((0:Nat):Int)=0:=by omega
   refine Gg ?_;rw[hm0];refine⟨⟨by omega,by omega,by omega,by omega⟩,Gg ?_⟩;refine Qh Qa (fun(_:Unit) w'=>w'=w14) (fun _ => [(1,.int .i64 k),(3,.pointer (some ⟨b1,0,none⟩)),(6,.pointer (some ⟨b2,0,none⟩)),(10,.slice A4 z.length c4),(11,.pointer (some ⟨q,0,none⟩)),(13,.pointer (some ⟨b6,0,none⟩)),(46,.slice (some a) H.length d),(47,.int .i64 H.length),(48,.int .i64 (j:Nat)),(89,.int .i64 0),(90,.int .i64 0)]) (fun _=>0) () rfl Rr ?_;rintro _ w14 rfl;refine Gg ?_;constructor
   · intro h
     exact absurd h (by decide)
   intro _;refine Gg ?_;refine⟨_,wrap_succ (by omega),Gg ?_⟩;refine⟨(j+1,T13),by simp only;omega,⟨by simp only;omega,hW13.keep fun i hi=>ho14.block i fun e=>hb613 (e ▸ hi),fun i hi => ?_,hb613,h14,hM813.trans (Qi ho14 (.inr rfl))⟩,Rr⟩;rcases hT13 i hi with h | h
   · exact hT8 i h
   · omega
 intro hge
 have hge:j=H.length:=by
  have:H.length≤j:=by simpa using hge
  omega
 subst hge;have h28:At w8 b2 _ _:=(hM8.block b2 h2.lt (hb1T b2 l2)).trans h2
 have hx8:Ext w w8:=Qpg hx (fun i hi=>by
  rcases hi with h | h
  · have:=hTb i h;omega
  · omega) hM8
 refine Gg ?_;refine⟨grC (H.length:Nat),⟨rfl,h68.all⟩,Gg ?_⟩;refine Qd Qa (e:=ty40) rfl h28 rfl rfl rfl (by simp[Qg,grC,Value.oneCell']) fun w9 h9 ho9 => ?_
 have h9:At w9 b2 40 (grC (H.length:Nat)):=h9;refine Gg ?_
 exact⟨grC (H.length:Nat),⟨rfl,h9.all⟩,rfl,ho9.ext hx8 (by omega)⟩
end Go.Proofs.YtohkipkjleldpaaGreatDoor
