/- Several texts in one: Wr2, Wl1. -/
import Derived.Test.YtdahooejkjcjiaaGreatDoorGX
import Derived.Test.YtdahooejkjcjiaaGreatDoorGI
import Derived.Test.YtdahooejkjcjiaaGreatDoorGH
set_option linter.unusedVariables false
set_option linter.unusedSimpArgs false
namespace Go.Proofs.YtdahooejkjcjiaaGreatDoor
open Go.Se Go.RowKit
theorem Qsh.q {w:World} {base p:Nat} {c:Cfg} {s:WS} (h:Qet w base p c s) (hI:Qsh c s) (hl:s.es.length<1000000):∃ T,WQ w T p c s.es (.pointer Option.none)∧∀ k,T k→base≤k:=by
 obtain⟨col,q,A,cap,hL⟩:=h;have hc:=hL.cts;rw[hI.ct] at hc;have hp:=hL.head.lt;refine⟨fun k=>(if k<w.heap.size then col k else 0)≠0,⟨⟨fun k=>if k<w.heap.size then col k else 0,q,A,_,cap,_,_,hL.head,hc.keep fun k hk _=>⟨rfl,if_pos hk⟩,by rw[if_pos hp];exact hL.cols.1,fun k hk=>hk,fun k hk => ?_,rfl,hL.evs.sl Xw,fun a ha=>by rw[if_pos (hL.evs.block ha).2];exact hL.cols.2.2.2 a ha⟩,hI.may,hI.rise,hl⟩,fun k hk => ?_⟩
 · by_cases h1:k<w.heap.size
   · exact h1
   · exact absurd (if_neg h1) hk
 · by_cases h1:k<w.heap.size
   · simp only[if_pos h1] at hk
     exact hL.low.2 k hk
   · exact absurd (if_neg h1) hk
theorem Qsh.t {w:World} {base p:Nat} {c:Cfg} {s:WS} (h:Qet w base p c s) (hI:Qsh c s) (hl:s.es.length<1000000):∃ T,WT w T p c s.es∧∀ k,T k→base≤k:=by
 obtain⟨T,h1,h2⟩:=hI.q h hl
 exact⟨T,⟨_,T,h1,fun _ hk=>hk,h1.lt,.inl rfl⟩,h2⟩
def Q61:Cfg:=⟨10,10,0,10,0,0⟩
def lv1:Ev:=⟨⟨#[115]⟩,1,5,1,⟨#[112]⟩,⟨#[97]⟩,0,⟨#[]⟩⟩
def lv2:Ev:=⟨⟨#[115]⟩,2,9,14,⟨#[112]⟩,⟨#[]⟩,0,⟨#[]⟩⟩
def Q7s:WS:=Qvj 10 WS0 lv1
def Xag:WS:=Qvj 10 Q7s lv2
theorem Xdd:Qol WS0 lv1=0:=by decide +kernel
theorem Xde:Qol Q7s lv2=0:=by decide +kernel
theorem Xdf:Qae Q7s.ct.ds (Qw 10) ⟨#[97]⟩ 5=1048576:=by decide +kernel
theorem Xdg:Qae Xag.ct.ds (Qw 10) ⟨#[97]⟩ 9=0:=by decide +kernel
theorem Xc4:Xag.es.length=1:=by decide +kernel
theorem Xdh:∀ x∈(Qe Q7s.ct.ds ⟨#[97]⟩).getD [],0≤x.1∧x.1≤1099511627776:=by decide +kernel
theorem Xdi:∀ x∈(Qe Xag.ct.ds ⟨#[97]⟩).getD [],0≤x.1∧x.1≤1099511627776:=by decide +kernel
theorem Xdj:Q7s.es.length<100000:=by decide +kernel
theorem getD_some {α:Type} {o:Option (List α)} {P:α→Prop} (h:∀ x∈o.getD [],P x):∀ r,o=some r→∀ x∈r,P x:=fun r hr x hx=>h x (by rw[hr];exact hx)
theorem Xcu:Tryz.prog.underlying 27=some (.pointer (Tryz.prog.pointee 27)):=by kernel_rfl
section
variable {w:World} {base p:Nat} {c:Cfg} {s:WS} {col:Nat→Nat} {q:WP} {A:Option Addr} {cap:Nat}
theorem Qtv (h:Qbr w base p c s col q A cap):Cal Tryz.prog 31 [.pointer (some ⟨p,0,none⟩)] w fun r w'=>r = .pointer (some ⟨q.pd,0,none⟩)∧Ext w w':=by
 refine Fi Tryz.func31 rfl _ rfl rfl (Hh ?_);refine⟨_,h.head.one rfl,Hh ?_⟩
 exact⟨rfl,Ext.refl _⟩
theorem Q3l (h:Qbr w base p c s col q A cap) (hl:s.es.length<1000000):Cal Tryz.prog 20 [.pointer (some ⟨p,0,none⟩)] w fun r w'=>∃ A' c',r = .slice A' s.es.length c'∧SlE w' A' s.es∧Ext w w':=by
 refine Fi Tryz.func20 rfl _ rfl rfl (Hh ?_);refine⟨_,h.head.one rfl,Hh ?_⟩;refine(Qo8 s.es A cap w (h.evs.sl Xw) (by omega)).mono ?_;rintro _ w2 ⟨A',c',rfl,hown,hx⟩;refine Gg ?_
 exact⟨A',c',rfl,hown.sl Xw,hx⟩
end
theorem Qc9.low {w:World} {base p:Nat} {c:Cfg} {s:WS} {col:Nat→Nat} (h:Qc9 w base p c s col):∀ k,col k≠0→base≤k:=fun k hk=>by
 obtain⟨q,A,cap,hL⟩:=h.1
 exact hL.low.2 k hk
set_option maxHeartbeats 2000000 in
theorem Qyi (w:World) (hg0:Gl w):Cal Tryz.prog 8 [] w fun r w'=>r = .bool true∧Ext w w':=by
 have hsz:=hg0.size;refine Fi Tryz.func8 rfl _ rfl rfl (Hh ?_);refine(Qgq Q61 w hsz (by rfl)).mono ?_;rintro _ w1 ⟨p,rfl,hW,hx⟩;obtain⟨col,hC⟩:=hW.col;clear hW;refine Gg ?_;refine⟨_,fun _=>Qcn Xcu _ _ _,Gg ?_⟩;constructor
 · intro h;simp at h
 intro _;refine Gg ?_;refine(Qyt w1 _ p Q61 (by rfl) WS0 col hC (hg0.ext hx) (Xab _) (by decide) lv1 (by decide)).mono ?_;rintro _ w2 ⟨rfl,col2,hC2,_,hM2⟩;have hI1:=(Xab Q61).add lv1;have hE:Qvj Q61.width WS0 lv1=Q7s:=rfl;rw[hE] at hC2 hI1;rw[Xdd];replace hx:=Qcb hx hM2 hC.low;clear hM2 hC hE;refine Gg ?_;obtain⟨⟨q,A,cap,hL⟩,_⟩:=id hC2;refine(Qtv hL).mono ?_;rintro _ w3 ⟨rfl,hx3⟩;replace hL:=hL.ext hx3;replace hC2:=hC2.ext hx3;replace hx:=hx.trans hx3;clear hx3;refine Gg ?_;refine(Qkb w3 _ q.pd _ _ _ hL.cts.dec ⟨#[97]⟩ 5 ⟨by decide,by decide⟩ (getD_some Xdh)).mono ?_;rintro _ w4 ⟨rfl,hx4⟩;rw[show Qae Q7s.ct.ds (Qw Q61.half) ⟨#[97]⟩ 5=1048576 from Xdf];replace hC2:=hC2.ext hx4;replace hx:=hx.trans hx4;clear hL hx4;refine Gg ?_;refine(Qyt w4 _ p Q61 (by rfl) Q7s col2 hC2 (hg0.ext hx) hI1 Xdj lv2 (by decide)).mono ?_;rintro _ w5 ⟨rfl,Q67,hC5,_,hM5⟩;have hE:Qvj Q61.width Q7s lv2=Xag:=rfl;rw[hE] at hC5;rw[Xde];replace hx:=Qcb hx hM5 hC2.low;obtain⟨⟨q5,A5,cap5,hL⟩,_⟩:=hC5;clear hM5 hC2 hE hI1;refine Gg ?_;refine⟨Unit,fun _=>(.pointer (some ⟨q5.pd,0,none⟩)),fun _ w'=>Ext w5 w',(),fun hg=>((Qtv hL)).mono fun r w' h=>⟨(),h.1,h.2⟩,?_⟩;intro _ w6 h2
 have hx6:Ext w5 w6:=by
  rcases h2 with⟨_,h⟩ | ⟨_,h⟩
  · exact h
  · rw[h];exact Ext.refl _
 clear h2
 conv=>whnf
 replace hL:=hL.ext hx6;replace hx:=hx.trans hx6;refine⟨Unit,fun _=>(.int .i64 (Qae Xag.ct.ds (Qw Q61.half) ⟨#[97]⟩ 9)),fun _ w'=>Ext w6 w',(),fun hg=>((Qkb w6 _ q5.pd _ _ _ hL.cts.dec ⟨#[97]⟩ 9 ⟨by decide,by decide⟩ (getD_some Xdi))).mono fun r w' h=>⟨(),h.1,h.2⟩,?_⟩;intro _ w7 h2
 have hx7:Ext w6 w7:=by
  rcases h2 with⟨_,h⟩ | ⟨_,h⟩
  · exact h
  · rw[h];exact Ext.refl _
 clear h2
 conv=>whnf
 replace hL:=hL.ext hx7;replace hx:=hx.trans hx7;refine⟨Option Addr×Nat,fun i => .slice i.1 Xag.es.length i.2,fun _ w'=>Ext w7 w',(none,0),fun _=>(Q3l hL (by rw[Xc4];decide)).mono fun r w' ⟨A',c',h1,_,h2⟩=>⟨(A',c'),h1,h2⟩,?_⟩;rintro ⟨A8,c8⟩ w8 h8
 have hx8:Ext w7 w8:=by
  rcases h8 with⟨_,h⟩ | ⟨_,h⟩
  · exact h
  · rw[h];exact Ext.refl _
 refine Gg ?_;refine⟨?_,hx.trans hx8⟩;rw[show Qae Xag.ct.ds (Qw Q61.half) ⟨#[97]⟩ 9=0 from Xdg,Xc4]
 rfl
end Go.Proofs.YtdahooejkjcjiaaGreatDoor
