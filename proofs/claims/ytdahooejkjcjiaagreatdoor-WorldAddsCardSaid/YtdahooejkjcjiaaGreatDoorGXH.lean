/- Several texts in one: Wr2, Wl1. -/
import Derived.Test.YtdahooejkjcjiaaGreatDoorGX
import Derived.Test.YtdahooejkjcjiaaGreatDoorGI
import Derived.Test.YtdahooejkjcjiaaGreatDoorGH
set_option linter.unusedVariables false
set_option linter.unusedSimpArgs false
namespace Go.Proofs.YtdahooejkjcjiaaGreatDoor
open Go.Se Go.RowKit
theorem Qo1.q {w:World} {base p:Nat} {c:Cfg} {s:WS} (h:Qfp w base p c s) (hI:Qo1 c s) (hl:s.es.length<1000000):∃ T,WQ w T p c s.es (.pointer Option.none)∧∀ k,T k→base≤k:=by
 obtain⟨col,q,A,cap,hL⟩:=h;have hc:=hL.cts;rw[hI.ct] at hc;have hp:=hL.head.lt;refine⟨fun k=>(if k<w.heap.size then col k else 0)≠0,⟨⟨fun k=>if k<w.heap.size then col k else 0,q,A,_,cap,_,_,hL.head,hc.keep fun k hk _=>⟨rfl,if_pos hk⟩,by rw[if_pos hp];exact hL.cols.1,fun k hk=>hk,fun k hk => ?_,rfl,hL.evs.sl Qaq,fun a ha=>by rw[if_pos (hL.evs.block ha).2];exact hL.cols.2.2.2 a ha⟩,hI.may,hI.rise,hl⟩,fun k hk => ?_⟩
 · by_cases h1:k<w.heap.size
   · exact h1
   · exact absurd (if_neg h1) hk
 · by_cases h1:k<w.heap.size
   · simp only[if_pos h1] at hk
     exact hL.low.2 k hk
   · exact absurd (if_neg h1) hk
theorem Qo1.t {w:World} {base p:Nat} {c:Cfg} {s:WS} (h:Qfp w base p c s) (hI:Qo1 c s) (hl:s.es.length<1000000):∃ T,WT w T p c s.es∧∀ k,T k→base≤k:=by
 obtain⟨T,h1,h2⟩:=hI.q h hl
 exact⟨T,⟨_,T,h1,fun _ hk=>hk,h1.lt,.inl rfl⟩,h2⟩
def Q35:Cfg:=⟨10,10,0,10,0,0⟩
def lv1:Ev:=⟨⟨#[115]⟩,1,5,1,⟨#[112]⟩,⟨#[97]⟩,0,⟨#[]⟩⟩
def lv2:Ev:=⟨⟨#[115]⟩,2,9,14,⟨#[112]⟩,⟨#[]⟩,0,⟨#[]⟩⟩
def Q4u:WS:=Qnp 10 WS0 lv1
def Q7h:WS:=Qnp 10 Q4u lv2
theorem Xad:Qnc WS0 lv1=0:=by decide +kernel
theorem Xae:Qnc Q4u lv2=0:=by decide +kernel
theorem Xaf:Qaa Q4u.ct.ds (Qw 10) ⟨#[97]⟩ 5=1048576:=by decide +kernel
theorem Xag:Qaa Q7h.ct.ds (Qw 10) ⟨#[97]⟩ 9=0:=by decide +kernel
theorem Q94:Q7h.es.length=1:=by decide +kernel
theorem Xah:∀ x∈(Qd Q4u.ct.ds ⟨#[97]⟩).getD [],0≤x.1∧x.1≤1099511627776:=by decide +kernel
theorem Xai:∀ x∈(Qd Q7h.ct.ds ⟨#[97]⟩).getD [],0≤x.1∧x.1≤1099511627776:=by decide +kernel
theorem Xaj:Q4u.es.length<100000:=by decide +kernel
theorem getD_some {α:Type} {o:Option (List α)} {P:α→Prop} (h:∀ x∈o.getD [],P x):∀ r,o=some r→∀ x∈r,P x:=fun r hr x hx=>h x (by rw[hr];exact hx)
theorem Q9w:Tryz.prog.underlying 27=some (.pointer (Tryz.prog.pointee 27)):=by kernel_rfl
section
variable {w:World} {base p:Nat} {c:Cfg} {s:WS} {col:Nat→Nat} {q:WP} {A:Option Addr} {cap:Nat}
theorem Qrx (h:Qbi w base p c s col q A cap):Cal Tryz.prog 31 [.pointer (some ⟨p,0,none⟩)] w fun r w'=>r = .pointer (some ⟨q.pd,0,none⟩)∧Ext w w':=by
 refine Fi Tryz.func31 rfl _ rfl rfl ?_;conv=>whnf
 refine⟨_,h.head.one rfl,?_⟩;conv=>whnf
 exact⟨rfl,Ext.refl _⟩
theorem Q02 (h:Qbi w base p c s col q A cap) (hl:s.es.length<1000000):Cal Tryz.prog 20 [.pointer (some ⟨p,0,none⟩)] w fun r w'=>∃ A' c',r = .slice A' s.es.length c'∧SlE w' A' s.es∧Ext w w':=by
 refine Fi Tryz.func20 rfl _ rfl rfl ?_;conv=>whnf
 refine⟨_,h.head.one rfl,?_⟩;conv=>whnf
 refine(Qx0 s.es A cap w (h.evs.sl Qaq) (by omega)).mono ?_;rintro _ w2 ⟨A',c',rfl,hown,hx⟩;(conv=>whnf);repeat(refine Sg ?_;(conv=>whnf))
 exact⟨A',c',rfl,hown.sl Qaq,hx⟩
end
theorem Qa9.low {w:World} {base p:Nat} {c:Cfg} {s:WS} {col:Nat→Nat} (h:Qa9 w base p c s col):∀ k,col k≠0→base≤k:=fun k hk=>by
 obtain⟨q,A,cap,hL⟩:=h.1
 exact hL.low.2 k hk
set_option maxHeartbeats 2000000 in
theorem Qwa (w:World) (hg0:Gl w):Cal Tryz.prog 8 [] w fun r w'=>r = .bool true∧Ext w w':=by
 have hsz:=hg0.size;refine Fi Tryz.func8 rfl _ rfl rfl ?_;conv=>whnf
 refine(Qi8 Q35 w hsz (by rfl)).mono ?_;rintro _ w1 ⟨p,rfl,hW,hx⟩;obtain⟨col,hC⟩:=hW.col;clear hW
 (conv=>whnf);repeat(refine Sg ?_;(conv=>whnf))
 refine⟨_,fun _=>Qcb Q9w _ _ _,?_⟩;(conv=>whnf);repeat(refine Sg ?_;(conv=>whnf))
 constructor
 · intro h;simp at h
 intro _
 (conv=>whnf);repeat(refine Sg ?_;(conv=>whnf))
 refine(Qo2 w1 _ p Q35 (by rfl) WS0 col hC (hg0.ext hx) (Q7c _) (by decide) lv1 (by decide)).mono ?_;rintro _ w2 ⟨rfl,col2,hC2,_,hM2⟩;have hI1:=(Q7c Q35).add lv1;have hE:Qnp Q35.width WS0 lv1=Q4u:=rfl;rw[hE] at hC2 hI1;rw[Xad];replace hx:=Qcw hx hM2 hC.low;clear hM2 hC hE
 (conv=>whnf);repeat(refine Sg ?_;(conv=>whnf))
 obtain⟨⟨q,A,cap,hL⟩,_⟩:=id hC2;refine(Qrx hL).mono ?_;rintro _ w3 ⟨rfl,hx3⟩;replace hL:=hL.ext hx3;replace hC2:=hC2.ext hx3;replace hx:=hx.trans hx3;clear hx3
 (conv=>whnf);repeat(refine Sg ?_;(conv=>whnf))
 refine(Qjc w3 _ q.pd _ _ _ hL.cts.dec ⟨#[97]⟩ 5 ⟨by decide,by decide⟩ (getD_some Xah)).mono ?_;rintro _ w4 ⟨rfl,hx4⟩;rw[show Qaa Q4u.ct.ds (Qw Q35.half) ⟨#[97]⟩ 5=1048576 from Xaf];replace hC2:=hC2.ext hx4;replace hx:=hx.trans hx4;clear hL hx4
 (conv=>whnf);repeat(refine Sg ?_;(conv=>whnf))
 refine(Qo2 w4 _ p Q35 (by rfl) Q4u col2 hC2 (hg0.ext hx) hI1 Xaj lv2 (by decide)).mono ?_;rintro _ w5 ⟨rfl,Q4c,hC5,_,hM5⟩;have hE:Qnp Q35.width Q4u lv2=Q7h:=rfl;rw[hE] at hC5;rw[Xae];replace hx:=Qcw hx hM5 hC2.low;obtain⟨⟨q5,A5,cap5,hL⟩,_⟩:=hC5;clear hM5 hC2 hE hI1
 (conv=>whnf);repeat(refine Sg ?_;(conv=>whnf))
 refine⟨Unit,fun _=>(.pointer (some ⟨q5.pd,0,none⟩)),fun _ w'=>Ext w5 w',(),fun hg=>((Qrx hL)).mono fun r w' h=>⟨(),h.1,h.2⟩,?_⟩;intro _ w6 h2
 have hx6:Ext w5 w6:=by
  rcases h2 with⟨_,h⟩ | ⟨_,h⟩
  · exact h
  · rw[h];exact Ext.refl _
 clear h2
 conv=>whnf
 replace hL:=hL.ext hx6;replace hx:=hx.trans hx6;refine⟨Unit,fun _=>(.int .i64 (Qaa Q7h.ct.ds (Qw Q35.half) ⟨#[97]⟩ 9)),fun _ w'=>Ext w6 w',(),fun hg=>((Qjc w6 _ q5.pd _ _ _ hL.cts.dec ⟨#[97]⟩ 9 ⟨by decide,by decide⟩ (getD_some Xai))).mono fun r w' h=>⟨(),h.1,h.2⟩,?_⟩;intro _ w7 h2
 have hx7:Ext w6 w7:=by
  rcases h2 with⟨_,h⟩ | ⟨_,h⟩
  · exact h
  · rw[h];exact Ext.refl _
 clear h2
 conv=>whnf
 replace hL:=hL.ext hx7;replace hx:=hx.trans hx7;refine⟨Option Addr×Nat,fun i => .slice i.1 Q7h.es.length i.2,fun _ w'=>Ext w7 w',(none,0),fun _=>(Q02 hL (by rw[Q94];decide)).mono fun r w' ⟨A',c',h1,_,h2⟩=>⟨(A',c'),h1,h2⟩,?_⟩;rintro ⟨A8,c8⟩ w8 h8
 have hx8:Ext w7 w8:=by
  rcases h8 with⟨_,h⟩ | ⟨_,h⟩
  · exact h
  · rw[h];exact Ext.refl _
 (conv=>whnf);repeat(refine Sg ?_;(conv=>whnf))
 refine⟨?_,hx.trans hx8⟩;rw[show Qaa Q7h.ct.ds (Qw Q35.half) ⟨#[97]⟩ 9=0 from Xag,Q94]
 rfl
end Go.Proofs.YtdahooejkjcjiaaGreatDoor
