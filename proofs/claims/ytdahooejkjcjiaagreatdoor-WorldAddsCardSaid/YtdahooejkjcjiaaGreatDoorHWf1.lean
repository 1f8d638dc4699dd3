import Derived.Test.YtdahooejkjcjiaaGreatDoorGE
import Derived.Test.YtdahooejkjcjiaaGreatDoorGL
import Derived.Test.YtdahooejkjcjiaaGreatDoorGC
/- Worlds that may not be;the reference's small words (Twin,Left that may be appended to). -/
set_option linter.unusedVariables false
set_option linter.unusedSimpArgs false
namespace Go.Proofs.YtdahooejkjcjiaaGreatDoor
open Go.Se Go.RowKit
theorem Qus (c:Cfg) (w:World) (hc:Qo7 c=false):Cal Tryz.prog 10 [Q0a c] w fun r w'=>r = .tuple #[.pointer Option.none,.int .i64 1]∧Ext w w':=by
 refine Fi Tryz.func10 rfl _ rfl rfl ?_;conv=>whnf
 intro b1 w1 hn1;have hb1:At w1 b1 23 (Qi9 c):=hn1.At
 conv=>whnf
 refine⟨Qi9 c,⟨rfl,hb1.all⟩,?_⟩;conv=>whnf
 refine(Qs6 c w1).mono ?_;rintro _ w2 ⟨rfl,hx2⟩;rw[hc]
 conv=>whnf
 constructor
 · intro _
   conv=>whnf
   exact⟨rfl,hn1.ext.trans hx2⟩
 · intro q;cases q
theorem Qy4 (l:List Ev) (A:Option Addr) (c:Nat) (w:World) (base:Nat) (hb:base≤w.heap.size) (hs0:Own evC 8 34 base w A c l) (hl:l.length<900000) :
 Cal Tryz.prog 17 [.slice A l.length c] w fun r w'=>∃ A' c',r = .slice A' (Qen l).length c'∧Own evC 8 34 base w' A' c' (Qen l)∧(A'=A∨∀ a,A'=some a→w.heap.size≤a.block)∧Ext w w':=by
 have hs:=hs0.sl Qaq;refine Fi Tryz.func17 rfl _ rfl rfl ?_;conv=>whnf
 refine(Qoi l A c w hs hl).mono ?_;rintro _ w1 ⟨AG,cG,G,rfl,hG,hGl,hsG,hx1⟩;conv=>whnf
 refine Qe Qa (fun(k:Nat×Option Addr×Nat×List Ev) w'=>k.1≤G.length∧Ext w1 w'∧k.2.2.2=l.filter (fun e => !inT (G.take k.1) e.person||decide (e.kind=14))∧Own evC 8 34 base w' k.2.1 k.2.2.1 k.2.2.2∧(k.2.1=A∨∀ a,k.2.1=some a→w.heap.size≤a.block))
  (fun | (k,B,d,T) => [(3,.slice AG G.length cG),(4,.slice B T.length d),(5,.int .i64 k)]) (fun k=>G.length-k.1) (0,A,c,l) ⟨by simp,Ext.refl _,by simp only[List.take_zero,inT,List.any_nil,Bool.not_false,Bool.true_or];exact(List.filter_eq_self.2 (fun _ _=>rfl)).symm,hs0.ext hx1,.inl rfl⟩ ⟨rfl,rfl,rfl,trivial⟩ ?_
 rintro ⟨k,B,d,T⟩ w2 ⟨hk,hx2,hT,hsl,hal⟩;simp only at hk hT hsl hal;have hTl:T.length≤l.length:=by rw[hT];exact List.length_filter_le _ _
 conv=>whnf
 constructor
 · intro hc
   have hc:k<G.length:=by simpa using hc
   obtain⟨a2,rfl,hce⟩:=(hsG.ext hx2).get hc;have htk:=Xg G k hc;generalize G[k]=p at hce htk
   have hsn:l.filter (fun e => !inT (G.take (k+1)) e.person||decide (e.kind=14))=Qey T p:=by
    unfold Qey;rw[hT,List.filter_filter,htk]
    congr 1
    funext e
    simp only[inT,List.any_append,List.any_cons,List.any_nil,Bool.or_false];rw[show decide (p=e.person)=decide (e.person=p) by simp[eq_comm]]
    cases (G.take k).any (fun x=>decide (x=e.person)) <;> cases decide (e.person=p) <;> cases decide (e.kind=14) <;> rfl
   conv=>whnf
   refine⟨a2,⟨rfl,by omega,by omega⟩,?_⟩;conv=>whnf
   refine⟨.string p,Qu hce,?_⟩;conv=>whnf
   refine(Qsb T p B d w2 (hsl.sl Qaq) (by omega)).mono ?_;rintro _ w3 ⟨A3,c3,rfl,hs3,hx3⟩;have hal3:∀ a,A3=some a→w.heap.size≤a.block:=fun a ha=>Nat.le_trans (hx1.trans hx2).size (hs3.block ha).1
   replace hs3:=hs3.base (Nat.le_trans hb (hx1.trans hx2).size);rw[← hsn] at hs3 ⊢;generalize hT1:l.filter (fun e => !inT (G.take (k+1)) e.person||decide (e.kind=14))=T1 at hs3 ⊢
   conv=>whnf
   refine⟨_,wrap_succ (by omega),?_⟩;conv=>whnf
   exact⟨(k+1,A3,c3,T1),by simp only;omega,⟨by simp only;omega,hx2.trans hx3,hT1.symm,hs3,.inr hal3⟩,⟨rfl,rfl,rfl,trivial⟩⟩
 · intro hc
   have hc:G.length≤k:=by simpa using hc
   rw[List.take_of_length_le hc] at hT
   have hT':T=Qen l:=by
    rw[hT];unfold Qen
    congr 1
    funext e
    unfold Qff
    congr 2
    rw[Bool.eq_iff_iff,Qe1]
    exact hG e.person
   rw[← hT']
   conv=>whnf
   exact⟨B,d,rfl,hsl,hal,hx1.trans hx2⟩
def Qqn (l:List Ev) (f:Ev):Bool:=l.any fun x=>decide (idE x=idE f)
set_option maxHeartbeats 1000000 in
theorem Qzh (l:List Ev) (A:Option Addr) (cap:Nat) (f:Ev) (w:World) (hs:SlE w A l) (hl:l.length<1000000) :
 Cal Tryz.prog 14 [.slice A l.length cap,evV f] w fun r w'=>r = .bool (Qqn l f)∧Ext w w':=by
 refine Fi Tryz.func14 rfl _ rfl rfl ?_;conv=>whnf
 intro b1 w1 hn1;have h1:At w1 b1 34 (evC f):=hn1.At;have hx:=hn1.ext;clear hn1
 conv=>whnf
 refine Qe Qa (fun(k:Nat) w'=>k≤l.length∧Ext w1 w'∧∀ x∈l.take k,idE x≠idE f)
  (fun k => [(0,.slice A l.length cap),(3,.pointer (some ⟨b1,0,none⟩)),(5,.int .i64 (k:Nat))]) (fun k=>l.length-k) 0 ⟨by omega,Ext.refl _,by simp⟩ ⟨rfl,rfl,rfl,trivial⟩ ?_
 rintro k w2 ⟨hk,hx2,hall⟩;replace hx:=hx.trans hx2;replace h1:=h1.ext hx2
 conv=>whnf
 constructor
 · intro hlt
   have hlt:k<l.length:=by simpa using hlt
   obtain⟨a,rfl,hc⟩:=(hs.ext hx).get hlt;have htk:=Xg l k hlt;have hin:=List.getElem_mem hlt;generalize l[k]=e at hc htk hin
   (conv=>whnf);repeat(refine Sg ?_;(conv=>whnf))
   refine Dr .ext [0,1,2,3,4,5,6,7,8,9,10,11,12,13,14,15,16,17] [] ?_;conv=>whnf
   have hxd:Ext w2 w2.drew:=(Ext.refl w2).drew;replace h1:=h1.ext hxd;replace hc:=hxd.cells hc;replace hx:=hx.trans hxd;replace hx2:=hx2.trans hxd;generalize w2.drew=w3 at h1 hc hx hx2 ⊢;refine⟨a,⟨rfl,by omega,by omega⟩,?_⟩;conv=>whnf
   refine⟨_,cells_at hc (k:=0) rfl,?_⟩;conv=>whnf
   refine⟨_,h1.one rfl,?_⟩;conv=>whnf
   refine⟨a,fun _=>⟨rfl,by omega,by omega⟩,?_⟩;conv=>whnf
   refine⟨_,fun _=>cells_at hc (k:=1) rfl,?_⟩;conv=>whnf
   refine⟨_,fun _=>h1.one rfl,?_⟩;conv=>whnf
   constructor
   · intro hq
     have hq:(decide (e.src=f.src)&&decide (e.num=f.num))=true:=hq
     (conv=>whnf);repeat(refine Sg ?_;(conv=>whnf))
     refine⟨?_,hx⟩;have:Qqn l f=true:=List.any_eq_true.2 ⟨e,hin,decide_eq_true (by unfold idE;simp at hq;rw[hq.1,hq.2])⟩;rw[this]
   · intro hq
     have hq:(decide (e.src=f.src)&&decide (e.num=f.num))=false:=hq
     (conv=>whnf);repeat(refine Sg ?_;(conv=>whnf))
     refine⟨_,wrap_succ (by omega),?_⟩;(conv=>whnf);repeat(refine Sg ?_;(conv=>whnf))
     refine⟨k+1,by omega,⟨by omega,hx2,fun y hy => ?_⟩,⟨rfl,rfl,rfl,trivial⟩⟩;rw[htk] at hy;rcases List.mem_append.1 hy with hy | hy
     · exact hall y hy
     · rw[List.mem_singleton.1 hy]
       intro he;unfold idE at he;simp only[Prod.mk.injEq] at he
       simp[he.1,he.2] at hq
 · intro hge
   have hge:l.length≤k:=by simpa using hge
   rw[List.take_of_length_le hge] at hall
   (conv=>whnf);repeat(refine Sg ?_;(conv=>whnf))
   refine⟨?_,hx⟩;have:Qqn l f=false:=List.any_eq_false.2 fun x hx=>by simpa using hall x hx
   rw[this]
end Go.Proofs.YtdahooejkjcjiaaGreatDoor
