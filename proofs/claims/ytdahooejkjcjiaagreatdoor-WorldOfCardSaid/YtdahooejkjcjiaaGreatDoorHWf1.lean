import Derived.Test.YtdahooejkjcjiaaGreatDoorGE
import Derived.Test.YtdahooejkjcjiaaGreatDoorGL
import Derived.Test.YtdahooejkjcjiaaGreatDoorGC
/- Worlds that may not be;the reference's small words (Twin,Left that may be appended to). -/
set_option linter.unusedVariables false
set_option linter.unusedSimpArgs false
namespace Go.Proofs.YtdahooejkjcjiaaGreatDoor
open Go.Se Go.RowKit
theorem Qww (c:Cfg) (w:World) (hc:Qii c=false):Cal Tryz.prog 10 [Qsx c] w fun r w'=>r = .tuple #[.pointer Option.none,.int .i64 1]∧Ext w w':=by
 refine Fi Tryz.func10 rfl _ rfl rfl (Hh ?_);intro b1 w1 hn1;have hb1:At w1 b1 23 (Qip c):=hn1.At
 conv=>whnf
 refine⟨Qip c,⟨rfl,hb1.all⟩,Hh ?_⟩;refine(Qof c w1).mono ?_;rintro _ w2 ⟨rfl,hx2⟩;rw[hc]
 conv=>whnf
 constructor
 · intro _
   conv=>whnf
   exact⟨rfl,hn1.ext.trans hx2⟩
 · intro q;cases q
theorem Q09 (c:Cfg) (hcf:Qii c=false) (l:List Ev) (A:Option Addr) (cap:Nat) (w:World) :
 Cal Tryz.prog 23 [Qsx c,.slice A l.length cap] w fun r w'=>r = .tuple #[.pointer Option.none,.int .i64 1]∧Ext w w':=by
 refine Fi Tryz.func23 rfl _ rfl rfl (Hh ?_);intro b1 w1 hn1;conv=>whnf
 refine⟨Qip c,⟨rfl,hn1.At.all⟩,Hh ?_⟩;refine(Qww c w1 hcf).mono ?_;rintro _ w2 ⟨rfl,hx2⟩;conv=>whnf
 refine⟨fun _ => ?_,fun h=>(by simp at h)⟩
 conv=>whnf
 exact⟨rfl,hn1.ext.trans hx2⟩
set_option maxHeartbeats 1000000 in
theorem Q1a (c:Cfg) (hcf:Qii c=true) (l:List Ev) (A:Option Addr) (cap:Nat) (w:World) (hg0:Gl w) (hs:SlE w A l) (hl:l.length<1000000) (ht:∀ e∈l,e.text.size<4000000000) (hbad:l.all Xn=false) :
 Cal Tryz.prog 23 [Qsx c,.slice A l.length cap] w fun r w'=>r = .tuple #[.pointer Option.none,.int .i64 1]∧Ext w w':=by
 refine Fi Tryz.func23 rfl _ rfl rfl (Hh ?_);intro b1 w1 hn1;conv=>whnf
 refine⟨Qip c,⟨rfl,hn1.At.all⟩,Hh ?_⟩;refine(Qgq c w1 (by have:=hg0.size;have:=hn1.size;omega) hcf).mono ?_;rintro _ w2 ⟨p,rfl,hW2,hx2⟩;conv=>whnf
 refine⟨fun h=>(by simp at h),fun _ => ?_⟩;have hx:=hn1.ext.trans hx2;clear hW2 hn1 hx2
 conv=>whnf
 refine Qd Qa (fun(j:Nat) w'=>j≤l.length∧(∀ e∈l.take j,Xn e=true)∧Ext w2 w')
  (fun j => [(1,.slice A l.length cap),(6,.pointer (some ⟨p,0,none⟩)),(21,.slice A l.length cap),(22,.int .i64 l.length),(23,.int .i64 j)]) (fun j=>l.length-j) 0 ⟨by omega,by simp,Ext.refl _⟩ Rr ?_
 rintro j w3 ⟨hj,hall,hx3⟩
 conv=>whnf
 constructor
 · intro hc
   have hc:j<l.length:=by simpa using hc
   obtain⟨a2,rfl,hce⟩:=hs.get hc;have htk:=Xi l j hc;have hte:=ht l[j] (List.getElem_mem hc);generalize l[j]=e at hce htk hte
   conv=>whnf
   refine⟨a2,Ix,Hh ?_⟩;refine⟨evC e,⟨rfl,(hx.trans hx3).cells hce⟩,Hh ?_⟩;intro b4 w4 hn4;conv=>whnf
   have e4:=hn4.block;refine Qg Qa (e:=ty34) rfl hn4.At rfl rfl rfl (by simp[Qq,evC,Value.oneCell']) fun w5 h5 ho5 => ?_
   have h5:At w5 b4 _ (evC e):=h5;have hx5:=ho5.ext (hx3.trans hn4.ext) (by have:=hx3.size;omega)
   conv=>whnf
   refine⟨evC e,⟨rfl,h5.all⟩,Hh ?_⟩;refine(Qh7 e w5 (hg0.ext (hx.trans hx5)) hte).mono ?_;rintro _ w6 ⟨rfl,hx6⟩
   conv=>whnf
   refine⟨fun _ => ?_,fun hq => ?_⟩
   · (conv=>whnf)
     exact⟨rfl,hx.trans (hx5.trans hx6)⟩
   have hme:Xn e=true:=by simpa using hq
   conv=>whnf
   refine⟨_,wrap_succ (by omega),Hh ?_⟩;refine⟨j+1,by omega,⟨by omega,fun x hx => ?_,hx5.trans hx6⟩,Rr⟩;rw[htk] at hx;rcases List.mem_append.1 hx with hx | hx
   · exact hall x hx
   · rw[List.mem_singleton.1 hx];exact hme
 · intro hc
   have hc:l.length≤j:=by simpa using hc
   rw[List.take_of_length_le hc] at hall;rw[List.all_eq_true.2 hall] at hbad
   cases hbad
end Go.Proofs.YtdahooejkjcjiaaGreatDoor
