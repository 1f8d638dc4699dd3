import Derived.Test.YtpdonaienhociaaGreatDoorGSB
set_option linter.all false
namespace Go.Proofs.YtpdonaienhociaaGreatDoor
open Go.Se Go.RowKit
theorem Xjv (a b:Ch) (ox oy:Operand):Qm4 Tryz.prog 68 ox oy (.agg (chC a).toArray) (.agg (chC b).toArray) (decide (a=b)):=by
 have h:=Qe1 (ox:=ox) (oy:=oy) Qb st68 (xs:=chC a) (ys:=chC b) (b:=decide (a.item=b.item)&&(decide (a.maker=b.maker)&&(decide (a.tags=b.tags)&&(decide (a.score=b.score)&&true)))) rfl;have e:(decide (a.item=b.item)&&(decide (a.maker=b.maker)&&(decide (a.tags=b.tags)&&(decide (a.score=b.score)&&true))))=decide (a=b):=(by rw[Zbx];obtain⟨a1,a2,a3,a4⟩:=a;obtain⟨b1,b2,b3,b4⟩:=b;simp);rw[e] at h;exact h
theorem Q25 (l m:List Ch) (A B:Option Addr) (c d:Nat) (w:World) (hs:Sl chC 4 w A l) (hm:Sl chC 4 w B m) (hl:l.length<1000000000000) :
 Cal Tryz.prog 55 [.slice A l.length c,.slice B m.length d] w fun r w'=>r = .bool (decide (l=m))/\Ext w w':=by
 refine Fi Tryz.func55 rfl _ rfl rfl (Hh ?_);constructor
 . intro h1;have h1:l.length≠m.length:=by simp at h1;omega
   refine Hh ?_;exact⟨by rw[decide_eq_false (fun e=>h1 (by rw[e]))],Ext.refl _⟩
 . intro h1;have h1:l.length=m.length:=by simp at h1;omega
   refine Hh ?_
   refine Qh Qb (fun(k:Nat) w'=>k<=l.length/\Ext w w'/\l.take k=m.take k)
    (fun k => [(0,.slice A l.length c),(1,.slice B m.length d),(12,Vj l.length),(13,Vj (k:Nat))]) (fun k=>l.length-k) 0 ⟨Om,Ext.refl _,by simp⟩ Rr ?_
   rintro k w1 ⟨hk,hx,hall⟩;refine Hh ?_;constructor
   . intro hlt;have hlt:k<l.length:=Su hlt;have hlt':k<m.length:=Om;obtain⟨a,rfl,hc⟩:=hs.get hlt;obtain⟨b,rfl,hd⟩:=hm.get hlt';refine Gg ?_;refine Dr .same [0,1,2,3,4,5,6,7,8] [] (Hh ?_);refine⟨a,Ix,Hh ?_⟩;refine⟨chC l[k],⟨rfl,hx.cells hc⟩,Hh ?_⟩;refine⟨b,Ix,Hh ?_⟩;refine⟨chC m[k],⟨rfl,hx.cells hd⟩,Hh ?_⟩;refine⟨_,Xjv l[k] m[k] _ _,Gg ?_⟩;constructor
     . intro he;have he:l[k]≠m[k]:=Su he;refine Gg ?_;refine⟨by rw[decide_eq_false (fun e=>he (by simp[e]))],hx.drew⟩
     . intro he;have he:l[k]=m[k]:=Su he;refine Gg ?_;refine⟨_,wrap_succ Om,Gg ?_⟩;refine⟨k+1,Om,⟨Om,hx.drew,?_⟩,Rr⟩;rw[Za hlt,Za hlt',hall,he]
   . intro hge;have hge:l.length<=k:=Su hge;refine Gg ?_;rw[Zb hge,Zb Om] at hall;exact⟨by rw[decide_eq_true hall],hx⟩
theorem Q4j (c:Caps) (s l:List Ch) (A B:Option Addr) (d e:Nat) (w:World) (hg:Gl w) (hs:Sl chC 4 w A s) (hm:Sl chC 4 w B l) (hsl:s.length<1000) (hl:l.length<1000) (ht:∀ x∈l,x.tags.size<1000) :
 Cal Tryz.prog 16 [.slice A s.length d,.slice B l.length e,.agg (Qnh c).toArray] w fun r w'=>r = .bool (decide (s=Qf1 c l))/\Ext w w':=by
 refine Fi Tryz.func16 rfl _ rfl rfl (Hh ?_);intro b1 w1 hn1;have h1:At w1 b1 29 (Qnh c):=hn1.At;have hx1:=hn1.ext;clear hn1;refine Gg ?_;refine⟨Qnh c,⟨rfl,h1.all⟩,Gg ?_⟩;refine(Qvl c l B e w1 (hg.ext hx1) (hm.ext hx1) hl ht).mono ?_;rintro _ w2 ⟨A2,c2,rfl,ho2,hx2⟩;generalize Qf1 c l=m at ho2 ⊢;refine Gg ?_;refine(Q25 s m A A2 d c2 w2 ((hs.ext hx1).ext hx2) (ho2.sl Qge) Om).mono ?_;rintro _ w3 ⟨rfl,hx3⟩;refine Gg ?_;exact⟨rfl,hx1.trans (hx2.trans hx3)⟩
