import Derived.Test.YtpdonaienhociaaGreatDoorGXE
set_option linter.all false
namespace Go.Proofs.YtpdonaienhociaaGreatDoor
open Go.Se Go.RowKit
theorem Xjx (a b:Ev) (ox oy:Operand):Qm4 Tryz.prog 77 ox oy (evV a) (evV b) (decide (a=b)):=by
 have h:=Qe1 (ox:=ox) (oy:=oy) Qb st77 (xs:=evC a) (ys:=evC b) (b:=decide (a.src=b.src)&&(decide (a.num=b.num)&&(decide (a.at_=b.at_)&&(decide (a.kind=b.kind)&&(decide (a.person=b.person)&&(decide (a.item=b.item)&&(decide (a.val=b.val)&&(decide (a.text=b.text)&&true)))))))) rfl;have e:(decide (a.src=b.src)&&(decide (a.num=b.num)&&(decide (a.at_=b.at_)&&(decide (a.kind=b.kind)&&(decide (a.person=b.person)&&(decide (a.item=b.item)&&(decide (a.val=b.val)&&(decide (a.text=b.text)&&true))))))))=decide (a=b):=(by rw[Zbx];simp only[Zl,decide_eq_true_eq,Ev.ext_iff,and_true]);rw[e] at h;exact h
theorem Q27 (l m:List Pt) (A B:Option Addr) (c d:Nat) (w:World) (hs:Sl ptC 3 w A l) (hm:Sl ptC 3 w B m) (hl:l.length<1000000000000) :
 Cal Tryz.prog 56 [.slice A l.length c,.slice B m.length d] w fun r w'=>r = .bool (decide (l=m))/\Ext w w':=by
 refine Fi Tryz.func56 rfl _ rfl rfl (Hh ?_);constructor
 . intro h1;have h1:l.length≠m.length:=by simp at h1;omega
   refine Hh ?_;exact⟨by rw[decide_eq_false (fun e=>h1 (by rw[e]))],Ext.refl _⟩
 . intro h1;have h1:l.length=m.length:=by simp at h1;omega
   refine Hh ?_
   refine Qh Qb (fun(k:Nat) w'=>k<=l.length/\Ext w w'/\l.take k=m.take k)
    (fun k => [(0,.slice A l.length c),(1,.slice B m.length d),(12,Vj l.length),(13,Vj (k:Nat))]) (fun k=>l.length-k) 0 ⟨Om,Ext.refl _,by simp⟩ Rr ?_
   rintro k w1 ⟨hk,hx,hall⟩;refine Hh ?_;constructor
   . intro hlt;have hlt:k<l.length:=Su hlt;have hlt':k<m.length:=Om;obtain⟨a,rfl,hc⟩:=hs.get hlt;obtain⟨b,rfl,hd⟩:=hm.get hlt';refine Gg ?_;refine Dr .same [0,1,2,3,4,5,6,7,8] [] (Hh ?_);refine⟨a,Ix,Hh ?_⟩;refine⟨ptC l[k],⟨rfl,hx.cells hc⟩,Hh ?_⟩;refine⟨b,Ix,Hh ?_⟩;refine⟨ptC m[k],⟨rfl,hx.cells hd⟩,Hh ?_⟩;refine⟨_,Xja l[k] m[k] _ _,Gg ?_⟩;constructor
     . intro he;have he:l[k]≠m[k]:=Su he;refine Gg ?_;refine⟨by rw[decide_eq_false (fun e=>he (by simp[e]))],hx.drew⟩
     . intro he;have he:l[k]=m[k]:=Su he;refine Gg ?_;refine⟨_,wrap_succ Om,Gg ?_⟩;refine⟨k+1,Om,⟨Om,hx.drew,?_⟩,Rr⟩;rw[Za hlt,Za hlt',hall,he]
   . intro hge;have hge:l.length<=k:=Su hge;refine Gg ?_;rw[Zb hge,Zb Om] at hall;exact⟨by rw[decide_eq_true hall],hx⟩
theorem Q26 (l m:List Ev) (A B:Option Addr) (c d:Nat) (w:World) (hs:Sl evC 8 w A l) (hm:Sl evC 8 w B m) (hl:l.length<1000000000000) :
 Cal Tryz.prog 57 [.slice A l.length c,.slice B m.length d] w fun r w'=>r = .bool (decide (l=m))/\Ext w w':=by
 refine Fi Tryz.func57 rfl _ rfl rfl (Hh ?_);constructor
 . intro h1;have h1:l.length≠m.length:=by simp at h1;omega
   refine Hh ?_;exact⟨by rw[decide_eq_false (fun e=>h1 (by rw[e]))],Ext.refl _⟩
 . intro h1;have h1:l.length=m.length:=by simp at h1;omega
   refine Hh ?_
   refine Qh Qb (fun(k:Nat) w'=>k<=l.length/\Ext w w'/\l.take k=m.take k)
    (fun k => [(0,.slice A l.length c),(1,.slice B m.length d),(12,Vj l.length),(13,Vj (k:Nat))]) (fun k=>l.length-k) 0 ⟨Om,Ext.refl _,by simp⟩ Rr ?_
   rintro k w1 ⟨hk,hx,hall⟩;refine Hh ?_;constructor
   . intro hlt;have hlt:k<l.length:=Su hlt;have hlt':k<m.length:=Om;obtain⟨a,rfl,hc⟩:=hs.get hlt;obtain⟨b,rfl,hd⟩:=hm.get hlt';refine Gg ?_;refine Dr .same [0,1,2,3,4,5,6,7,8] [] (Hh ?_);refine⟨a,Ix,Hh ?_⟩;refine⟨evC l[k],⟨rfl,hx.cells hc⟩,Hh ?_⟩;refine⟨b,Ix,Hh ?_⟩;refine⟨evC m[k],⟨rfl,hx.cells hd⟩,Hh ?_⟩;refine⟨_,Xjx l[k] m[k] _ _,Gg ?_⟩;constructor
     . intro he;have he:l[k]≠m[k]:=Su he;refine Gg ?_;refine⟨by rw[decide_eq_false (fun e=>he (by simp[e]))],hx.drew⟩
     . intro he;have he:l[k]=m[k]:=Su he;refine Gg ?_;refine⟨_,wrap_succ Om,Gg ?_⟩;refine⟨k+1,Om,⟨Om,hx.drew,?_⟩,Rr⟩;rw[Za hlt,Za hlt',hall,he]
   . intro hge;have hge:l.length<=k:=Su hge;refine Gg ?_;rw[Zb hge,Zb Om] at hall;exact⟨by rw[decide_eq_true hall],hx⟩
def Q9f (tot fan tt ff:Int) (Q Q1:List Pt) (O O1:List Ev):Bool:=((decide (tt=tot)&&decide (ff=fan))&&decide (Q1=Q))&&decide (O1=O)
set_option maxHeartbeats 2000000 in
theorem Q2n {w:World} {T:Nat->Prop} {p:Nat} {c:Cfg} {z:List Ev} (hW:WT w T p c z) (hok:Qm7 c z) (hg:Gl w) (hT:∀ k,T k->10<=k) (a:Nat->Int) (person item:Bj) (now tt ff:Int) (A1:Option Addr) (c1 n1:Nat) (Q1:List Pt) (A2:Option Addr) (c2 n2:Nat) (O1:List Ev) (h1:Sl ptC 3 w A1 Q1) (h2:SlE w A2 O1) (e1:n1=Q1.length) (e2:n2=O1.length) (l1:Q1.length<1000000) (l2:O1.length<1000000) (m1:∀ x,A1=some x->¬ T x.block) (m2:∀ x,A2=some x->¬ T x.block) :
 Cal Tryz.prog 18 [Pj p,.agg (wsC a).toArray,.string person,Vj now,.agg (rsC item A1 n1 c1 tt A2 n2 c2 ff).toArray] w fun r w'=>r = .bool (Q9f (Qmi (Qlt (Qs6 c z person item now) a 6)) (Qpt c z item) tt ff (Qlt (Qs6 c z person item now) a 6) Q1 (Qvt c z person item now) O1)/\(∃ T',WT w' T' p c z/\∀ k,T' k->T k\/w.heap.size<=k)/\Mod T w w':=by
 have hsz:=hg.size;subst e1 e2;refine Fi Tryz.func18 rfl _ rfl rfl (Hh ?_);intro b6 w1 hn1;refine Gg ?_;have h6:At w1 b6 27 (wsC a):=hn1.At;intro b9 w2 hn2;refine Gg ?_;have h9:At w2 b9 72 (rsC item A1 Q1.length c1 tt A2 O1.length c2 ff):=hn2.At;have hTl:=hW.lt;have n9:¬ T b9:=fun h=>by have:=hTl _ h;have:=hn1.ext.size;have:=hn2.block;omega
 replace h6:=h6.ext hn2.ext;have hx:=hn1.ext.trans hn2.ext;clear hn1 hn2;refine⟨wsC a,⟨rfl,h6.all⟩,Gg ?_⟩;refine⟨.string item,h9.one rfl,Gg ?_⟩;refine(Qj3 (hW.ext hx) hok (hg.ext hx) hT a person item now).mono ?_;rintro _ w3 ⟨B1,d1,B2,d2,T3,rfl,hp3,ho3,_,_,_,hW3,hT3,hM3⟩;have hs1:=Q4n.stay (h1.ext hx) fun x hx' hlt=>hM3.block x.block hlt (m1 x hx')
 have hs2:=Qk2.stay (h2.ext hx) fun x hx' hlt=>hM3.block x.block hlt (m2 x hx')
 replace h9:=h9.mod hM3 n9;have hr1:=hp3.sl Qs4;have hr2:=ho3.sl Qag;have hQl:(Qlt (Qs6 c z person item now) a 6).length=6:=Qs5 _ _ _;have s2:=hx.size;generalize Qmi (Qlt (Qs6 c z person item now) a 6)=tot;generalize Qlt (Qs6 c z person item now) a 6=Q at hr1 hQl ⊢;generalize Qpt c z item=fan;generalize Qvt c z person item now=O at hr2 ⊢;clear hp3 ho3;refine Gg ?_;intro b11 w4 hn4;refine Gg ?_;refine Qc Qb (e:=ty72) rfl hn4.At rfl rfl rfl (by simp[Qg,rsC,Value.oneCell']) fun w5 h11 ho5 => ?_
 have h11:At w5 b11 72 (rsC item B1 6 d1 tot B2 O.length d2 fan):=h11;have hx35:Ext w3 w5:=ho5.ext hn4.ext (by rw[hn4.block];exact Zg _);clear ho5 hn4;replace hs1:=hs1.ext hx35;replace hs2:=hs2.ext hx35;replace hr1:=hr1.ext hx35;replace hr2:=hr2.ext hx35;replace h9:=h9.ext hx35;refine Gg ?_;refine⟨Vj tt,h9.one rfl,Gg ?_⟩;refine⟨Vj tot,h11.one rfl,Gg ?_⟩;refine⟨Vj ff,fun _=>h9.one rfl,Gg ?_⟩;refine⟨Vj fan,fun _=>h11.one rfl,Gg ?_⟩;refine⟨.slice A1 Q1.length c1,fun _=>h9.one rfl,Gg ?_⟩;refine⟨.slice B1 6 d1,fun _=>h11.one rfl,Gg ?_⟩;have heq:=Q27 Q1 Q A1 B1 c1 d1 w5 hs1 hr1 Om;rw[hQl] at heq;refine⟨Unit,fun _=>(.bool (decide (Q1=Q))),fun _ w'=>Ext w5 w',(),fun hg=>(heq).mono fun r w' h=>⟨(),h.1,h.2⟩,?_⟩;intro _ w6 h2
 have hx6:Ext w5 w6:=by
  rcases h2 with⟨_,h⟩ | ⟨_,h⟩
  . exact h
  . rw[h];exact Ext.refl _
 clear h2;refine Hh ?_;refine⟨.slice A2 O1.length c2,fun _=>(h9.ext hx6).one rfl,Gg ?_⟩;refine⟨.slice B2 O.length d2,fun _=>(h11.ext hx6).one rfl,Gg ?_⟩;refine⟨Unit,fun _=>(.bool (decide (O1=O))),fun _ w'=>Ext w6 w',(),fun hg=>((Q26 O1 O A2 B2 c2 d2 w6 (hs2.ext hx6) (hr2.ext hx6) Om)).mono fun r w' h=>⟨(),h.1,h.2⟩,?_⟩;intro _ w7 h2
 have hx7:Ext w6 w7:=by
  rcases h2 with⟨_,h⟩ | ⟨_,h⟩
  . exact h
  . rw[h];exact Ext.refl _
 clear h2;refine Hh ?_;exact⟨rfl,⟨T3,hW3.ext (hx35.trans (hx6.trans hx7)),fun k hk=>(hT3 k hk).imp id fun h=>Om⟩,((Mod.of_ext hx).trans hM3).trans (Mod.of_ext (hx35.trans (hx6.trans hx7)))⟩
theorem Q4i (tot fan:Int) (Q:List Pt) (O:List Ev):Q9f tot fan tot fan Q Q O O=true:=by simp[Q9f]
