import Derived.Test.YtdahooejkjcjiaaGreatDoorGC
/- The reference's Same. -/
set_option linter.unusedVariables false
set_option linter.unusedSimpArgs false
namespace Go.Proofs.YtdahooejkjcjiaaGreatDoor
open Go.Se Go.RowKit
theorem Xda (a b:Ev) (ox oy:Operand):Qok Tryz.prog 34 ox oy (evV a) (evV b) (decide (a=b)):=by
 have h:=Qha (ox:=ox) (oy:=oy) Qa st34 (xs:=evC a) (ys:=evC b) (b:=decide (a.src=b.src)&&(decide (a.num=b.num)&&(decide (a.at_=b.at_)&&(decide (a.kind=b.kind)&&(decide (a.person=b.person)&&(decide (a.item=b.item)&&(decide (a.val=b.val)&&(decide (a.text=b.text)&&true)))))))) rfl
 have e:(decide (a.src=b.src)&&(decide (a.num=b.num)&&(decide (a.at_=b.at_)&&(decide (a.kind=b.kind)&&(decide (a.person=b.person)&&(decide (a.item=b.item)&&(decide (a.val=b.val)&&(decide (a.text=b.text)&&true))))))))=decide (a=b):=by
  rw[Bool.eq_iff_iff];simp only[Bool.and_eq_true,decide_eq_true_eq,Ev.ext_iff,and_true]
 rw[e] at h
 exact h
theorem Q5p (l m:List Ev) (A B:Option Addr) (c d:Nat) (w:World) (hs:SlE w A l) (hm:SlE w B m) (hl:l.length<1000000000000) :
 Cal Tryz.prog 19 [.slice A l.length c,.slice B m.length d] w fun r w'=>r = .bool (decide (l=m))∧Ext w w':=by
 refine Fi Tryz.func19 rfl _ rfl rfl (Hh ?_);constructor
 · intro h1
   have h1:l.length≠m.length:=by simp at h1;omega
   conv=>whnf
   exact⟨by rw[decide_eq_false (fun e=>h1 (by rw[e]))],Ext.refl _⟩
 · intro h1
   have h1:l.length=m.length:=by simp at h1;omega
   conv=>whnf
   refine Qd Qa (fun(k:Nat) w'=>k≤l.length∧Ext w w'∧l.take k=m.take k)
    (fun k => [(0,.slice A l.length c),(1,.slice B m.length d),(5,.int .i64 k)]) (fun k=>l.length-k) 0 ⟨by omega,Ext.refl _,by simp⟩ Rr ?_
   rintro k w1 ⟨hk,hx,hall⟩
   conv=>whnf
   constructor
   · intro hlt
     have hlt:k<l.length:=by simpa using hlt
     have hlt':k<m.length:=by omega
     obtain⟨a,rfl,hc⟩:=hs.get hlt;obtain⟨b,rfl,hd⟩:=hm.get hlt'
     conv=>whnf
     refine Dr .same [0,1,2,3,4,5,6,7,8] [] (Hh ?_);refine⟨a,Ix,Hh ?_⟩;refine⟨evC l[k],⟨rfl,hx.cells hc⟩,Hh ?_⟩;refine⟨b,Ix,Hh ?_⟩;refine⟨evC m[k],⟨rfl,hx.cells hd⟩,Hh ?_⟩;refine⟨_,Xda l[k] m[k] _ _,Hh ?_⟩;constructor
     · intro he
       have he:l[k]≠m[k]:=by simpa using he
       conv=>whnf
       refine⟨by rw[decide_eq_false (fun e=>he (by simp[e]))],hx.drew⟩
     · intro he
       have he:l[k]=m[k]:=by simpa using he
       conv=>whnf
       refine⟨_,wrap_succ (by omega),Hh ?_⟩;refine⟨k+1,by omega,⟨by omega,hx.drew,?_⟩,Rr⟩;rw[List.take_succ_eq_append_getElem hlt,List.take_succ_eq_append_getElem hlt',hall,he]
   · intro hge
     have hge:l.length≤k:=by simpa using hge
     conv=>whnf
     rw[List.take_of_length_le hge,List.take_of_length_le (by omega)] at hall
     exact⟨by rw[decide_eq_true hall],hx⟩
end Go.Proofs.YtdahooejkjcjiaaGreatDoor
