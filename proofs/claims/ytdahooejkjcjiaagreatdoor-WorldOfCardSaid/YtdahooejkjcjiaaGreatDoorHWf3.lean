import Derived.Test.YtdahooejkjcjiaaGreatDoorHWf1
import Derived.Test.YtdahooejkjcjiaaGreatDoorGI
/- world.Of,whatever it is given;configs compared. -/
set_option linter.unusedVariables false
set_option linter.unusedSimpArgs false
namespace Go.Proofs.YtdahooejkjcjiaaGreatDoor
open Go.Se Go.RowKit
theorem Xcm (c:Cfg) (ox oy:Operand):Qok Tryz.prog 23 ox oy (Qsx c) (Qsx c) true:=by
 have h:=Qha (ox:=ox) (oy:=oy) Qa st23 (xs:=Qip c) (ys:=Qip c) (b:=decide (c.half=c.half)&&(decide (c.width=c.width)&&(decide (c.gap=c.gap)&&(decide (c.span=c.span)&&(decide (c.floor=c.floor)&&(decide (c.crowd=c.crowd)&&true)))))) rfl;rw[show (decide (c.half=c.half)&&(decide (c.width=c.width)&&(decide (c.gap=c.gap)&&(decide (c.span=c.span)&&(decide (c.floor=c.floor)&&(decide (c.crowd=c.crowd)&&true))))))=true by simp] at h
 exact h
theorem Q08 (c:Cfg) (l:List Ev) (A:Option Addr) (cap:Nat) (w:World) (hg0:Gl w) (hs:SlE w A l) (hl:l.length<1000000) (ht:∀ e∈l,e.text.size<4000000000) :
 Cal Tryz.prog 23 [Qsx c,.slice A l.length cap] w fun r w'=>∃ (p:Option Addr) (e:Int),r = .tuple #[.pointer p,.int .i64 e]∧Ext w w' ∧
  (((Qii c&&l.all Xn)=false∧p=none∧e=1)∨((Qii c&&l.all Xn)=true∧e=0∧∃ b T,p=some ⟨b,0,none⟩∧WT w' T b c (Qf8 l)∧∀ k,T k→w.heap.size≤k)):=by
 cases hc:Qii c with
 | false =>
   refine(Q09 c hc l A cap w).mono ?_;rintro _ w' ⟨rfl,hx⟩
   exact⟨none,1,rfl,hx,.inl ⟨by simp,rfl,rfl⟩⟩
 | true =>
   cases ha:l.all Xn with
   | false =>
     refine(Q1a c hc l A cap w hg0 hs hl ht ha).mono ?_;rintro _ w' ⟨rfl,hx⟩
     exact⟨none,1,rfl,hx,.inl ⟨by simp,rfl,rfl⟩⟩
   | true =>
     refine(Q4e c hc l A cap w hg0 hs hl (List.all_eq_true.1 ha)).mono ?_;rintro _ w' ⟨p,rfl,hW,hx⟩;obtain⟨T,hT,hT0⟩:=hW.t
     exact⟨some ⟨p,0,none⟩,0,rfl,hx,.inr ⟨by simp,rfl,p,T,rfl,hT,hT0⟩⟩
end Go.Proofs.YtdahooejkjcjiaaGreatDoor
