/- Several texts in one: Bu1. -/
import Derived.Test.YteabekcdcphjpaaGreatDoorGE
set_option linter.unusedVariables false
set_option linter.unusedSimpArgs false
namespace Go.Proofs.YteabekcdcphjpaaGreatDoor
open Go.Se Go.RowKit
def thB (e:Ev):Bool:=decide (e.kind=11\/e.kind=12\/e.kind=13)
def peB (e:Ev):Bool := !thB e && !decide (e.kind=14)
def Qu (z:List Ev):List Ev:=z.filter thB
def Qfi (z:List Ev):List Ev:=z.filter peB
theorem Qeu (width:Int) (z:List Ev):(Ql width z).cs=Qu z/\evs (Ql width z).rs=Qfi z:=by
 induction z using Xf with
 | h0=>exact⟨rfl,rfl⟩
 | h1 l a ih =>
   rw[Qc7];unfold Qu Qfi at *;rw[List.filter_append,List.filter_append,<- ih.1,<- ih.2];unfold Qd7
   by_cases h1:a.kind=11\/a.kind=12\/a.kind=13
   . rw[if_pos h1]
     simp[thB,peB,h1]
   . rw[if_neg h1]
     by_cases h2:a.kind=14
     . rw[if_pos h2]
       simp[thB,peB,h1,h2]
     . rw[if_neg h2]
       split <;> simp[thB,peB,h1,h2,evs]
structure WV (w:World) (base p:Nat) (c:Cfg) (z:List Ev):Prop where
 at_:Qmv w base p c (ofW c.width z)
 may:∀ x∈z,Xp x=true
 rise:Rise z
 len:z.length<1000000
theorem Q4q (c:Cfg) (hcf:Qij c=true) (l:List Ev) (A:Option Addr) (cap:Nat) (w:World) (hg0:Gl w) (hs:SlE w A l) (hl:l.length<1000000) (hm:∀ e∈l,Xp e=true) :
 Cal Tryz.prog 13 [Qy6 c,.slice A l.length cap] w fun r w'=>∃ p,r = .tuple #[.pointer (some ⟨p,0,none⟩),.int .i64 0]/\WV w' w.heap.size p c (Qd5 l)/\Ext w w' :=
 (Q87 c hcf l A cap w hg0 hs hl hm).mono fun r w' ⟨p,h1,h2,h3⟩=>⟨p,h1,⟨h2,fun x hx=>hm x (Qhq hx),Qi1 hm,Nat.lt_of_le_of_lt (Qhp l) hl⟩,h3⟩
end Go.Proofs.YteabekcdcphjpaaGreatDoor
