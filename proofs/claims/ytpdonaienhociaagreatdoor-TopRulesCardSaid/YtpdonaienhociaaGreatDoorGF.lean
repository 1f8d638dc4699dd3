import Derived.Test.YtpdonaienhociaaGreatDoorGE
set_option linter.all false
namespace Go.Proofs.YtpdonaienhociaaGreatDoor
open Go.Se Go.RowKit
def thB (e:Ev):Bool:=decide (e.kind=11\/e.kind=12\/e.kind=13)
def peB (e:Ev):Bool := !thB e && !decide (e.kind=14)
def Ql (z:List Ev):List Ev:=z.filter thB
def Qao (z:List Ev):List Ev:=z.filter peB
theorem Qbz (width:Int) (z:List Ev):(Qi width z).cs=Ql z/\evs (Qi width z).rs=Qao z:=by
 induction z using Qv with
 | h0=>exact⟨rfl,rfl⟩
 | h1 l a ih =>
   rw[Qcz];unfold Ql Qao at *;rw[Zq,Zq,<- ih.1,<- ih.2];unfold Qdw
   by_cases h1:a.kind=11\/a.kind=12\/a.kind=13
   . rw[if_pos h1];simp[thB,peB,h1]
   . rw[if_neg h1]
     by_cases h2:a.kind=14
     . rw[if_pos h2];simp[thB,peB,h1,h2]
     . rw[if_neg h2];split <;> simp[thB,peB,h1,h2,evs]
def Qbr (z:List Ev) (name:Bj) (t:Int):It:=(Xw (Ql z) name t).1
def Qlj (z:List Ev) (name:Bj) (t:Int):Bool:=(Xw (Ql z) name t).2
def Qej (z:List Ev) (person:Bj):List Ev:=hist (Qao z) person
structure WV (w:World) (base p:Nat) (c:Cfg) (z:List Ev):Prop where
 at_:Qm9 w base p c (ofW c.width z)
 may:∀ x∈z,X0 x=true
 rise:Rise z
 len:z.length<1000000
theorem Qvk (c:Cfg) (hcf:Qw6 c=true) (l:List Ev) (A:Option Addr) (cap:Nat) (w:World) (hg0:Gl w) (hs:SlE w A l) (hl:l.length<1000000) (hm:∀ e∈l,X0 e=true) :
 Cal Tryz.prog 8 [Xec c,.slice A l.length cap] w fun r w'=>∃ p,r = .tuple #[Pj p,Vj 0]/\WV w' w.heap.size p c (Qma l)/\Ext w w' :=
 (Xd6 c hcf l A cap w hg0 hs hl hm).mono fun r w' ⟨p,h1,h2,h3⟩=>⟨p,h1,⟨h2,fun x hx=>hm x (Q0a hx),Qt6 hm,Zb0 (Qmj l) hl⟩,h3⟩
theorem Qmq (z:List Ev) (person:Bj):(Qej z person).length<=z.length:=by
 unfold Qej hist Qao;have h1:=Zc (fun e:Ev=>decide (e.person=person)) (z.filter peB);have h2:=Zc peB z;omega
