/- Several texts in one: Bu1. -/
import Derived.Test.YtagijlhciclafaaGreatDoorGE
set_option linter.unusedVariables false
set_option linter.unusedSimpArgs false
namespace Go.Proofs.YtagijlhciclafaaGreatDoor
open Go.Se Go.RowKit
def thB (e:Ev):Bool:=decide (e.kind=11∨e.kind=12∨e.kind=13)
def peB (e:Ev):Bool := !thB e && !decide (e.kind=14)
def Qn (z:List Ev):List Ev:=z.filter thB
def Qb1 (z:List Ev):List Ev:=z.filter peB
theorem Qar (width:Int) (z:List Ev):(Qe width z).cs=Qn z∧evs (Qe width z).rs=Qb1 z:=by
 induction z using Qy with
 | h0=>exact⟨rfl,rfl⟩
 | h1 l a ih =>
   rw[Qcm];unfold Qn Qb1 at *;rw[List.filter_append,List.filter_append,← ih.1,← ih.2];unfold Qcv
   by_cases h1:a.kind=11∨a.kind=12∨a.kind=13
   · rw[if_pos h1]
     simp[thB,peB,h1]
   · rw[if_neg h1]
     by_cases h2:a.kind=14
     · rw[if_pos h2]
       simp[thB,peB,h1,h2]
     · rw[if_neg h2]
       split <;> simp[thB,peB,h1,h2,evs]
def Qae (z:List Ev) (person:ByteArray):List Ev:=hist (Qb1 z) person
structure WV (w:World) (base p:Nat) (c:Cfg) (z:List Ev):Prop where
 at_:Qfi w base p c (ofW c.width z)
 may:∀ x∈z,X4 x=true
 rise:Rise z
 len:z.length<1000000
theorem WV.ext {w w1:World} {base p:Nat} {c:Cfg} {z:List Ev} (h:WV w base p c z) (hx:Ext w w1):WV w1 base p c z:=⟨h.at_.ext hx,h.may,h.rise,h.len⟩
theorem WV.rows {w:World} {base p:Nat} {c:Cfg} {z:List Ev} (h:WV w base p c z) {name:ByteArray}:(Q5 (Qn z) name).length<1000000000000:=by
 have h1:=(Qb4 (Qn z) (fun e he=>h.may e ((List.mem_filter.1 he).1)) name).1;have h2:=List.length_filter_le thB z;have h3:=h.len;unfold Qn at *;omega
theorem WV.people {w:World} {base p:Nat} {c:Cfg} {z:List Ev} (h:WV w base p c z):(Qb1 z).length<1000000:=by
 have h2:=List.length_filter_le peB z;have h3:=h.len;unfold Qb1;omega
theorem Q2l (c:Cfg) (hcf:Qrq c=true) (l:List Ev) (A:Option Addr) (cap:Nat) (w:World) (hg0:Gl w) (hs:SlE w A l) (hl:l.length<1000000) (hm:∀ e∈l,X4 e=true) :
 Cal Tryz.prog 29 [Qt4 c,.slice A l.length cap] w fun r w'=>∃ p,r = .tuple #[.pointer (some ⟨p,0,none⟩),.int .i64 0]∧WV w' w.heap.size p c (Qf5 l)∧Ext w w' :=
 (Q6w c hcf l A cap w hg0 hs hl hm).mono fun r w' ⟨p,h1,h2,h3⟩=>⟨p,h1,⟨h2,fun x hx=>hm x (Qwr hx),Qri hm,Nat.lt_of_le_of_lt (Qpb l) hl⟩,h3⟩
theorem Qim (z:List Ev) (person:ByteArray):(Qae z person).length≤z.length:=by
 unfold Qae hist Qb1;have h1:=List.length_filter_le (fun e:Ev=>decide (e.person=person)) (z.filter peB);have h2:=List.length_filter_le peB z;omega
end Go.Proofs.YtagijlhciclafaaGreatDoor
