/- Several texts in one: Bu1. -/
import Derived.Test.YtohkipkjleldpaaGreatDoorGE
set_option linter.unusedVariables false
set_option linter.unusedSimpArgs false
namespace Go.Proofs.YtohkipkjleldpaaGreatDoor
open Go.Se Go.RowKit
def thB (e:Ev):Bool:=decide (e.kind=11∨e.kind=12∨e.kind=13)
def peB (e:Ev):Bool := !thB e && !decide (e.kind=14)
def Xa (z:List Ev):List Ev:=z.filter thB
def Qb4 (z:List Ev):List Ev:=z.filter peB
theorem Qdt (width:Int) (z:List Ev):(Ql width z).cs=Xa z∧evs (Ql width z).rs=Qb4 z:=by
 induction z using Qu with
 | h0=>exact⟨rfl,rfl⟩
 | h1 l a ih =>
   rw[Qbh];unfold Xa Qb4 at *;rw[List.filter_append,List.filter_append,← ih.1,← ih.2];unfold Qcx
   by_cases h1:a.kind=11∨a.kind=12∨a.kind=13
   · rw[if_pos h1]
     simp[thB,peB,h1]
   · rw[if_neg h1]
     by_cases h2:a.kind=14
     · rw[if_pos h2]
       simp[thB,peB,h1,h2]
     · rw[if_neg h2]
       split <;> simp[thB,peB,h1,h2,evs]
def Qkh (z:List Ev) (person:ByteArray):List Ev:=hist (Qb4 z) person
structure WV (w:World) (base p:Nat) (c:Cfg) (z:List Ev):Prop where
 at_:Qeg w base p c (ofW c.width z)
 may:∀ x∈z,Xn x=true
 rise:Rise z
 len:z.length<1000000
theorem WV.ext {w w1:World} {base p:Nat} {c:Cfg} {z:List Ev} (h:WV w base p c z) (hx:Ext w w1):WV w1 base p c z:=⟨h.at_.ext hx,h.may,h.rise,h.len⟩
theorem WV.rows {w:World} {base p:Nat} {c:Cfg} {z:List Ev} (h:WV w base p c z) {name:ByteArray}:(Qw (Xa z) name).length<1000000000000:=by
 have h1:=(Qbu (Xa z) (fun e he=>h.may e ((List.mem_filter.1 he).1)) name).1;have h2:=List.length_filter_le thB z;have h3:=h.len;unfold Xa at *;omega
theorem WV.people {w:World} {base p:Nat} {c:Cfg} {z:List Ev} (h:WV w base p c z):(Qb4 z).length<1000000:=by
 have h2:=List.length_filter_le peB z;have h3:=h.len;unfold Qb4;omega
theorem Q4b (c:Cfg) (hcf:Qt3 c=true) (l:List Ev) (A:Option Addr) (cap:Nat) (w:World) (hg0:Gl w) (hs:SlE w A l) (hl:l.length<1000000) (hm:∀ e∈l,Xn e=true) :
 Cal Tryz.prog 9 [Xb4 c,.slice A l.length cap] w fun r w'=>∃ p,r = .tuple #[.pointer (some ⟨p,0,none⟩),.int .i64 0]∧WV w' w.heap.size p c (Qbg l)∧Ext w w' :=
 (Q82 c hcf l A cap w hg0 hs hl hm).mono fun r w' ⟨p,h1,h2,h3⟩=>⟨p,h1,⟨h2,fun x hx=>hm x (Qko hx),Qhu hm,Nat.lt_of_le_of_lt (Qkn l) hl⟩,h3⟩
theorem Qxi (z:List Ev) (person:ByteArray):(Qkh z person).length≤z.length:=by
 unfold Qkh hist Qb4;have h1:=List.length_filter_le (fun e:Ev=>decide (e.person=person)) (z.filter peB);have h2:=List.length_filter_le peB z;omega
end Go.Proofs.YtohkipkjleldpaaGreatDoor
