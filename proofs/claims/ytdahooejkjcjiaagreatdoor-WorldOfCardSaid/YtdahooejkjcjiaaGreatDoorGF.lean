/- Several texts in one: Bu1. -/
import Derived.Test.YtdahooejkjcjiaaGreatDoorGE
set_option linter.unusedVariables false
set_option linter.unusedSimpArgs false
namespace Go.Proofs.YtdahooejkjcjiaaGreatDoor
open Go.Se Go.RowKit
def thB (e:Ev):Bool:=decide (e.kind=11∨e.kind=12∨e.kind=13)
def peB (e:Ev):Bool := !thB e && !decide (e.kind=14)
def Qs (z:List Ev):List Ev:=z.filter thB
def Qeb (z:List Ev):List Ev:=z.filter peB
theorem Qex (width:Int) (z:List Ev):(Qo width z).cs=Qs z∧evs (Qo width z).rs=Qeb z:=by
 induction z using Xf with
 | h0=>exact⟨rfl,rfl⟩
 | h1 l a ih =>
   rw[Qbn];unfold Qs Qeb at *;rw[List.filter_append,List.filter_append,← ih.1,← ih.2];unfold Qdy
   by_cases h1:a.kind=11∨a.kind=12∨a.kind=13
   · rw[if_pos h1]
     simp[thB,peB,h1]
   · rw[if_neg h1]
     by_cases h2:a.kind=14
     · rw[if_pos h2]
       simp[thB,peB,h1,h2]
     · rw[if_neg h2]
       split <;> simp[thB,peB,h1,h2,evs]
structure WV (w:World) (base p:Nat) (c:Cfg) (z:List Ev):Prop where
 at_:Qet w base p c (ofW c.width z)
 may:∀ x∈z,Xn x=true
 rise:Rise z
 len:z.length<1000000
theorem WV.ext {w w1:World} {base p:Nat} {c:Cfg} {z:List Ev} (h:WV w base p c z) (hx:Ext w w1):WV w1 base p c z:=⟨h.at_.ext hx,h.may,h.rise,h.len⟩
theorem WV.rows {w:World} {base p:Nat} {c:Cfg} {z:List Ev} (h:WV w base p c z) {name:ByteArray}:(Xh (Qs z) name).length<1000000000000:=by
 have h1:=(Qbu (Qs z) (fun e he=>h.may e ((List.mem_filter.1 he).1)) name).1;have h2:=List.length_filter_le thB z;have h3:=h.len;unfold Qs at *;omega
theorem WV.people {w:World} {base p:Nat} {c:Cfg} {z:List Ev} (h:WV w base p c z):(Qeb z).length<1000000:=by
 have h2:=List.length_filter_le peB z;have h3:=h.len;unfold Qeb;omega
theorem Q4e (c:Cfg) (hcf:Qii c=true) (l:List Ev) (A:Option Addr) (cap:Nat) (w:World) (hg0:Gl w) (hs:SlE w A l) (hl:l.length<1000000) (hm:∀ e∈l,Xn e=true) :
 Cal Tryz.prog 23 [Qsx c,.slice A l.length cap] w fun r w'=>∃ p,r = .tuple #[.pointer (some ⟨p,0,none⟩),.int .i64 0]∧WV w' w.heap.size p c (Qf8 l)∧Ext w w' :=
 (Q8x c hcf l A cap w hg0 hs hl hm).mono fun r w' ⟨p,h1,h2,h3⟩=>⟨p,h1,⟨h2,fun x hx=>hm x (Qyv hx),Qso hm,Nat.lt_of_le_of_lt (Qqd l) hl⟩,h3⟩
end Go.Proofs.YtdahooejkjcjiaaGreatDoor
