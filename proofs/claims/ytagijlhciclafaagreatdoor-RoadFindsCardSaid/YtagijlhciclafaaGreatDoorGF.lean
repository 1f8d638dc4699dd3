/- Several texts in one: Bu1. -/
import Derived.Test.YtagijlhciclafaaGreatDoorGE
set_option linter.unusedVariables false
set_option linter.unusedSimpArgs false
namespace Go.Proofs.YtagijlhciclafaaGreatDoor
open Go.Se Go.RowKit
def thB (e:Ev):Bool:=decide (e.kind=11∨e.kind=12∨e.kind=13)
def peB (e:Ev):Bool := !thB e && !decide (e.kind=14)
def thingsE (z:List Ev):List Ev:=z.filter thB
def peopleE (z:List Ev):List Ev:=z.filter peB
theorem count_parts (width:Int) (z:List Ev):(countAll width z).cs=thingsE z∧evs (countAll width z).rs=peopleE z:=by
 induction z using snoc_ind with
 | h0=>exact⟨rfl,rfl⟩
 | h1 l a ih =>
   rw[countAll_snoc];unfold thingsE peopleE at *;rw[List.filter_append,List.filter_append,← ih.1,← ih.2];unfold countW
   by_cases h1:a.kind=11∨a.kind=12∨a.kind=13
   · rw[if_pos h1]
     simp[thB,peB,h1]
   · rw[if_neg h1]
     by_cases h2:a.kind=14
     · rw[if_pos h2]
       simp[thB,peB,h1,h2]
     · rw[if_neg h2]
       split <;> simp[thB,peB,h1,h2,evs]
def histE (z:List Ev) (person:ByteArray):List Ev:=hist (peopleE z) person
structure WV (w:World) (base p:Nat) (c:Cfg) (z:List Ev):Prop where
 at_:WorldAt w base p c (ofW c.width z)
 may:∀ x∈z,mayB x=true
 rise:Rise z
 len:z.length<1000000
theorem WV.ext {w w1:World} {base p:Nat} {c:Cfg} {z:List Ev} (h:WV w base p c z) (hx:Ext w w1):WV w1 base p c z:=⟨h.at_.ext hx,h.may,h.rise,h.len⟩
theorem WV.rows {w:World} {base p:Nat} {c:Cfg} {z:List Ev} (h:WV w base p c z) {name:ByteArray}:(catRows (thingsE z) name).length<1000000000000:=by
 have h1:=(catRows_bounds (thingsE z) (fun e he=>h.may e ((List.mem_filter.1 he).1)) name).1;have h2:=List.length_filter_le thB z;have h3:=h.len;unfold thingsE at *;omega
theorem WV.people {w:World} {base p:Nat} {c:Cfg} {z:List Ev} (h:WV w base p c z):(peopleE z).length<1000000:=by
 have h2:=List.length_filter_le peB z;have h3:=h.len;unfold peopleE;omega
theorem made_spec (c:Cfg) (hcf:cfgB c=true) (l:List Ev) (A:Option Addr) (cap:Nat) (w:World) (hg0:Gl w) (hs:SlE w A l) (hl:l.length<1000000) (hm:∀ e∈l,mayB e=true) :
 Cal Tryz.prog 29 [cfgV c,.slice A l.length cap] w fun r w'=>∃ p,r = .tuple #[.pointer (some ⟨p,0,none⟩),.int .i64 0]∧WV w' w.heap.size p c (anewL l)∧Ext w w' :=
 (wof_spec c hcf l A cap w hg0 hs hl hm).mono fun r w' ⟨p,h1,h2,h3⟩=>⟨p,h1,⟨h2,fun x hx=>hm x (anew_mem hx),anew_rise hm,Nat.lt_of_le_of_lt (anew_len l) hl⟩,h3⟩
theorem hist_len (z:List Ev) (person:ByteArray):(histE z person).length≤z.length:=by
 unfold histE hist peopleE;have h1:=List.length_filter_le (fun e:Ev=>decide (e.person=person)) (z.filter peB);have h2:=List.length_filter_le peB z;omega
end Go.Proofs.YtagijlhciclafaaGreatDoor
