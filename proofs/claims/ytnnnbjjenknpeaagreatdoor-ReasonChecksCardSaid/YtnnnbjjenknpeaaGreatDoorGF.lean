/- Several texts in one: Bu1. -/
import Derived.Test.YtnnnbjjenknpeaaGreatDoorGE
set_option linter.unusedVariables false
set_option linter.unusedSimpArgs false
namespace Go.Proofs.YtnnnbjjenknpeaaGreatDoor
open Go.Se Go.RowKit
def thB (e:Ev) : Bool := decide (e.kind = 11 ∨ e.kind = 12 ∨ e.kind = 13)
def peB (e:Ev) : Bool := !thB e && !decide (e.kind = 14)
def Ql (z:List Ev) : List Ev := z.filter thB
def Q7 (z:List Ev) : List Ev := z.filter peB
theorem Qa5 (width:Int) (z:List Ev) : (Qn width z).cs = Ql z ∧ evs (Qn width z).rs = Q7 z := by
 induction z using Qu with
 | h0 => exact ⟨rfl,rfl⟩
 | h1 l a ih =>
   rw [Qbx]
   unfold Ql Q7 at *
   rw [List.filter_append,List.filter_append,← ih.1,← ih.2]
   unfold Qcz
   by_cases h1 : a.kind = 11 ∨ a.kind = 12 ∨ a.kind = 13
   · rw [if_pos h1]
     simp [thB,peB,h1]
   · rw [if_neg h1]
     by_cases h2 : a.kind = 14
     · rw [if_pos h2]
       simp [thB,peB,h1,h2]
     · rw [if_neg h2]
       split <;> simp [thB,peB,h1,h2,evs]
def Qcb (z:List Ev) (person:ByteArray) : List Ev := hist (Q7 z) person
structure WV (w:World) (base p:Nat) (c:Cfg) (z:List Ev) : Prop where
 at_ : Qev w base p c (ofW c.width z)
 may : ∀ x ∈ z,Xp x = true
 rise : Rise z
 len : z.length < 1000000
theorem WV.ext {w w1:World} {base p:Nat} {c:Cfg} {z:List Ev} (h:WV w base p c z) (hx:Ext w w1) : WV w1 base p c z := ⟨h.at_.ext hx,h.may,h.rise,h.len⟩
theorem WV.rows {w:World} {base p:Nat} {c:Cfg} {z:List Ev} (h:WV w base p c z) {name:ByteArray} : (Qx (Ql z) name).length < 1000000000000 := by
 have h1 := (Xl (Ql z) (fun e he => h.may e ((List.mem_filter.1 he).1)) name).1
 have h2 := List.length_filter_le thB z
 have h3 := h.len
 unfold Ql at *
 omega
theorem WV.people {w:World} {base p:Nat} {c:Cfg} {z:List Ev} (h:WV w base p c z) : (Q7 z).length < 1000000 := by
 have h2 := List.length_filter_le peB z
 have h3 := h.len
 unfold Q7
 omega
theorem Qle (c:Cfg) (hcf:Qsf c = true) (l:List Ev) (A:Option Addr) (cap:Nat) (w:World) (hg0:Gl w) (hs:SlE w A l) (hl:l.length < 1000000) (hm:∀ e ∈ l,Xp e = true) :
 Cal Tryz.prog 24 [Q5r c,.slice A l.length cap] w fun r w' => ∃ p,r = .tuple #[.pointer (some ⟨p,0,none⟩),.int .i64 0] ∧ WV w' w.heap.size p c (Qbn l) ∧ Ext w w' :=
 (Q4r c hcf l A cap w hg0 hs hl hm).mono fun r w' ⟨p,h1,h2,h3⟩ => ⟨p,h1,⟨h2,fun x hx => hm x (Qjy hx),Qkj hm,Nat.lt_of_le_of_lt (Qf6 l) hl⟩,h3⟩
theorem Qok (z:List Ev) (person:ByteArray) : (Qcb z person).length ≤ z.length := by
 unfold Qcb hist Q7
 have h1 := List.length_filter_le (fun e:Ev => decide (e.person = person)) (z.filter peB)
 have h2 := List.length_filter_le peB z
 omega
end Go.Proofs.YtnnnbjjenknpeaaGreatDoor
