/- Several texts in one: Bu1. -/
import Derived.Test.YtnnnbjjenknpeaaGreatDoorGE
set_option linter.unusedVariables false
set_option linter.unusedSimpArgs false
namespace Go.Proofs.YtnnnbjjenknpeaaGreatDoor
open Go.Se Go.RowKit
def thB (e:Ev) : Bool := decide (e.kind = 11 ∨ e.kind = 12 ∨ e.kind = 13)
def peB (e:Ev) : Bool := !thB e && !decide (e.kind = 14)
def Qi (z:List Ev) : List Ev := z.filter thB
def Xc (z:List Ev) : List Ev := z.filter peB
theorem Qbk (width:Int) (z:List Ev) : (Qn width z).cs = Qi z ∧ evs (Qn width z).rs = Xc z := by
 induction z using Qq with
 | h0 => exact ⟨rfl,rfl⟩
 | h1 l a ih =>
   rw [Qbu]
   unfold Qi Xc at *
   rw [List.filter_append,List.filter_append,← ih.1,← ih.2]
   unfold Qct
   by_cases h1 : a.kind = 11 ∨ a.kind = 12 ∨ a.kind = 13
   · rw [if_pos h1]
     simp [thB,peB,h1]
   · rw [if_neg h1]
     by_cases h2 : a.kind = 14
     · rw [if_pos h2]
       simp [thB,peB,h1,h2]
     · rw [if_neg h2]
       split <;> simp [thB,peB,h1,h2,evs]
def Qd3 (z:List Ev) (person:ByteArray) : List Ev := hist (Xc z) person
structure WV (w:World) (base p:Nat) (c:Cfg) (z:List Ev) : Prop where
 at_ : Qeo w base p c (ofW c.width z)
 may : ∀ x ∈ z,Xm x = true
 rise : Rise z
 len : z.length < 1000000
theorem WV.ext {w w1:World} {base p:Nat} {c:Cfg} {z:List Ev} (h:WV w base p c z) (hx:Ext w w1) : WV w1 base p c z := ⟨h.at_.ext hx,h.may,h.rise,h.len⟩
theorem WV.rows {w:World} {base p:Nat} {c:Cfg} {z:List Ev} (h:WV w base p c z) {name:ByteArray} : (Qz (Qi z) name).length < 1000000000000 := by
 have h1 := (Xn (Qi z) (fun e he => h.may e ((List.mem_filter.1 he).1)) name).1
 have h2 := List.length_filter_le thB z
 have h3 := h.len
 unfold Qi at *
 omega
theorem WV.people {w:World} {base p:Nat} {c:Cfg} {z:List Ev} (h:WV w base p c z) : (Xc z).length < 1000000 := by
 have h2 := List.length_filter_le peB z
 have h3 := h.len
 unfold Xc
 omega
theorem Qfi (c:Cfg) (hcf:Qrk c = true) (l:List Ev) (A:Option Addr) (cap:Nat) (w:World) (hg0:Gl w) (hs:SlE w A l) (hl:l.length < 1000000) (hm:∀ e ∈ l,Xm e = true) :
 Cal Tryz.prog 24 [Q4z c,.slice A l.length cap] w fun r w' => ∃ p,r = .tuple #[.pointer (some ⟨p,0,none⟩),.int .i64 0] ∧ WV w' w.heap.size p c (Xq l) ∧ Ext w w' :=
 (Q3u c hcf l A cap w hg0 hs hl hm).mono fun r w' ⟨p,h1,h2,h3⟩ => ⟨p,h1,⟨h2,fun x hx => hm x (Qce hx),Qj6 hm,Nat.lt_of_le_of_lt (Qjj l) hl⟩,h3⟩
theorem Qup (z:List Ev) (person:ByteArray) : (Qd3 z person).length ≤ z.length := by
 unfold Qd3 hist Xc
 have h1 := List.length_filter_le (fun e:Ev => decide (e.person = person)) (z.filter peB)
 have h2 := List.length_filter_le peB z
 omega
end Go.Proofs.YtnnnbjjenknpeaaGreatDoor
