/- Several texts in one: Bu1. -/
import Derived.Test.YteabekcdcphjpaaGreatDoorGE
set_option linter.unusedVariables false
set_option linter.unusedSimpArgs false
namespace Go.Proofs.YteabekcdcphjpaaGreatDoor
open Go.Se Go.RowKit
def thB (e:Ev) : Bool := decide (e.kind = 11 ∨ e.kind = 12 ∨ e.kind = 13)
def peB (e:Ev) : Bool := !thB e && !decide (e.kind = 14)
def Xd (z:List Ev) : List Ev := z.filter thB
def Qf1 (z:List Ev) : List Ev := z.filter peB
theorem Qdr (width:Int) (z:List Ev) : (Qe width z).cs = Xd z ∧ evs (Qe width z).rs = Qf1 z := by
 induction z using Qy with
 | h0 => exact ⟨rfl,rfl⟩
 | h1 l a ih =>
   rw [Qce]
   unfold Xd Qf1 at *
   rw [List.filter_append,List.filter_append,← ih.1,← ih.2]
   unfold Qc6
   by_cases h1 : a.kind = 11 ∨ a.kind = 12 ∨ a.kind = 13
   · rw [if_pos h1]
     simp [thB,peB,h1]
   · rw [if_neg h1]
     by_cases h2 : a.kind = 14
     · rw [if_pos h2]
       simp [thB,peB,h1,h2]
     · rw [if_neg h2]
       split <;> simp [thB,peB,h1,h2,evs]
structure WV (w:World) (base p:Nat) (c:Cfg) (z:List Ev) : Prop where
 at_ : Qk8 w base p c (ofW c.width z)
 may : ∀ x ∈ z,Xj x = true
 rise : Rise z
 len : z.length < 1000000
theorem Q2q (c:Cfg) (hcf:Qjv c = true) (l:List Ev) (A:Option Addr) (cap:Nat) (w:World) (hg0:Gl w) (hs:SlE w A l) (hl:l.length < 1000000) (hm:∀ e ∈ l,Xj e = true) :
 Cal Tryz.prog 13 [Q02 c,.slice A l.length cap] w fun r w' => ∃ p,r = .tuple #[.pointer (some ⟨p,0,none⟩),.int .i64 0] ∧ WV w' w.heap.size p c (Xn l) ∧ Ext w w' :=
 (Q60 c hcf l A cap w hg0 hs hl hm).mono fun r w' ⟨p,h1,h2,h3⟩ => ⟨p,h1,⟨h2,fun x hx => hm x (Qo5 hx),Qht hm,Nat.lt_of_le_of_lt (Qkm l) hl⟩,h3⟩
end Go.Proofs.YteabekcdcphjpaaGreatDoor
