/- Several texts in one: Bu1. -/
import Derived.Test.YtopncieoolkhjaaGreatDoorGE
set_option linter.unusedVariables false
set_option linter.unusedSimpArgs false
namespace Go.Proofs.YtopncieoolkhjaaGreatDoor
open Go.Se Go.RowKit
def thB (e:Ev) : Bool := decide (e.kind = 11 ∨ e.kind = 12 ∨ e.kind = 13)
def peB (e:Ev) : Bool := !thB e && !decide (e.kind = 14)
def Xc (z:List Ev) : List Ev := z.filter thB
def Qbf (z:List Ev) : List Ev := z.filter peB
theorem Qat (width:Int) (z:List Ev) : (Qq width z).cs = Xc z ∧ evs (Qq width z).rs = Qbf z := by
 induction z using Qy with
 | h0 => exact ⟨rfl,rfl⟩
 | h1 l a ih =>
   rw [Qas]
   unfold Xc Qbf at *
   rw [List.filter_append,List.filter_append,← ih.1,← ih.2]
   unfold Qch
   by_cases h1 : a.kind = 11 ∨ a.kind = 12 ∨ a.kind = 13
   · rw [if_pos h1]
     simp [thB,peB,h1]
   · rw [if_neg h1]
     by_cases h2 : a.kind = 14
     · rw [if_pos h2]
       simp [thB,peB,h1,h2]
     · rw [if_neg h2]
       split <;> simp [thB,peB,h1,h2,evs]
def Qen (z:List Ev) (person:ByteArray) : List Ev := hist (Qbf z) person
structure WV (w:World) (base p:Nat) (c:Cfg) (z:List Ev) : Prop where
 at_ : Qef w base p c (ofW c.width z)
 may : ∀ x ∈ z,Xo x = true
 rise : Rise z
 len : z.length < 1000000
theorem WV.ext {w w1:World} {base p:Nat} {c:Cfg} {z:List Ev} (h:WV w base p c z) (hx:Ext w w1) : WV w1 base p c z := ⟨h.at_.ext hx,h.may,h.rise,h.len⟩
theorem WV.rows {w:World} {base p:Nat} {c:Cfg} {z:List Ev} (h:WV w base p c z) {name:ByteArray} : (Q5 (Xc z) name).length < 1000000000000 := by
 have h1 := (Qaf (Xc z) (fun e he => h.may e ((List.mem_filter.1 he).1)) name).1
 have h2 := List.length_filter_le thB z
 have h3 := h.len
 unfold Xc at *
 omega
theorem WV.people {w:World} {base p:Nat} {c:Cfg} {z:List Ev} (h:WV w base p c z) : (Qbf z).length < 1000000 := by
 have h2 := List.length_filter_le peB z
 have h3 := h.len
 unfold Qbf
 omega
theorem Qkb (c:Cfg) (hcf:Qlb c = true) (l:List Ev) (A:Option Addr) (cap:Nat) (w:World) (hg0:Gl w) (hs:SlE w A l) (hl:l.length < 1000000) (hm:∀ e ∈ l,Xo e = true) :
 Cal Tryz.prog 10 [Q2b c,.slice A l.length cap] w fun r w' => ∃ p,r = .tuple #[.pointer (some ⟨p,0,none⟩),.int .i64 0] ∧ WV w' w.heap.size p c (Qbl l) ∧ Ext w w' :=
 (Q15 c hcf l A cap w hg0 hs hl hm).mono fun r w' ⟨p,h1,h2,h3⟩ => ⟨p,h1,⟨h2,fun x hx => hm x (Qgp hx),Qjm hm,Nat.lt_of_le_of_lt (Qiz l) hl⟩,h3⟩
theorem Qng (z:List Ev) (person:ByteArray) : (Qen z person).length ≤ z.length := by
 unfold Qen hist Qbf
 have h1 := List.length_filter_le (fun e:Ev => decide (e.person = person)) (z.filter peB)
 have h2 := List.length_filter_le peB z
 omega
end Go.Proofs.YtopncieoolkhjaaGreatDoor
