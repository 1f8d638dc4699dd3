/- Several texts in one: Bu1. -/
import Derived.Test.YtdahooejkjcjiaaGreatDoorGE
set_option linter.unusedVariables false
set_option linter.unusedSimpArgs false
namespace Go.Proofs.YtdahooejkjcjiaaGreatDoor
open Go.Se Go.RowKit
def thB (e:Ev) : Bool := decide (e.kind = 11 ∨ e.kind = 12 ∨ e.kind = 13)
def peB (e:Ev) : Bool := !thB e && !decide (e.kind = 14)
def Q8 (z:List Ev) : List Ev := z.filter thB
def Qca (z:List Ev) : List Ev := z.filter peB
theorem Qcq (width:Int) (z:List Ev) : (Ql width z).cs = Q8 z ∧ evs (Ql width z).rs = Qca z := by
 induction z using Q7 with
 | h0 => exact ⟨rfl,rfl⟩
 | h1 l a ih =>
   rw [Qa1]
   unfold Q8 Qca at *
   rw [List.filter_append,List.filter_append,← ih.1,← ih.2]
   unfold Qc2
   by_cases h1 : a.kind = 11 ∨ a.kind = 12 ∨ a.kind = 13
   · rw [if_pos h1]
     simp [thB,peB,h1]
   · rw [if_neg h1]
     by_cases h2 : a.kind = 14
     · rw [if_pos h2]
       simp [thB,peB,h1,h2]
     · rw [if_neg h2]
       split <;> simp [thB,peB,h1,h2,evs]
def Qxj (z:List Ev) (person:ByteArray) : List Ev := hist (Qca z) person
structure WV (w:World) (base p:Nat) (c:Cfg) (z:List Ev) : Prop where
 at_ : Qdt w base p c (ofW c.width z)
 may : ∀ x ∈ z,Xa x = true
 rise : Rise z
 len : z.length < 1000000
theorem WV.ext {w w1:World} {base p:Nat} {c:Cfg} {z:List Ev} (h:WV w base p c z) (hx:Ext w w1) : WV w1 base p c z := ⟨h.at_.ext hx,h.may,h.rise,h.len⟩
theorem WV.rows {w:World} {base p:Nat} {c:Cfg} {z:List Ev} (h:WV w base p c z) {name:ByteArray} : (Qy (Q8 z) name).length < 1000000000000 := by
 have h1 := (Qa7 (Q8 z) (fun e he => h.may e ((List.mem_filter.1 he).1)) name).1
 have h2 := List.length_filter_le thB z
 have h3 := h.len
 unfold Q8 at *
 omega
theorem WV.people {w:World} {base p:Nat} {c:Cfg} {z:List Ev} (h:WV w base p c z) : (Qca z).length < 1000000 := by
 have h2 := List.length_filter_le peB z
 have h3 := h.len
 unfold Qca
 omega
theorem Qas (c:Cfg) (hcf:Qj2 c = true) (l:List Ev) (A:Option Addr) (cap:Nat) (w:World) (hg0:Gl w) (hs:SlE w A l) (hl:l.length < 1000000) (hm:∀ e ∈ l,Xa e = true) :
 Cal Tryz.prog 23 [Q20 c,.slice A l.length cap] w fun r w' => ∃ p,r = .tuple #[.pointer (some ⟨p,0,none⟩),.int .i64 0] ∧ WV w' w.heap.size p c (X0 l) ∧ Ext w w' :=
 (Q4r c hcf l A cap w hg0 hs hl hm).mono fun r w' ⟨p,h1,h2,h3⟩ => ⟨p,h1,⟨h2,fun x hx => hm x (Qcw hx),Qc0 hm,Nat.lt_of_le_of_lt (Qht l) hl⟩,h3⟩
end Go.Proofs.YtdahooejkjcjiaaGreatDoor
