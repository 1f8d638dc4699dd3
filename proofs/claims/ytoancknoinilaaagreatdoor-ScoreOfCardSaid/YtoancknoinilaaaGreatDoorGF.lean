/- Several texts in one: Bu1. -/
import Derived.Test.YtoancknoinilaaaGreatDoorGE
set_option linter.unusedVariables false
set_option linter.unusedSimpArgs false
namespace Go.Proofs.YtoancknoinilaaaGreatDoor
open Go.Se Go.RowKit
def thB (e:Ev) : Bool := decide (e.kind = 11 ∨ e.kind = 12 ∨ e.kind = 13)
def peB (e:Ev) : Bool := !thB e && !decide (e.kind = 14)
def Qz (z:List Ev) : List Ev := z.filter thB
def Qav (z:List Ev) : List Ev := z.filter peB
theorem Qdk (width:Int) (z:List Ev) : (Qq width z).cs = Qz z ∧ evs (Qq width z).rs = Qav z := by
 induction z using Qy with
 | h0 => exact ⟨rfl,rfl⟩
 | h1 l a ih =>
   rw [Qb5]
   unfold Qz Qav at *
   rw [List.filter_append,List.filter_append,← ih.1,← ih.2]
   unfold Qcy
   by_cases h1 : a.kind = 11 ∨ a.kind = 12 ∨ a.kind = 13
   · rw [if_pos h1]
     simp [thB,peB,h1]
   · rw [if_neg h1]
     by_cases h2 : a.kind = 14
     · rw [if_pos h2]
       simp [thB,peB,h1,h2]
     · rw [if_neg h2]
       split <;> simp [thB,peB,h1,h2,evs]
def Qgz (z:List Ev) (person:ByteArray) : List Ev := hist (Qav z) person
structure WV (w:World) (base p:Nat) (c:Cfg) (z:List Ev) : Prop where
 at_ : Qex w base p c (ofW c.width z)
 may : ∀ x ∈ z,Xp x = true
 rise : Rise z
 len : z.length < 1000000
theorem WV.ext {w w1:World} {base p:Nat} {c:Cfg} {z:List Ev} (h:WV w base p c z) (hx:Ext w w1) : WV w1 base p c z := ⟨h.at_.ext hx,h.may,h.rise,h.len⟩
theorem WV.rows {w:World} {base p:Nat} {c:Cfg} {z:List Ev} (h:WV w base p c z) {name:ByteArray} : (Xf (Qz z) name).length < 1000000000000 := by
 have h1 := (Qbn (Qz z) (fun e he => h.may e ((List.mem_filter.1 he).1)) name).1
 have h2 := List.length_filter_le thB z
 have h3 := h.len
 unfold Qz at *
 omega
theorem WV.people {w:World} {base p:Nat} {c:Cfg} {z:List Ev} (h:WV w base p c z) : (Qav z).length < 1000000 := by
 have h2 := List.length_filter_le peB z
 have h3 := h.len
 unfold Qav
 omega
theorem Qra (c:Cfg) (hcf:Qpu c = true) (l:List Ev) (A:Option Addr) (cap:Nat) (w:World) (hg0:Gl w) (hs:SlE w A l) (hl:l.length < 1000000) (hm:∀ e ∈ l,Xp e = true) :
 Cal Tryz.prog 17 [Qwd c,.slice A l.length cap] w fun r w' => ∃ p,r = .tuple #[.pointer (some ⟨p,0,none⟩),.int .i64 0] ∧ WV w' w.heap.size p c (Qg0 l) ∧ Ext w w' :=
 (Q31 c hcf l A cap w hg0 hs hl hm).mono fun r w' ⟨p,h1,h2,h3⟩ => ⟨p,h1,⟨h2,fun x hx => hm x (Qwb hx),Qrh hm,Nat.lt_of_le_of_lt (Qnu l) hl⟩,h3⟩
end Go.Proofs.YtoancknoinilaaaGreatDoor
