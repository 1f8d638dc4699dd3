/- Several texts in one: Se7, Se8, RsC, Rs2. -/
import Derived.Test.YtdahooejkjcjiaaGreatDoorGA
import Derived.Test.YtdahooejkjcjiaaGreatDoorGF
import Derived.Test.YtdahooejkjcjiaaGreatDoorGC
import Derived.Test.YtdahooejkjcjiaaGreatDoorGI
import Derived.Shelf.Slices.Cells
import Derived.Test.YtdahooejkjcjiaaGreatDoorGO
import Derived.Test.YtdahooejkjcjiaaGreatDoorGL
import Derived.Test.YtdahooejkjcjiaaGreatDoorHPl8
set_option linter.unusedVariables false
set_option linter.unusedSimpArgs false
namespace Go.Se
open Go.RowKit
section
variable {P:Program} {T:Tab} {N:Nat} {cl:Cl} {ops:List Oper}
end
section
variable {P:Program} {T:Tab} {N:Nat} {cl:Cl} {ops:List Oper}
end
end Go.Se
namespace Go.Proofs
open Go.Shelf
end Go.Proofs
namespace Go.Proofs.YtdahooejkjcjiaaGreatDoor
open Go.Se Go.RowKit
theorem Qsv (l:List Ev) (A:Option Addr) (c:Nat) (w:World) (hs:SlE w A l) (hl:l.length < 1000000) :
 Cal Tryz.prog 44 [.slice A l.length c] w fun r w' => ∃ A' c',r = .slice A' l.length c' ∧ Own evC 8 34 w.heap.size w' A' c' l ∧ (A' = none → l = []) ∧ Ext w w' := by
 refine Fi Tryz.func44 rfl _ rfl rfl ?_;conv=>whnf
 refine ⟨_,Qdx Qwr A _ _ _ _,?_⟩; (conv=>whnf);repeat(refine Sg ?_;(conv=>whnf))
 constructor
 · intro hq
   have hA : A = none := by simpa using hq
   have hl0 : l = [] := by
    cases l with
    | nil => rfl
    | cons x l =>
      obtain ⟨a,ha,_⟩ := hs 0 x rfl
      rw [hA] at ha; cases ha
   subst hl0
   (conv=>whnf);repeat(refine Sg ?_;(conv=>whnf))
   exact ⟨none,0,rfl,Own.nil,fun _ => rfl,Ext.refl _⟩
 · intro hq
   (conv=>whnf);repeat(refine Sg ?_;(conv=>whnf))
   intro b1 w1 hn1; (conv=>whnf);repeat(refine Sg ?_;(conv=>whnf))
   have o1 := Qat.made (base := w.heap.size) hn1 (Nat.le_refl _)
   refine Qu Qat (l := []) (news := l) rfl o1 rfl (hs.ext hn1.ext) (by simp; omega) hn1.ext.size fun A2 c2 w2 hown2 hg2 hA2 => ?_
   have hx2 := Qn hn1.ext hg2 (Xg o1)
   rw [List.nil_append] at hown2 ⊢
   (conv=>whnf);repeat(refine Sg ?_;(conv=>whnf))
   refine ⟨A2,c2,rfl,hown2,fun h => ?_,hx2⟩
   exfalso
   rcases hA2 with h2 | h2 | h2
   · rw [h] at h2; cases h2
   · rw [h] at h2; simp at h2
   · rw [h] at h2; simp at h2
theorem Qkz {w:World} {T:Nat → Prop} {p:Nat} {c:Cfg} {z:List Ev} (h:WT w T p c z) :
 Cal Tryz.prog 20 [.pointer (some ⟨p,0,none⟩)] w fun r w' => ∃ A c',r = .slice A z.length c' ∧ Own evC 8 34 w.heap.size w' A c' z ∧ (A = none → z = []) ∧ Ext w w' := by
 obtain ⟨v,T0,hQ,_⟩ := h
 have hzl := hQ.len
 obtain ⟨col,q,A,n,cap,any,last,hL⟩ := hQ.at_
 obtain ⟨hn,hsl,_⟩ := hL.evs
 subst hn
 refine Fi Tryz.func20 rfl _ rfl rfl ?_;conv=>whnf
 refine ⟨.slice A z.length cap,hL.head.one rfl,?_⟩; (conv=>whnf);repeat(refine Sg ?_;(conv=>whnf))
 refine (Qsv z A cap w hsl hzl).mono ?_
 rintro _ w1 ⟨A1,c1,rfl,h1,h2,h3⟩; (conv=>whnf);repeat(refine Sg ?_;(conv=>whnf))
 exact ⟨A1,c1,rfl,h1,h2,h3⟩
end Go.Proofs.YtdahooejkjcjiaaGreatDoor
