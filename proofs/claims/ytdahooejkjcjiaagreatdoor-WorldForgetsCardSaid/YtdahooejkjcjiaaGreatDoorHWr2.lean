import Derived.Test.YtdahooejkjcjiaaGreatDoorGX
import Derived.Test.YtdahooejkjcjiaaGreatDoorGI
/- A world to which events were added,as the world of the events that are left. -/
set_option linter.unusedVariables false
set_option linter.unusedSimpArgs false
namespace Go.Proofs.YtdahooejkjcjiaaGreatDoor
open Go.Se Go.RowKit
theorem Qmm.q {w:World} {base p:Nat} {c:Cfg} {s:WS} (h:Qdt w base p c s) (hI:Qmm c s) (hl:s.es.length < 1000000) : ∃ T,WQ w T p c s.es (.pointer Option.none) ∧ ∀ k,T k → base ≤ k := by
 obtain ⟨col,q,A,cap,hL⟩ := h
 have hc := hL.cts
 rw [hI.ct] at hc
 have hp := hL.head.lt
 refine ⟨fun k => (if k < w.heap.size then col k else 0) ≠ 0,⟨⟨fun k => if k < w.heap.size then col k else 0,q,A,_,cap,_,_,hL.head,hc.keep fun k hk _ => ⟨rfl,if_pos hk⟩,by rw [if_pos hp]; exact hL.cols.1,fun k hk => hk,fun k hk => ?_,rfl,hL.evs.sl Q3,fun a ha => by rw [if_pos (hL.evs.block ha).2]; exact hL.cols.2.2.2 a ha⟩,hI.may,hI.rise,hl⟩,fun k hk => ?_⟩
 · by_cases h1 : k < w.heap.size
   · exact h1
   · exact absurd (if_neg h1) hk
 · by_cases h1 : k < w.heap.size
   · simp only [if_pos h1] at hk
     exact hL.low.2 k hk
   · exact absurd (if_neg h1) hk
theorem Qmm.t {w:World} {base p:Nat} {c:Cfg} {s:WS} (h:Qdt w base p c s) (hI:Qmm c s) (hl:s.es.length < 1000000) : ∃ T,WT w T p c s.es ∧ ∀ k,T k → base ≤ k := by
 obtain ⟨T,h1,h2⟩ := hI.q h hl
 exact ⟨T,⟨_,T,h1,fun _ hk => hk,h1.lt,.inl rfl⟩,h2⟩
theorem Q4z {c:Cfg} {l:List Ev} (hl:∀ x ∈ l,Xa x = true) : Qiv c (ofW c.width (X0 l)) (X0 l) ∧ (ofW c.width (X0 l)).es = X0 l :=
 ⟨Q7p (fun x hx => hl x (Qcw hx)) (Qc0 hl) (Qeu l),(Qq2 _ _).1⟩
end Go.Proofs.YtdahooejkjcjiaaGreatDoor
