import Derived.Test.YtohkipkjleldpaaGreatDoorGN
import Derived.Test.YtohkipkjleldpaaGreatDoorGJ
/- What the score's reference adds up,in plain words. -/
set_option linter.unusedVariables false
set_option linter.unusedSimpArgs false
namespace Go.Proofs.YtohkipkjleldpaaGreatDoor
open Go.Se Go.RowKit
def TgR (w:World) (A:Option Addr) (k:Nat):Prop:=k<w.heap.size∧¬ rowB A k
theorem Qg3.keepR {w w1:World} {A A1:Option Addr} {D:List (Ev×SV)} {rs:List Row} (h:Qg3 w (TgR w A) D rs) (hk:∀ k,k<w.heap.size→¬ rowB A k→w1.heap[k]? = w.heap[k]? ∧ ¬ rowB A1 k) (hs:w.heap.size≤w1.heap.size):Qg3 w1 (TgR w1 A1) D rs :=
 ⟨h.len,fun i d r hd hr=>by
  obtain⟨h1,h2,h3,h4⟩:=h.ev i d r hd hr;refine⟨h1,h2,Qcn h3 fun a ha => ?_,fun a ha => ?_⟩
  · obtain⟨q1,q2⟩:=h4 a ha
    exact(hk _ q1 q2).1
  · obtain⟨q1,q2⟩:=h4 a ha
    exact⟨by omega,(hk _ q1 q2).2⟩⟩
theorem Qht (gap:Int) (L:List Ad3) (a:Ad3):allL gap (L ++ [a])=Qa8 gap (allL gap L) a:=by unfold allL;rw[List.foldl_append];rfl
end Go.Proofs.YtohkipkjleldpaaGreatDoor
