import Derived.Test.YtopncieoolkhjaaGreatDoorGN
import Derived.Test.YtopncieoolkhjaaGreatDoorGJ
/- What the score's reference adds up,in plain words. -/
set_option linter.unusedVariables false
set_option linter.unusedSimpArgs false
namespace Go.Proofs.YtopncieoolkhjaaGreatDoor
open Go.Se Go.RowKit
def TgR (w:World) (A:Option Addr) (k:Nat) : Prop := k < w.heap.size ∧ ¬ rowB A k
theorem Qd7.keepR {w w1:World} {A A1:Option Addr} {D:List (Ev × SV)} {rs:List Row} (h:Qd7 w (TgR w A) D rs) (hk:∀ k,k < w.heap.size → ¬ rowB A k → w1.heap[k]? = w.heap[k]? ∧ ¬ rowB A1 k) (hs:w.heap.size ≤ w1.heap.size) : Qd7 w1 (TgR w1 A1) D rs :=
 ⟨h.len,fun i d r hd hr => by
  obtain ⟨h1,h2,h3,h4⟩ := h.ev i d r hd hr
  refine ⟨h1,h2,Qbb h3 fun a ha => ?_,fun a ha => ?_⟩
  · obtain ⟨q1,q2⟩ := h4 a ha
    exact (hk _ q1 q2).1
  · obtain ⟨q1,q2⟩ := h4 a ha
    exact ⟨by omega,(hk _ q1 q2).2⟩⟩
theorem Qv2 {w w1:World} {A A1:Option Addr} (hg:w.grownBy w1 (A.map (·.block))) (hA:A1 = A ∨ A1.map (·.block) = A.map (·.block) ∨ A1.map (·.block) = some w.heap.size) (k:Nat) (hk:k < w.heap.size) (hn:¬ rowB A k) : w1.heap[k]? = w.heap[k]? ∧ ¬ rowB A1 k := by
 refine ⟨hg.block k hk (fun e => ?_),?_⟩
 · cases A with
   | none => simp at e
   | some x => simp at e; exact hn ⟨x,rfl,e⟩
 · rintro ⟨y,hy,rfl⟩
   subst hy
   rcases hA with h | h | h
   · exact hn ⟨y,h.symm,rfl⟩
   · cases A with
     | none => simp at h
     | some x => simp at h; exact hn ⟨x,rfl,h⟩
   · simp at h; omega
theorem Qqp (name:ByteArray) : ∀ es : List Ev,(∀ e ∈ es,Xy e = true) → (Qlv name es).item.tags.size < 1000 := by
 refine Qv (fun _ => by show (⟨#[]⟩ : ByteArray).size < 1000; decide) fun es e ih h => ?_
 have ih := ih fun x hx => h x (by simp [hx])
 have he := Qdt (h e (by simp))
 rw [Qf6]
 unfold Qbt
 split
 · show (Qaj e.text).size < 1000
   have := Qkz e.text
   omega
 · split
   · exact ih
   · exact ih
theorem Qdr (name:ByteArray) (es:List Ev) (h:∀ e ∈ es,Xy e = true) : (Qnl name es).tags.size < 1000 := by
 unfold Qnl
 split
 · show (⟨#[]⟩ : ByteArray).size < 1000
   decide
 · exact Qqp name es h
theorem Qf0 {α:Type} {l:List α} {g:α} (h:l.getLast? = some g) : ∃ l0,l = l0 ++ [g] := by
 obtain ⟨ys,h⟩ := List.getLast?_eq_some_iff.1 h
 exact ⟨ys,h⟩
theorem Qhv {gap:Int} {acc:List Sn} {g:Sn} {a:Ad3} (h:g.person = a.1 ∧ a.2.1 - g.to_ ≤ gap) : Xl gap (acc ++ [g]) a = acc ++ [⟨a.1,g.from_,a.2.1,Qq7 bLt g.items a.2.2⟩] := by rw [Qe4,if_pos h]
theorem Quu {gap:Int} {acc:List Sn} {a:Ad3} (h:∀ g,acc.getLast? = some g → ¬ (g.person = a.1 ∧ a.2.1 - g.to_ ≤ gap)) : Xl gap acc a = acc ++ [⟨a.1,a.2.1,a.2.1,[a.2.2]⟩] := by
 cases hl : acc.getLast? with
 | none =>
   unfold Xl
   rw [hl]
 | some g =>
   unfold Xl
   rw [hl]
   simp only
   rw [if_neg (h g hl)]
theorem Qe3 (gap:Int) (L:List Ad3) (a:Ad3) : allL gap (L ++ [a]) = Xl gap (allL gap L) a := by unfold allL; rw [List.foldl_append]; rfl
end Go.Proofs.YtopncieoolkhjaaGreatDoor
