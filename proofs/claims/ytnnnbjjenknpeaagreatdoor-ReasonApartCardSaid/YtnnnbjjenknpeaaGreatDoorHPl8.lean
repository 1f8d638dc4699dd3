import Derived.Test.YtnnnbjjenknpeaaGreatDoorGN
import Derived.Test.YtnnnbjjenknpeaaGreatDoorGJ
/- What the score's reference adds up,in plain words. -/
set_option linter.unusedVariables false
set_option linter.unusedSimpArgs false
namespace Go.Proofs.YtnnnbjjenknpeaaGreatDoor
open Go.Se Go.RowKit
abbrev S9 := ByteArray × Int × Int
def q9 (key:ByteArray) (lo hi:Int) (x:S9) : Bool := decide (x.1 = key) && (decide (lo ≤ x.2.1) && decide (x.2.1 < hi))
theorem Qxv {half now:Int} {R:List Row} (hm:∀ r ∈ R,Xm r.1 = true) (t:ByteArray) : 0 ≤ Qx9 half now R t ∧ Qx9 half now R t ≤ R.length * 5242880 := by
 have hb := Qbz (fun r:Row => Qo3 half now r.1) 5242880 (R.filter fun r => decide (t ∈ r.2)) fun r hr => by
  have h1 := Qgc (hm r (List.mem_filter.1 hr).1)
  have h2 := Qd1 (now - r.1.at_) half
  unfold Qo3
  refine ⟨Int.mul_nonneg h1.1 h2.1,?_⟩
  have : Qu r.1 * X9 (now - r.1.at_) half ≤ 5 * 1048576 := Int.mul_le_mul h1.2 h2.2 h2.1 (by omega)
  omega
 have hl := List.length_filter_le (fun r:Row => decide (t ∈ r.2)) R
 unfold Qx9
 omega
def TgR (w:World) (A:Option Addr) (k:Nat) : Prop := k < w.heap.size ∧ ¬ rowB A k
theorem Qd8.keepR {w w1:World} {A A1:Option Addr} {D:List (Ev × SV)} {rs:List Row} (h:Qd8 w (TgR w A) D rs) (hk:∀ k,k < w.heap.size → ¬ rowB A k → w1.heap[k]? = w.heap[k]? ∧ ¬ rowB A1 k) (hs:w.heap.size ≤ w1.heap.size) : Qd8 w1 (TgR w1 A1) D rs :=
 ⟨h.len,fun i d r hd hr => by
  obtain ⟨h1,h2,h3,h4⟩ := h.ev i d r hd hr
  refine ⟨h1,h2,Qbx h3 fun a ha => ?_,fun a ha => ?_⟩
  · obtain ⟨q1,q2⟩ := h4 a ha
    exact (hk _ q1 q2).1
  · obtain ⟨q1,q2⟩ := h4 a ha
    exact ⟨by omega,(hk _ q1 q2).2⟩⟩
theorem Qwl {w w1:World} {A A1:Option Addr} (hg:w.grownBy w1 (A.map (·.block))) (hA:A1 = A ∨ A1.map (·.block) = A.map (·.block) ∨ A1.map (·.block) = some w.heap.size) (k:Nat) (hk:k < w.heap.size) (hn:¬ rowB A k) : w1.heap[k]? = w.heap[k]? ∧ ¬ rowB A1 k := by
 refine ⟨hg.block k hk (fun e => ?_),?_⟩
 · cases A with
   | none => simp at e
   | some x => simp at e; exact hn ⟨x,rfl,e⟩
 · rintro ⟨y,hy,rfl⟩
   subst hy
   rcases hA with h | h | h
   · exact hn ⟨y,h.symm,rfl⟩
   · cases A with
     | none => simp at h
     | some x => simp at h; exact hn ⟨x,rfl,h⟩
   · simp at h; omega
theorem Qq4 (name:ByteArray) : ∀ es : List Ev,(∀ e ∈ es,Xm e = true) → (Ql0 name es).item.tags.size < 1000 := by
 refine Qq (fun _ => by show (⟨#[]⟩ : ByteArray).size < 1000; decide) fun es e ih h => ?_
 have ih := ih fun x hx => h x (by simp [hx])
 have he := Qdv (h e (by simp))
 rw [Qgb]
 unfold Qb4
 split
 · show (Qan e.text).size < 1000
   have := Qk9 e.text
   omega
 · split
   · exact ih
   · exact ih
theorem Qdt (name:ByteArray) (es:List Ev) (h:∀ e ∈ es,Xm e = true) : (Qo1 name es).tags.size < 1000 := by
 unfold Qo1
 split
 · show (⟨#[]⟩ : ByteArray).size < 1000
   decide
 · exact Qq4 name es h
theorem Qws {α:Type} {l:List α} {g:α} (h:l.getLast? = some g) : ∃ l0,l = l0 ++ [g] := by
 obtain ⟨ys,h⟩ := List.getLast?_eq_some_iff.1 h
 exact ⟨ys,h⟩
theorem Q05 {gap:Int} {acc:List Sn} {g:Sn} {a:Ad3} (h:g.person = a.1 ∧ a.2.1 - g.to_ ≤ gap) : Qai gap (acc ++ [g]) a = acc ++ [⟨a.1,g.from_,a.2.1,Qus bLt g.items a.2.2⟩] := by rw [Qe9,if_pos h]
theorem Q3g {gap:Int} {acc:List Sn} {a:Ad3} (h:∀ g,acc.getLast? = some g → ¬ (g.person = a.1 ∧ a.2.1 - g.to_ ≤ gap)) : Qai gap acc a = acc ++ [⟨a.1,a.2.1,a.2.1,[a.2.2]⟩] := by
 cases hl : acc.getLast? with
 | none =>
   unfold Qai
   rw [hl]
 | some g =>
   unfold Qai
   rw [hl]
   simp only
   rw [if_neg (h g hl)]
theorem Qhd (gap:Int) (L:List Ad3) (a:Ad3) : allL gap (L ++ [a]) = Qai gap (allL gap L) a := by unfold allL; rw [List.foldl_append]; rfl
def Q6p (x:Ad3) : Prop := (1 ≤ x.1.size ∧ x.1.size ≤ 24) ∧ (0 ≤ x.2.1 ∧ x.2.1 ≤ 1099511627776) ∧ (1 ≤ x.2.2.size ∧ x.2.2.size ≤ 24)
theorem Qvy (gap:Int) : ∀ L : List Ad3,(∀ x ∈ L,Q6p x) → (allL gap L).length ≤ L.length ∧ ∀ s ∈ allL gap L,(0 ≤ s.to_ ∧ s.to_ ≤ 1099511627776) ∧ s.items.length ≤ L.length := by
 refine Qq (fun _ => by simp [allL]) fun L x ih h => ?_
 obtain ⟨ih1,ih2⟩ := ih fun y hy => h y (by simp [hy])
 have hx := (h x (by simp)).2.1
 rw [Qhd,List.length_append,List.length_singleton]
 by_cases hj : ∃ g,(allL gap L).getLast? = some g ∧ g.person = x.1 ∧ x.2.1 - g.to_ ≤ gap
 · obtain ⟨g,hg,hj⟩ := hj
   obtain ⟨acc,hacc⟩ := Qws hg
   rw [hacc] at ih1 ih2 ⊢
   rw [Q05 hj]
   refine ⟨by simp at ih1 ⊢; omega,fun s hs => ?_⟩
   rcases List.mem_append.1 hs with hs | hs
   · have := ih2 s (by simp [hs])
     exact ⟨this.1,by omega⟩
   · rw [List.mem_singleton] at hs
     subst hs
     have h1 := (ih2 g (by simp)).2
     have h2 := Qjq (lt := bLt) x.2.2 g.items
     exact ⟨hx,by simp only; omega⟩
 · rw [Q3g fun g hg hh => hj ⟨g,hg,hh⟩]
   refine ⟨by simp; omega,fun s hs => ?_⟩
   rcases List.mem_append.1 hs with hs | hs
   · have := ih2 s hs
     exact ⟨this.1,by omega⟩
   · rw [List.mem_singleton] at hs
     subst hs
     exact ⟨hx,by simp⟩
end Go.Proofs.YtnnnbjjenknpeaaGreatDoor
