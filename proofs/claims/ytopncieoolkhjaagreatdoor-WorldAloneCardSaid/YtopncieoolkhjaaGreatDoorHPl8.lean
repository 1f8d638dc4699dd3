import Derived.Test.YtopncieoolkhjaaGreatDoorGN
import Derived.Test.YtopncieoolkhjaaGreatDoorGJ
/- What the score's reference adds up,in plain words. -/
set_option linter.unusedVariables false
set_option linter.unusedSimpArgs false
namespace Go.Proofs.YtopncieoolkhjaaGreatDoor
open Go.Se Go.RowKit
abbrev S9 := ByteArray × Int × Int
def s9E (width:Int) (e:Ev) : S9 := (e.item,e.at_ / width,Qo e)
def q9 (key:ByteArray) (lo hi:Int) (x:S9) : Bool := decide (x.1 = key) && (decide (lo ≤ x.2.1) && decide (x.2.1 < hi))
def pa9 (L:List S9) (key:ByteArray) (lo hi:Int) : Int := ((L.filter (q9 key lo hi)).map fun x => x.2.2).sum
theorem Q1h (L:List S9) (x:S9) (key:ByteArray) (lo hi:Int) : pa9 (L ++ [x]) key lo hi = pa9 L key lo hi + if q9 key lo hi x = true then x.2.2 else 0 := by
 unfold pa9
 rw [List.filter_append,List.map_append,List.sum_append]
 cases h : q9 key lo hi x <;> simp [h]
theorem Q3k (width:Int) (l:List Ev) (key:ByteArray) (lo hi:Int) : pa9 (l.map (s9E (Xq width))) key lo hi = paE l width key lo hi := by
 unfold pa9 paE
 rw [List.filter_map,List.map_map]
 rfl
theorem Qy0 {L:List S9} (h:∀ x ∈ L,0 ≤ x.2.2 ∧ x.2.2 ≤ 1048576) (key:ByteArray) (lo hi:Int) : 0 ≤ pa9 L key lo hi ∧ pa9 L key lo hi ≤ L.length * 1048576 := by
 have hb := Qec (fun x:S9 => x.2.2) 1048576 (L.filter (q9 key lo hi)) fun x hx => h x (List.mem_filter.1 hx).1
 have hl := List.length_filter_le (q9 key lo hi) L
 unfold pa9
 omega
theorem Qhs {w w1:World} {A A1:Option Addr} (hg:w.grownBy w1 (A.map (·.block))) (hA:A1 = A ∨ A1.map (·.block) = A.map (·.block) ∨ A1.map (·.block) = some w.heap.size) (k:Nat) (hk:k < w.heap.size) (hn:¬ rowB A k) : w1.heap[k]? = w.heap[k]? ∧ ¬ rowB A1 k := by
 refine ⟨hg.block k hk (fun e => ?_),?_⟩
 · cases A with
   | none => simp at e
   | some x => simp at e; exact hn ⟨x,rfl,e⟩
 · rintro ⟨y,hy,rfl⟩
   subst hy
   rcases hA with h | h | h
   · exact hn ⟨y,h.symm,rfl⟩
   · cases A with
     | none => simp at h
     | some x => simp at h; exact hn ⟨x,rfl,h⟩
   · simp at h; omega
theorem Ql5 {α:Type} {l:List α} {g:α} (h:l.getLast? = some g) : ∃ l0,l = l0 ++ [g] := by
 obtain ⟨ys,h⟩ := List.getLast?_eq_some_iff.1 h
 exact ⟨ys,h⟩
theorem Qp2 {gap:Int} {acc:List Sn} {g:Sn} {a:Ad3} (h:g.person = a.1 ∧ a.2.1 - g.to_ ≤ gap) : X8 gap (acc ++ [g]) a = acc ++ [⟨a.1,g.from_,a.2.1,Qed bLt g.items a.2.2⟩] := by rw [Qe3,if_pos h]
theorem Qup {gap:Int} {acc:List Sn} {a:Ad3} (h:∀ g,acc.getLast? = some g → ¬ (g.person = a.1 ∧ a.2.1 - g.to_ ≤ gap)) : X8 gap acc a = acc ++ [⟨a.1,a.2.1,a.2.1,[a.2.2]⟩] := by
 cases hl : acc.getLast? with
 | none =>
   unfold X8
   rw [hl]
 | some g =>
   unfold X8
   rw [hl]
   simp only
   rw [if_neg (h g hl)]
theorem Qe2 (gap:Int) (L:List Ad3) (a:Ad3) : allL gap (L ++ [a]) = X8 gap (allL gap L) a := by unfold allL; rw [List.foldl_append]; rfl
def Q0i (x:Ad3) : Prop := (1 ≤ x.1.size ∧ x.1.size ≤ 24) ∧ (0 ≤ x.2.1 ∧ x.2.1 ≤ 1099511627776) ∧ (1 ≤ x.2.2.size ∧ x.2.2.size ≤ 24)
theorem Qlm (gap:Int) : ∀ L : List Ad3,(∀ x ∈ L,Q0i x) → (allL gap L).length ≤ L.length ∧ ∀ s ∈ allL gap L,(0 ≤ s.to_ ∧ s.to_ ≤ 1099511627776) ∧ s.items.length ≤ L.length := by
 refine Qy (fun _ => by simp [allL]) fun L x ih h => ?_
 obtain ⟨ih1,ih2⟩ := ih fun y hy => h y (by simp [hy])
 have hx := (h x (by simp)).2.1
 rw [Qe2,List.length_append,List.length_singleton]
 by_cases hj : ∃ g,(allL gap L).getLast? = some g ∧ g.person = x.1 ∧ x.2.1 - g.to_ ≤ gap
 · obtain ⟨g,hg,hj⟩ := hj
   obtain ⟨acc,hacc⟩ := Ql5 hg
   rw [hacc] at ih1 ih2 ⊢
   rw [Qp2 hj]
   refine ⟨by simp at ih1 ⊢; omega,fun s hs => ?_⟩
   rcases List.mem_append.1 hs with hs | hs
   · have := ih2 s (by simp [hs])
     exact ⟨this.1,by omega⟩
   · rw [List.mem_singleton] at hs
     subst hs
     have h1 := (ih2 g (by simp)).2
     have h2 := Qi5 (lt := bLt) x.2.2 g.items
     exact ⟨hx,by simp only; omega⟩
 · rw [Qup fun g hg hh => hj ⟨g,hg,hh⟩]
   refine ⟨by simp; omega,fun s hs => ?_⟩
   rcases List.mem_append.1 hs with hs | hs
   · have := ih2 s hs
     exact ⟨this.1,by omega⟩
   · rw [List.mem_singleton] at hs
     subst hs
     exact ⟨hx,by simp⟩
theorem X9.unsnoc {w:World} {n0:Nat} {R:Nat → Prop} {T:List SnH} {Q:List Sn} {d:SnH} {q:Sn} (h:X9 w n0 R (T ++ [d]) (Q ++ [q])) : X9 w n0 R T Q ∧ SnR w n0 R d q := by
 have hl : T.length = Q.length := by have := h.len; simpa using this
 refine ⟨⟨hl,fun i d' q' hd hq => h.at_ i d' q' ?_ ?_⟩,h.at_ T.length d q ?_ ?_⟩
 · rw [List.getElem?_append_left (List.getElem?_eq_some_iff.1 hd).1]; exact hd
 · rw [List.getElem?_append_left (List.getElem?_eq_some_iff.1 hq).1]; exact hq
 · rw [List.getElem?_append_right (Nat.le_refl _)]; simp
 · rw [hl,List.getElem?_append_right (Nat.le_refl _)]; simp
end Go.Proofs.YtopncieoolkhjaaGreatDoor
