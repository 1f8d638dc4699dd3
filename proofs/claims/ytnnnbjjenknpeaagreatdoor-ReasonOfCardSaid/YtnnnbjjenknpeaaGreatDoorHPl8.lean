import Derived.Test.YtnnnbjjenknpeaaGreatDoorGN
import Derived.Test.YtnnnbjjenknpeaaGreatDoorGJ
/- What the score's reference adds up,in plain words. -/
set_option linter.unusedVariables false
set_option linter.unusedSimpArgs false
namespace Go.Proofs.YtnnnbjjenknpeaaGreatDoor
open Go.Se Go.RowKit
abbrev S9 := ByteArray × Int × Int
def q9 (key:ByteArray) (lo hi:Int) (x:S9) : Bool := decide (x.1 = key) && (decide (lo ≤ x.2.1) && decide (x.2.1 < hi))
def TgR (w:World) (A:Option Addr) (k:Nat) : Prop := k < w.heap.size ∧ ¬ rowB A k
theorem Qax.keepR {w w1:World} {A A1:Option Addr} {D:List (Ev × SV)} {rs:List Row} (h:Qax w (TgR w A) D rs) (hk:∀ k,k < w.heap.size → ¬ rowB A k → w1.heap[k]? = w.heap[k]? ∧ ¬ rowB A1 k) (hs:w.heap.size ≤ w1.heap.size) : Qax w1 (TgR w1 A1) D rs :=
 ⟨h.len,fun i d r hd hr => by
  obtain ⟨h1,h2,h3,h4⟩ := h.ev i d r hd hr
  refine ⟨h1,h2,Qa3 h3 fun a ha => ?_,fun a ha => ?_⟩
  · obtain ⟨q1,q2⟩ := h4 a ha
    exact (hk _ q1 q2).1
  · obtain ⟨q1,q2⟩ := h4 a ha
    exact ⟨by omega,(hk _ q1 q2).2⟩⟩
theorem Qax.extR {w w1:World} {A:Option Addr} {D:List (Ev × SV)} {rs:List Row} (h:Qax w (TgR w A) D rs) (hx:Ext w w1) : Qax w1 (TgR w1 A) D rs := h.keepR (fun k hk hn => ⟨hx.block k hk,hn⟩) hx.size
theorem Qax.nilR {w:World} {A:Option Addr} : Qax w (TgR w A) [] [] := ⟨rfl,by simp⟩
theorem Qax.snocR {w:World} {T:Nat → Prop} {D:List (Ev × SV)} {rs:List Row} (h:Qax w T D rs) {d:Ev × SV} {r:Row} (hd:d.1 = r.1 ∧ d.2.2.1 = r.2.length ∧ SlT w d.2.1 r.2 ∧ ∀ a,d.2.1 = some a → T a.block) : Qax w T (D ++ [d]) (rs ++ [r]) := by
 have hl := h.len
 refine ⟨by simp [hl],fun i d' r' h1 h2 => ?_⟩
 by_cases hi : i < D.length
 · rw [List.getElem?_append_left hi] at h1
   rw [List.getElem?_append_left (by omega)] at h2
   exact h.ev i d' r' h1 h2
 · rw [List.getElem?_append_right (by omega)] at h1 h2
   rw [← hl] at h2
   generalize i - D.length = j at h1 h2
   cases j with
   | zero => simp at h1 h2; subst h1; subst h2; exact hd
   | succ j => simp at h1
theorem Qa8 {w w1:World} {A A1:Option Addr} (hg:w.grownBy w1 (A.map (·.block))) (hA:A1 = A ∨ A1.map (·.block) = A.map (·.block) ∨ A1.map (·.block) = some w.heap.size) (k:Nat) (hk:k < w.heap.size) (hn:¬ rowB A k) : w1.heap[k]? = w.heap[k]? ∧ ¬ rowB A1 k := by
 refine ⟨hg.block k hk (fun e => ?_),?_⟩
 · cases A with
   | none => simp at e
   | some x => simp at e; exact hn ⟨x,rfl,e⟩
 · rintro ⟨y,hy,rfl⟩
   subst hy
   rcases hA with h | h | h
   · exact hn ⟨y,h.symm,rfl⟩
   · cases A with
     | none => simp at h
     | some x => simp at h; exact hn ⟨x,rfl,h⟩
   · simp at h; omega
theorem Qq9 (name:ByteArray) : ∀ es : List Ev,(∀ e ∈ es,Xu e = true) → (Qda name es).item.tags.size < 1000 := by
 refine Qy (fun _ => by show (⟨#[]⟩ : ByteArray).size < 1000; decide) fun es e ih h => ?_
 have ih := ih fun x hx => h x (by simp [hx])
 have he := Qco (h e (by simp))
 rw [Qcj]
 unfold Qag
 split
 · show (X9 e.text).size < 1000
   have := Qll e.text
   omega
 · split
   · exact ih
   · exact ih
theorem Qbz (name:ByteArray) (es:List Ev) (h:∀ e ∈ es,Xu e = true) : (Qgs name es).tags.size < 1000 := by
 unfold Qgs
 split
 · show (⟨#[]⟩ : ByteArray).size < 1000
   decide
 · exact Qq9 name es h
theorem Qm2 {α:Type} {l:List α} {g:α} (h:l.getLast? = some g) : ∃ l0,l = l0 ++ [g] := by
 obtain ⟨ys,h⟩ := List.getLast?_eq_some_iff.1 h
 exact ⟨ys,h⟩
theorem Qra {gap:Int} {acc:List Sn} {g:Sn} {a:Ad3} (h:g.person = a.1 ∧ a.2.1 - g.to_ ≤ gap) : Qaj gap (acc ++ [g]) a = acc ++ [⟨a.1,g.from_,a.2.1,Qey bLt g.items a.2.2⟩] := by rw [Qfk,if_pos h]
theorem Qvq {gap:Int} {acc:List Sn} {a:Ad3} (h:∀ g,acc.getLast? = some g → ¬ (g.person = a.1 ∧ a.2.1 - g.to_ ≤ gap)) : Qaj gap acc a = acc ++ [⟨a.1,a.2.1,a.2.1,[a.2.2]⟩] := by
 cases hl : acc.getLast? with
 | none =>
   unfold Qaj
   rw [hl]
 | some g =>
   unfold Qaj
   rw [hl]
   simp only
   rw [if_neg (h g hl)]
theorem Qfj (gap:Int) (L:List Ad3) (a:Ad3) : allL gap (L ++ [a]) = Qaj gap (allL gap L) a := by unfold allL; rw [List.foldl_append]; rfl
def Qyq (x:Ad3) : Prop := (1 ≤ x.1.size ∧ x.1.size ≤ 24) ∧ (0 ≤ x.2.1 ∧ x.2.1 ≤ 1099511627776) ∧ (1 ≤ x.2.2.size ∧ x.2.2.size ≤ 24)
theorem Qig (gap:Int) : ∀ L : List Ad3,(∀ x ∈ L,Qyq x) → (allL gap L).length ≤ L.length ∧ ∀ s ∈ allL gap L,(0 ≤ s.to_ ∧ s.to_ ≤ 1099511627776) ∧ s.items.length ≤ L.length := by
 refine Qy (fun _ => by simp [allL]) fun L x ih h => ?_
 obtain ⟨ih1,ih2⟩ := ih fun y hy => h y (by simp [hy])
 have hx := (h x (by simp)).2.1
 rw [Qfj,List.length_append,List.length_singleton]
 by_cases hj : ∃ g,(allL gap L).getLast? = some g ∧ g.person = x.1 ∧ x.2.1 - g.to_ ≤ gap
 · obtain ⟨g,hg,hj⟩ := hj
   obtain ⟨acc,hacc⟩ := Qm2 hg
   rw [hacc] at ih1 ih2 ⊢
   rw [Qra hj]
   refine ⟨by simp at ih1 ⊢; omega,fun s hs => ?_⟩
   rcases List.mem_append.1 hs with hs | hs
   · have := ih2 s (by simp [hs])
     exact ⟨this.1,by omega⟩
   · rw [List.mem_singleton] at hs
     subst hs
     have h1 := (ih2 g (by simp)).2
     have h2 := Qj4 (lt := bLt) x.2.2 g.items
     exact ⟨hx,by simp only; omega⟩
 · rw [Qvq fun g hg hh => hj ⟨g,hg,hh⟩]
   refine ⟨by simp; omega,fun s hs => ?_⟩
   rcases List.mem_append.1 hs with hs | hs
   · have := ih2 s hs
     exact ⟨this.1,by omega⟩
   · rw [List.mem_singleton] at hs
     subst hs
     exact ⟨hx,by simp⟩
theorem Qai.unsnoc {w:World} {n0:Nat} {R:Nat → Prop} {T:List SnH} {Q:List Sn} {d:SnH} {q:Sn} (h:Qai w n0 R (T ++ [d]) (Q ++ [q])) : Qai w n0 R T Q ∧ SnR w n0 R d q := by
 have hl : T.length = Q.length := by have := h.len; simpa using this
 refine ⟨⟨hl,fun i d' q' hd hq => h.at_ i d' q' ?_ ?_⟩,h.at_ T.length d q ?_ ?_⟩
 · rw [List.getElem?_append_left (List.getElem?_eq_some_iff.1 hd).1]; exact hd
 · rw [List.getElem?_append_left (List.getElem?_eq_some_iff.1 hq).1]; exact hq
 · rw [List.getElem?_append_right (Nat.le_refl _)]; simp
 · rw [hl,List.getElem?_append_right (Nat.le_refl _)]; simp
end Go.Proofs.YtnnnbjjenknpeaaGreatDoor
