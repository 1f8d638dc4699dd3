import Derived.Test.YtopncieoolkhjaaGreatDoorGO
import Derived.Test.YtopncieoolkhjaaGreatDoorGL
import Derived.Test.YtopncieoolkhjaaGreatDoorGW
/- The world's parts and the document's,in plain words (WorldParts). -/
set_option linter.unusedVariables false
set_option linter.unusedSimpArgs false
namespace Go.Proofs.YtopncieoolkhjaaGreatDoor
open Go.Se Go.RowKit
def Qti (z:List Ev) (item:ByteArray) : List ByteArray := z.foldl (fun l e => if e.item = item ∧ 0 < Qo e then Qns l e.person else l) []
theorem Qgw (z:List Ev) (e:Ev) (item:ByteArray) : Qti (z ++ [e]) item = if e.item = item ∧ 0 < Qo e then Qns (Qti z item) e.person else Qti z item := by unfold Qti; rw [List.foldl_append]; rfl
theorem Qx2 (item:ByteArray) : ∀ z : List Ev,Qxj (Qti z item) := by
 refine Qy List.Pairwise.nil fun z e ih => ?_
 rw [Qgw]
 split
 · exact Q1o ih
 · exact ih
theorem Qrz {l:List ByteArray} (h:Qxj l) : l.Nodup := by
 rw [List.nodup_iff_pairwise_ne]
 exact h.imp fun h e => by rw [e,X0] at h; cases h
theorem Qtj (item:ByteArray) (x:ByteArray) : ∀ z : List Ev,x ∈ Qti z item ↔ x ∈ Qth z item := by
 refine Qy Iff.rfl fun z e ih => ?_
 rw [Qgw,Qfb]
 unfold Qhq
 by_cases h : e.item = item ∧ 0 < Qo e
 · rw [if_pos h,if_pos h,put_mem,ih]
   split
   · next hp => exact ⟨fun hx => hx.elim id fun e' => e' ▸ hp,.inl⟩
   · rw [List.mem_append,List.mem_singleton]
 · rw [if_neg h,if_neg h]
   exact ih
theorem Qra (item:ByteArray) : ∀ z : List Ev,(Qth z item).Nodup := by
 refine Qy List.nodup_nil fun z e ih => ?_
 rw [Qfb]
 unfold Qhq
 split
 · split
   · exact ih
   · next h =>
     rw [List.nodup_append]
     refine ⟨ih,by simp,fun x hx y hy => ?_⟩
     rw [List.mem_singleton] at hy
     subst hy
     rintro rfl
     exact h hx
 · exact ih
theorem Q0z (z:List Ev) (item:ByteArray) : (Qti z item).length = (Qth z item).length :=
 (Qck (Qrz (Qx2 item z)) (Qra item z) (fun x hx => (Qtj item x z).1 hx) fun x hx => (Qtj item x z).2 hx).length_eq
theorem Q09 {z:List Ev} (hm:∀ e ∈ z,Xo e = true) (person:ByteArray) : (z.filter fun e => decide (e.kind < 11) && decide (e.person = person)) = Qen z person := by
 unfold Qen hist Qbf
 rw [List.filter_filter]
 apply List.filter_congr
 intro e he
 have h := Q4u (hm e he)
 cases hp : peB e with
 | true => rw [decide_eq_true (h.1 hp),Bool.and_true,Bool.true_and]
 | false =>
   have hk : decide (e.kind < 11) = false := decide_eq_false fun hk => by
    have h2 := h.2 hk
    rw [hp] at h2
    cases h2
   rw [hk,Bool.false_and,Bool.and_false]
end Go.Proofs.YtopncieoolkhjaaGreatDoor
