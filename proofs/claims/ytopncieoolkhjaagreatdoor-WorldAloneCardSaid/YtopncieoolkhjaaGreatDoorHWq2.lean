import Derived.Test.YtopncieoolkhjaaGreatDoorHWq1
/- A person's own events,and the catalog's,in plain words (WorldAlone). -/
set_option linter.unusedVariables false
set_option linter.unusedSimpArgs false
namespace Go.Proofs.YtopncieoolkhjaaGreatDoor
open Go.Se Go.RowKit
def Qaz (p:ByteArray) (e:Ev) : Bool := decide (e.person = p) || decide (e.person = ⟨#[]⟩)
theorem Qp8 {e:Ev} (hm:Xo e = true) (h:thB e = true) : e.person = ⟨#[]⟩ := by
 have hk : e.kind = 11 ∨ e.kind = 12 ∨ e.kind = 13 := by simpa [thB] using h
 rcases Qbs (Qcq.1 hm).kind with h | h | h | h | h | h | h
 · omega
 · omega
 · omega
 · exact h.2.1
 · exact h.2.1
 · exact h.2.1
 · omega
theorem Qqq {e:Ev} (hm:Xo e = true) (p:ByteArray) (h:thB e = true) : Qaz p e = true := by
 unfold Qaz
 rw [Qp8 hm h]
 simp
theorem Qie (p:ByteArray) {z:List Ev} (hm:∀ e ∈ z,Xo e = true) : Xc (z.filter (Qaz p)) = Xc z := by
 unfold Xc
 rw [List.filter_filter]
 apply List.filter_congr
 intro e he
 cases h : thB e with
 | false => rfl
 | true => rw [Qqq (hm e he) p h]; rfl
theorem Qog (p:ByteArray) {q:Ev → Bool} (hq:∀ e,q e = true → e.person = p) (z:List Ev) : (z.filter (Qaz p)).filter q = z.filter q := by
 rw [List.filter_filter]
 apply List.filter_congr
 intro e _
 cases h : q e with
 | false => rfl
 | true => unfold Qaz; rw [hq e h]; simp
theorem Qu6 (p:ByteArray) (z:List Ev) : Qen (z.filter (Qaz p)) p = Qen z p := by
 unfold Qen hist Qbf
 rw [List.filter_filter,List.filter_filter,List.filter_filter]
 apply List.filter_congr
 intro e _
 by_cases h : e.person = p
 · simp [Qaz,h]
 · simp [h]
theorem Qxo (p m:ByteArray) (z:List Ev) : Q0d (z.filter (Qaz p)) p m = Q0d z p m := by
 unfold Q0d
 rw [Qog p (fun e h => by unfold flB at h; simp at h; exact h.1) z]
theorem Qu7 (width:Int) (p:ByteArray) : ∀ z : List Ev,(∀ e ∈ z,Xo e = true) → rowsOf (Qq width (z.filter (Qaz p))).rs p = rowsOf (Qq width z).rs p := by
 refine Qy (fun _ => rfl) fun z e ih hm => ?_
 have hm0 : ∀ x ∈ z,Xo x = true := fun x hx => hm x (List.mem_append_left _ hx)
 have ih := ih hm0
 have ht := Qie p hm0
 have hr : ∀ (R:List Row) (r:List Row),rowsOf (R ++ r) p = rowsOf R p ++ rowsOf r p := fun R r => List.filter_append ..
 rw [List.filter_append,Qm6,hr]
 cases h : Qaz p e with
 | true =>
   rw [show List.filter (Qaz p) [e] = [e] by simp [h],Qm6,ht,hr,ih]
 | false =>
   rw [show List.filter (Qaz p) [e] = [] by simp [h],List.append_nil,ih]
   have hne : e.person ≠ p := fun e' => by unfold Qaz at h; simp [e'] at h
   split
   · rw [show rowsOf [(e,Qbc (Qa1 (Xc z) e))] p = [] from Qr3 (fun r hr => by rw [List.mem_singleton] at hr; rw [hr]; exact hne),List.append_nil]
   · rw [show rowsOf [] p = [] from rfl,List.append_nil]
theorem Qp1 (p:ByteArray) : ∀ l : List Ev,Qd (Qcc (l.filter fun e => decide (e.person = p))) p = Qd (Qcc l) p := by
 refine Qy rfl fun l e ih => ?_
 have hs : ∀ (l:List Ev) (e:Ev),Qcc (l ++ [e]) = Qqi (Qcc l) e.person e.at_ e.item := fun l e => by unfold Qcc; rw [List.foldl_append]; rfl
 rw [List.filter_append,hs]
 by_cases h : e.person = p
 · rw [show List.filter (fun e => decide (e.person = p)) [e] = [e] by simp [h],hs,h]
   exact Qxm ih _ _
 · rw [show List.filter (fun e => decide (e.person = p)) [e] = [] by simp [h],List.append_nil,ih,Qu0 (fun e' => h e'.symm)]
theorem Q0l (p:ByteArray) (z:List Ev) : Qd (Qcc ((z.filter (Qaz p)).filter wpB)) p = Qd (Qcc (z.filter wpB)) p := by
 rw [← Qp1 p ((z.filter (Qaz p)).filter wpB),← Qp1 p (z.filter wpB)]
 congr 2
 rw [List.filter_filter,List.filter_filter,List.filter_filter]
 apply List.filter_congr
 intro e _
 by_cases h : e.person = p
 · simp [Qaz,h]
 · simp [h]
theorem Q06 {rs rs':List Row} {person:ByteArray} (h:∀ m,Q0d (evs rs) person m = Q0d (evs rs') person m) : Xn ((Qaw (Xg rs).follows person (hist (evs rs) person)).map (·.1)) = Xn ((Qaw (Xg rs').follows person (hist (evs rs') person)).map (·.1)) := by
 rw [Qh7 (Qa8 (Qge _ _ _)) (l := (Qaw (Xg rs').follows person (hist (evs rs') person)).map (·.1)) fun x => by rw [Qx4,h x,← Qx4],
  Qh7 (Qa8 (Qge _ _ _)) (l := (Qaw (Xg rs').follows person (hist (evs rs') person)).map (·.1)) fun x => Iff.rfl]
end Go.Proofs.YtopncieoolkhjaaGreatDoor
