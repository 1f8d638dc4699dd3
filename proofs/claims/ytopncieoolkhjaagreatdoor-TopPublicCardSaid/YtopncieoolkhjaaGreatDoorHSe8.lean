import Derived.Test.YtopncieoolkhjaaGreatDoorHSe7
/- Regions in an open order in which three operations that change memory may come up at once. -/
set_option linter.unusedVariables false
set_option linter.unusedSimpArgs false
namespace Go.Se
open Go.RowKit
inductive Pq where
 | done
 | one (i:Nat) (p:Pq)
 | two (i:Nat) (p:Pq) (j:Nat) (q:Pq)
 | three (i:Nat) (p:Pq) (j:Nat) (q:Pq) (k:Nat) (r:Pq)
def Pq.size : Pq → Nat
 | .done => 0
 | .one _ p => p.size + 1
 | .two _ p _ _ => p.size + 1
 | .three _ p _ _ _ _ => p.size + 1
def Pq.seq : List Nat → Pq → Pq
 | [],p => p
 | i :: r,p => .one i (Pq.seq r p)
def Qxo (T:Tab) (ops:Array Oper) : Pq → Array Bool → Bool
 | .done,listed => (Region.ready .any ops listed).isEmpty
 | .one i p,listed => match ops[i]? with
   | none => false
   | some o => (bif still T o.op then (Region.ready .any ops listed).contains i && Region.free .any ops listed i else Region.ready .any ops listed == [i]) && Qxo T ops p (listed.setIfInBounds i true)
 | .two i p j q,listed => match ops[i]? with
   | none => false
   | some o => match ops[j]? with
     | none => false
     | some o' => !still T o.op && !still T o'.op && Region.ready .any ops listed == [i,j] && p.size == q.size && Qxo T ops p (listed.setIfInBounds i true) && Qxo T ops q (listed.setIfInBounds j true)
 | .three i p j q k r,listed => match ops[i]? with
   | none => false
   | some o => match ops[j]? with
     | none => false
     | some o' => match ops[k]? with
       | none => false
       | some o'' => !still T o.op && !still T o'.op && !still T o''.op && Region.ready .any ops listed == [i,j,k] && p.size == q.size && p.size == r.size && Qxo T ops p (listed.setIfInBounds i true) && Qxo T ops q (listed.setIfInBounds j true) && Qxo T ops r (listed.setIfInBounds k true)
section
variable {P:Program} {T:Tab} {N:Nat} {cl:Cl} {ops:List Oper}
def Q2e (P:Program) (T:Tab) (N:Nat) (cl:Cl) (ops:List Oper) : Pq → Env → Loc → List Nat → World → (Env → Loc → List Nat → World → Prop) → Prop
 | .done,Γ,Δ,G,w,K => K Γ Δ G w
 | .one i p,Γ,Δ,G,w,K => match nth ops i with
   | some o => Qdx P T N cl ops o Γ Δ G w fun Γ' Δ' G' w' => Q2e P T N cl ops p Γ' Δ' G' w' K
   | none => False
 | .two i p j q,Γ,Δ,G,w,K => (match nth ops i with
   | some o => Qdx P T N cl ops o Γ Δ G w fun Γ' Δ' G' w' => Q2e P T N cl ops p Γ' Δ' G' w' K
   | none => False) ∧ (match nth ops j with
   | some o => Qdx P T N cl ops o Γ Δ G w fun Γ' Δ' G' w' => Q2e P T N cl ops q Γ' Δ' G' w' K
   | none => False)
 | .three i p j q k r,Γ,Δ,G,w,K => (match nth ops i with
   | some o => Qdx P T N cl ops o Γ Δ G w fun Γ' Δ' G' w' => Q2e P T N cl ops p Γ' Δ' G' w' K
   | none => False) ∧ (match nth ops j with
   | some o => Qdx P T N cl ops o Γ Δ G w fun Γ' Δ' G' w' => Q2e P T N cl ops q Γ' Δ' G' w' K
   | none => False) ∧ (match nth ops k with
   | some o => Qdx P T N cl ops o Γ Δ G w fun Γ' Δ' G' w' => Q2e P T N cl ops r Γ' Δ' G' w' K
   | none => False)
theorem Qdv (hT:Qar P T) (hns:cl ≠ .same) (hsel:Region.noSelect ops.toArray = true) {K:Env → Loc → List Nat → World → Prop} {Q:Exit → Act → World → Prop} (hQ:∀ a Γ Δ G w,Ag N a Γ Δ G → K Γ Δ G w → Q .normal a w) (hp:∀ c a w,¬ Q (.panic c) a w) :
 ∀ (pl:Pq) (listed:Array Bool) (Γ:Env) (Δ:Loc) (G:List Nat) (a:Act) (w:World),Qxo T ops.toArray pl listed = true → Ag N a Γ Δ G →
   Q2e P T N cl ops pl Γ Δ G w K → wpT P ops.toArray Q (fun L w' => noneOf [] L → cl.rel w w') pl.size listed a w
 | .done,listed,Γ,Δ,G,a,w,hc,ha,h => by
   simp only [Qxo,List.isEmpty_iff] at hc
   exact ⟨hc,hQ a Γ Δ G w ha h⟩
 | .one i pl,listed,Γ,Δ,G,a,w,hc,ha,h => by
   simp only [Qxo] at hc
   cases ho : ops.toArray[i]? with
   | none => rw [ho] at hc; simp at hc
   | some o =>
     rw [ho] at hc
     simp only [Bool.and_eq_true] at hc
     obtain ⟨hc1,hc2⟩ := hc
     have ho' : ops[i]? = some o := by simpa using ho
     simp only [Q2e,Qaa,ho'] at h
     unfold Qdx at h
     obtain ⟨p,hp1,hw⟩ := Xi ha h
     cases hs : still T o.op <;> simp only [hs,cond_true,cond_false] at hp1 hc1
     · have hr : Region.ready .any ops.toArray listed = [i] := by simpa using hc1
       refine ⟨fun h0 => (by rw [hr] at h0; cases h0),fun j hj => ?_⟩
       rw [hr] at hj
       obtain rfl : j = i := by simpa using hj
       have := Qau (Q := Q) hT ha hw hp1 (M := fun a' w' => (noneOf [] (listed.setIfInBounds j true) → cl.rel w w') ∧ wpT P ops.toArray Q (fun L w' => noneOf [] L → cl.rel w w') pl.size (listed.setIfInBounds j true) a' w')
        fun a' w' Γ' Δ' G' hrel hag hk => by
         have hrel' := hrel.resolve_left hns
         exact ⟨fun _ => hrel',Qa9 (fun L w'' hw'' hn => cl.trans hrel' (hw'' hn)) _ _ _ _ (Qdv hT hns hsel hQ hp pl _ Γ' Δ' G' a' w' hc2 hag hk)⟩
       unfold wpOp
       simpa only [ho] using this
     · obtain ⟨v,Γ',Δ',G',hy,hag,hk⟩ := still_step hT ha hw hp1
       simp only [Bool.and_eq_true] at hc1
       exact Qln (B := []) (D := []) (C := cl.rel w) ho (Region.noSelect_spec hsel) (fun c a w hh => (hp _ _ _ hh).elim) (by simp)
        (fun j hj => by simp at hj) (fun d hd => by simp at hd) _ listed a w (Region.free_spec ho hc1.2) (by simpa using hc1.1)
        (fun d hd => by simp at hd) hy (Cl.refl _ _) (Qdv hT hns hsel hQ hp pl _ Γ' Δ' G' _ w hc2 hag hk)
 | .two i pl j ql,listed,Γ,Δ,G,a,w,hc,ha,h => by
   simp only [Qxo] at hc
   cases ho : ops.toArray[i]? with
   | none => rw [ho] at hc; simp at hc
   | some o =>
     rw [ho] at hc
     cases hu : ops.toArray[j]? with
     | none => rw [hu] at hc; simp at hc
     | some u =>
       rw [hu] at hc
       simp only [Bool.and_eq_true,Bool.not_eq_true',beq_iff_eq] at hc
       obtain ⟨⟨⟨⟨⟨hs,hsu⟩,hr⟩,hsz⟩,hc1⟩,hc2⟩ := hc
       have ho' : ops[i]? = some o := by simpa using ho
       have hu' : ops[j]? = some u := by simpa using hu
       obtain ⟨h1,h2⟩ := h
       simp only [Qaa,ho'] at h1
       simp only [Qaa,hu'] at h2
       unfold Qdx at h1 h2
       obtain ⟨p,hp1,hw⟩ := Xi ha h1
       obtain ⟨p',hp1',hw'⟩ := Xi ha h2
       simp only [hs,hsu,cond_false] at hp1 hp1'
       refine ⟨fun h0 => (by rw [hr] at h0; cases h0),fun k hk => ?_⟩
       rw [hr] at hk
       have hk' : k = i ∨ k = j := by simpa using hk
       rcases hk' with rfl | rfl
       · have := Qau (Q := Q) hT ha hw hp1 (M := fun a' w' => (noneOf [] (listed.setIfInBounds k true) → cl.rel w w') ∧ wpT P ops.toArray Q (fun L w' => noneOf [] L → cl.rel w w') pl.size (listed.setIfInBounds k true) a' w')
          fun a' w' Γ' Δ' G' hrel hag hk => by
           have hrel' := hrel.resolve_left hns
           exact ⟨fun _ => hrel',Qa9 (fun L w'' hw'' hn => cl.trans hrel' (hw'' hn)) _ _ _ _ (Qdv hT hns hsel hQ hp pl _ Γ' Δ' G' a' w' hc1 hag hk)⟩
         unfold wpOp
         simpa only [ho] using this
       · have := Qau (Q := Q) hT ha hw' hp1' (M := fun a' w' => (noneOf [] (listed.setIfInBounds k true) → cl.rel w w') ∧ wpT P ops.toArray Q (fun L w' => noneOf [] L → cl.rel w w') pl.size (listed.setIfInBounds k true) a' w')
          fun a' w' Γ' Δ' G' hrel hag hk => by
           have hrel' := hrel.resolve_left hns
           refine ⟨fun _ => hrel',?_⟩
           rw [hsz]
           exact Qa9 (fun L w'' hw'' hn => cl.trans hrel' (hw'' hn)) _ _ _ _ (Qdv hT hns hsel hQ hp ql _ Γ' Δ' G' a' w' hc2 hag hk)
         unfold wpOp
         simpa only [hu] using this
 | .three i pl j ql k rl,listed,Γ,Δ,G,a,w,hc,ha,h => by
   simp only [Qxo] at hc
   cases ho : ops.toArray[i]? with
   | none => rw [ho] at hc; simp at hc
   | some o =>
     rw [ho] at hc
     cases hu : ops.toArray[j]? with
     | none => rw [hu] at hc; simp at hc
     | some u =>
      rw [hu] at hc
      cases hv : ops.toArray[k]? with
      | none => rw [hv] at hc; simp at hc
      | some v =>
       rw [hv] at hc
       simp only [Bool.and_eq_true,Bool.not_eq_true',beq_iff_eq] at hc
       obtain ⟨⟨⟨⟨⟨⟨⟨⟨hs,hsu⟩,hsv⟩,hr⟩,hsz⟩,hsz2⟩,hc1⟩,hc2⟩,hc3⟩ := hc
       have ho' : ops[i]? = some o := by simpa using ho
       have hu' : ops[j]? = some u := by simpa using hu
       have hv' : ops[k]? = some v := by simpa using hv
       obtain ⟨h1,h2,h3⟩ := h
       simp only [Qaa,ho'] at h1
       simp only [Qaa,hu'] at h2
       simp only [Qaa,hv'] at h3
       unfold Qdx at h1 h2 h3
       obtain ⟨p,hp1,hw⟩ := Xi ha h1
       obtain ⟨p',hp1',hw'⟩ := Xi ha h2
       obtain ⟨p'',hp1'',hw''⟩ := Xi ha h3
       simp only [hs,hsu,hsv,cond_false] at hp1 hp1' hp1''
       refine ⟨fun h0 => (by rw [hr] at h0; cases h0),fun m hk => ?_⟩
       rw [hr] at hk
       have hk' : m = i ∨ m = j ∨ m = k := by simpa using hk
       rcases hk' with rfl | rfl | rfl
       · have := Qau (Q := Q) hT ha hw hp1 (M := fun a' w' => (noneOf [] (listed.setIfInBounds m true) → cl.rel w w') ∧ wpT P ops.toArray Q (fun L w' => noneOf [] L → cl.rel w w') pl.size (listed.setIfInBounds m true) a' w')
          fun a' w' Γ' Δ' G' hrel hag hk => by
           have hrel' := hrel.resolve_left hns
           refine ⟨fun _ => hrel',?_⟩
           exact Qa9 (fun L w'' hw'' hn => cl.trans hrel' (hw'' hn)) _ _ _ _ (Qdv hT hns hsel hQ hp pl _ Γ' Δ' G' a' w' hc1 hag hk)
         unfold wpOp
         simpa only [ho] using this
       · have := Qau (Q := Q) hT ha hw' hp1' (M := fun a' w' => (noneOf [] (listed.setIfInBounds m true) → cl.rel w w') ∧ wpT P ops.toArray Q (fun L w' => noneOf [] L → cl.rel w w') pl.size (listed.setIfInBounds m true) a' w')
          fun a' w' Γ' Δ' G' hrel hag hk => by
           have hrel' := hrel.resolve_left hns
           refine ⟨fun _ => hrel',?_⟩
           rw [hsz]
           exact Qa9 (fun L w'' hw'' hn => cl.trans hrel' (hw'' hn)) _ _ _ _ (Qdv hT hns hsel hQ hp ql _ Γ' Δ' G' a' w' hc2 hag hk)
         unfold wpOp
         simpa only [hu] using this
       · have := Qau (Q := Q) hT ha hw'' hp1'' (M := fun a' w' => (noneOf [] (listed.setIfInBounds m true) → cl.rel w w') ∧ wpT P ops.toArray Q (fun L w' => noneOf [] L → cl.rel w w') pl.size (listed.setIfInBounds m true) a' w')
          fun a' w' Γ' Δ' G' hrel hag hk => by
           have hrel' := hrel.resolve_left hns
           refine ⟨fun _ => hrel',?_⟩
           rw [hsz2]
           exact Qa9 (fun L w'' hw'' hn => cl.trans hrel' (hw'' hn)) _ _ _ _ (Qdv hT hns hsel hQ hp rl _ Γ' Δ' G' a' w' hc3 hag hk)
         unfold wpOp
         simpa only [hv] using this
theorem Qvr (cl:Cl) (pl:Pq) (hns:cl ≠ .same) (hT:Qar P T) (hm:P.follows .mixedOrders = true) {id:Nat} {ops:Array Oper} {Γ:Env} {w:World} {kn:KN} {ex:KE} {rt:KN} (hc:(Region.noSelect ops && (pl.size == ops.size) && Qxo T ops pl (Array.replicate ops.size false)) = true)
 (h:Q2e P T N cl ops.toList pl Γ [] [] w.drew fun Γ' _ _ w' => kn Γ' w') : SemC P N (.region id ops true) Γ w kn ex rt := by
 unfold SemC
 intro a ha
 simp only [Bool.and_eq_true,beq_iff_eq] at hc
 obtain ⟨⟨h1,h2⟩,h3⟩ := hc
 have := Qdv (ops := ops.toList) (Q := toQ N kn ex rt) hT hns h1 (fun a Γ Δ G w hag hk => ⟨Γ,hag.done,hk⟩) (fun c a w hq => hq) pl (Array.replicate ops.size false) Γ [] [] a w.drew h3 ha h
 rw [h2] at this
 exact wp_region_any hm (Qcm _ _ _ _ this)
end
end Go.Se
