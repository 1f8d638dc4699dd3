/- Several texts in one: Sp2, Sp4, Sp6. -/
import Derived.Test.YteabekcdcphjpaaGreatDoorGH
set_option linter.unusedVariables false
set_option linter.unusedSimpArgs false
namespace Go.Proofs.YteabekcdcphjpaaGreatDoor
open Go.Se Go.RowKit
abbrev Ad := ByteArray × Int × Int
def dsA (s:Qch) (L:List Ad) : Qch := L.foldl (fun s x => Qiv s x.1 x.2.1 x.2.2) s
theorem Qwv (s:Qch) (L:List Ad) (x:Ad) : dsA s (L ++ [x]) = Qiv (dsA s L) x.1 x.2.1 x.2.2 := by unfold dsA; rw [List.foldl_append]; rfl
theorem Q9y (l:List Ev) : Qgw l = dsA [] (l.map fun e => (e.item,e.at_,Qw e)) := by unfold Qgw dsA; rw [List.foldl_map]
def adW (half now:Int) (key:ByteArray) (L:List Ad) : Int := ((L.filter fun x => decide (x.1 = key)).map fun x => x.2.2 * Qa0 (now - x.2.1) half).sum
theorem Qf8 (half now:Int) (key:ByteArray) (L M:List Ad) : adW half now key (L ++ M) = adW half now key L + adW half now key M := by
 unfold adW; rw [List.filter_append,List.map_append,List.sum_append]
theorem Qf9 {half now:Int} {key:ByteArray} {L M:List Ad} (h:L.Perm M) : adW half now key L = adW half now key M := by
 unfold adW
 exact Qia ((h.filter _).map _)
theorem Q4d (half now:Int) (s:Qch) (key:ByteArray) (x:Ad) : Qev half now ((Qc (Qiv s x.1 x.2.1 x.2.2) key).getD []) = Qev half now ((Qc s key).getD []) + adW half now key [x] := by
 unfold Qiv adW
 by_cases h0 : x.2.2 = 0
 · rw [if_pos h0]
   by_cases hk : x.1 = key
   · simp [hk,h0]
   · simp [hk]
 · rw [if_neg h0,Q5]
   by_cases hk : key = x.1
   · subst hk
     rw [if_pos rfl,Option.getD_some]
     unfold Qev
     rw [Qqu (fun t => Qa0 (now - t) half)]
     simp
   · have hk' : ¬ x.1 = key := fun e => hk e.symm
     rw [if_neg hk]
     simp [hk']
def Qpi (s:Qch) : List Ad := s.flatMap fun r => r.2.map fun x => (r.1,x.1,x.2)
theorem Q7s (half now:Int) (key k:ByteArray) (r:List (Int × Int)) : adW half now key (r.map fun x => ((k,x.1,x.2) : Ad)) = if k = key then Qev half now r else 0 := by
 unfold adW Qev
 by_cases h : k = key
 · rw [if_pos h,List.filter_eq_self.2 (by intro x hx; obtain ⟨y,_,rfl⟩ := List.mem_map.1 hx; simpa using h),List.map_map]; rfl
 · rw [if_neg h,List.filter_eq_nil_iff.2 (by intro x hx; obtain ⟨y,_,rfl⟩ := List.mem_map.1 hx; simpa using h)]; rfl
theorem Q1a (half now:Int) (key:ByteArray) : ∀ {s:Qch},(s.map (·.1)).Nodup → adW half now key (Qpi s) = Qev half now ((Qc s key).getD [])
 | [],_ => by simp [Qpi,adW,Qc,Qev]
 | r :: s,h => by
   rw [List.map_cons,List.nodup_cons] at h
   have ih := Q1a half now key h.2
   unfold Qpi at ih ⊢
   have hc : Qc (r :: s) key = if key = r.1 then some r.2 else Qc s key := by simp only [Qc]
   rw [List.flatMap_cons,Qf8,Q7s,ih,hc]
   by_cases hk : key = r.1
   · subst hk
     have : Qc s r.1 = none := by
      cases hq : Qc s r.1 with
      | none => rfl
      | some v => exact absurd (List.mem_map.2 ⟨_,Xg hq,rfl⟩) h.1
     rw [if_pos rfl,if_pos rfl,this,Option.getD_some,Option.getD_none]
     simp [Qev]
   · have hk' : ¬ r.1 = key := fun e => hk e.symm
     rw [if_neg hk,if_neg hk',Int.zero_add]
def getS (s:Qch) (k:ByteArray) (t:Int) : Int := (Qc ((Qc s k).getD []) t).getD 0
def adP (k:ByteArray) (t:Int) (F:List Ad) : Int := ((F.filter fun x => decide (x.1 = k) && decide (x.2.1 = t)).map fun x => x.2.2).sum
theorem Qb4 (k:ByteArray) (t:Int) (L M:List Ad) : adP k t (L ++ M) = adP k t L + adP k t M := by
 unfold adP; rw [List.filter_append,List.map_append,List.sum_append]
theorem Qo0 {k:ByteArray} {t:Int} {L M:List Ad} (h:L.Perm M) : adP k t L = adP k t M := by
 unfold adP
 exact Qia ((h.filter _).map _)
structure Qfh (s:Qch) (F:List Ad) : Prop where
 nd : (s.map (·.1)).Nodup
 rn : ∀ r ∈ s,(r.2.map (·.1)).Nodup
 pt : ∀ k t,getS s k t = adP k t F
 sm : ∀ half now key,Qev half now ((Qc s key).getD []) = adW half now key F
 of : ∀ r ∈ s,∀ x ∈ r.2,∃ y ∈ F,y.1 = r.1 ∧ y.2.1 = x.1
 ne : ∀ r ∈ s,∃ y ∈ F,y.1 = r.1
theorem Q5b : Qfh [] [] := ⟨List.nodup_nil,by simp,fun _ _ => rfl,fun _ _ _ => rfl,by simp,by simp⟩
theorem Xu {κ β:Type} {l:List (κ × β)} : (l.map (·.1)).Nodup ↔ l.Pairwise (fun x y => x.1 ≠ y.1) := by rw [List.nodup_iff_pairwise_ne,List.pairwise_map]
theorem Qkl {κ β:Type} [DecidableEq κ] {l:List (κ × β)} {k:κ} {v:β} (h:Qc l k = some v) : (k,v) ∈ l := Xg h
theorem Qga {κ β:Type} [DecidableEq κ] {k:κ} {v:β} : ∀ {l:List (κ × β)} {x:κ × β},x ∈ Qz l k v → x = (k,v) ∨ x ∈ l
 | [],x,h => by simp only [Qz,List.mem_singleton] at h; exact .inl h
 | y :: l,x,h => by
   simp only [Qz] at h
   split at h
   · next e =>
     rcases List.mem_cons.1 h with h | h
     · exact .inl (by rw [h,← e])
     · exact .inr (List.mem_cons_of_mem _ h)
   · rcases List.mem_cons.1 h with h | h
     · exact .inr (by rw [h]; simp)
     · exact (Qga h).imp id fun h => List.mem_cons_of_mem _ h
theorem Qfh.put {s:Qch} {F:List Ad} (h:Qfh s F) (x:Ad) : Qfh (Qiv s x.1 x.2.1 x.2.2) (F ++ [x]) := by
 have hsm : ∀ half now key,Qev half now ((Qc (Qiv s x.1 x.2.1 x.2.2) key).getD []) = adW half now key (F ++ [x]) := fun half now key => by
  rw [Q4d,h.sm,Qf8]
 by_cases h0 : x.2.2 = 0
 · have hp : Qiv s x.1 x.2.1 x.2.2 = s := if_pos h0
   rw [hp] at hsm ⊢
   refine ⟨h.nd,h.rn,fun k t => ?_,hsm,fun r hr y hy => ?_,fun r hr => ?_⟩
   · rw [h.pt,Qb4]
     unfold adP
     simp only [List.filter_cons,List.filter_nil]
     split <;> simp [h0]
   · obtain ⟨z,hz,h1,h2⟩ := h.of r hr y hy
     exact ⟨z,List.mem_append.2 (.inl hz),h1,h2⟩
   · obtain ⟨z,hz,h1⟩ := h.ne r hr
     exact ⟨z,List.mem_append.2 (.inl hz),h1⟩
 · have hp : Qiv s x.1 x.2.1 x.2.2 = Qz s x.1 (Qz ((Qc s x.1).getD []) x.2.1 ((Qc ((Qc s x.1).getD []) x.2.1).getD 0 + x.2.2)) := if_neg h0
   rw [hp] at hsm ⊢
   have hrow : ∀ y ∈ (Qc s x.1).getD [],∃ z ∈ F,z.1 = x.1 ∧ z.2.1 = y.1 := fun y hy => by
    cases hq : Qc s x.1 with
    | none => rw [hq] at hy; cases hy
    | some r =>
      rw [hq] at hy
      exact h.of (x.1,r) (Qkl hq) y hy
   have hrn : (((Qc s x.1).getD []).map (·.1)).Nodup := by
    cases hq : Qc s x.1 with
    | none => exact List.nodup_nil
    | some r => exact h.rn (x.1,r) (Qkl hq)
   refine ⟨Xu.2 (X8 (Xu.1 h.nd)),fun r hr => ?_,fun k t => ?_,hsm,fun r hr y hy => ?_,fun r hr => ?_⟩
   · rcases Qga hr with rfl | hr
     · exact Xu.2 (X8 (Xu.1 hrn))
     · exact h.rn r hr
   · rw [Qb4,← h.pt]
     unfold getS adP
     rw [Q5]
     by_cases hk : k = x.1
     · subst hk
       rw [if_pos rfl,Option.getD_some,Q5]
       by_cases ht : t = x.2.1
       · subst ht
         rw [if_pos rfl]; simp
       · have : ¬ x.2.1 = t := fun e => ht e.symm
         rw [if_neg ht]; simp [this]
     · have : ¬ x.1 = k := fun e => hk e.symm
       rw [if_neg hk]; simp [this]
   · rcases Qga hr with rfl | hr
     · rcases Qga hy with rfl | hy
       · exact ⟨x,by simp,rfl,rfl⟩
       · obtain ⟨z,hz,h1,h2⟩ := hrow y hy
         exact ⟨z,List.mem_append.2 (.inl hz),h1,h2⟩
     · obtain ⟨z,hz,h1,h2⟩ := h.of r hr y hy
       exact ⟨z,List.mem_append.2 (.inl hz),h1,h2⟩
   · rcases Qga hr with rfl | hr
     · exact ⟨x,by simp,rfl⟩
     · obtain ⟨z,hz,h1⟩ := h.ne r hr
       exact ⟨z,List.mem_append.2 (.inl hz),h1⟩
theorem Qfh.puts {s:Qch} {F:List Ad} (h:Qfh s F) (L:List Ad) : Qfh (dsA s L) (F ++ L) := by
 induction L using Qy with
 | h0 => rw [List.append_nil]; exact h
 | h1 L x ih => rw [Qwv,← List.append_assoc]; exact ih.put x
theorem Q9z (l:List Ev) : Qfh (Qgw l) (l.map fun e => (e.item,e.at_,Qw e)) := by
 rw [Q9y]
 exact Q5b.puts _
theorem Qfh.same {s:Qch} {F G:List Ad} (h:Qfh s F) (h1:∀ k t,adP k t F = adP k t G) (h2:∀ half now key,adW half now key F = adW half now key G) (h3:∀ x ∈ F,∃ y ∈ G,y.1 = x.1 ∧ y.2.1 = x.2.1) : Qfh s G := by
 refine ⟨h.nd,h.rn,fun k t => by rw [h.pt,h1],fun half now key => by rw [h.sm,h2],fun r hr x hx => ?_,fun r hr => ?_⟩
 · obtain ⟨y,hy,e1,e2⟩ := h.of r hr x hx
   obtain ⟨z,hz,f1,f2⟩ := h3 y hy
   exact ⟨z,hz,f1.trans e1,f2.trans e2⟩
 · obtain ⟨y,hy,e1⟩ := h.ne r hr
   obtain ⟨z,hz,f1,_⟩ := h3 y hy
   exact ⟨z,hz,f1.trans e1⟩
theorem Qfh.perm {s:Qch} {F G:List Ad} (h:Qfh s F) (hp:F.Perm G) : Qfh s G := h.same (fun _ _ => Qo0 hp) (fun _ _ _ => Qf9 hp) fun x hx => ⟨x,hp.mem_iff.1 hx,rfl,rfl⟩
theorem Q09 (k:ByteArray) (t:Int) (q:ByteArray) : ∀ {r:List (Int × Int)},(r.map (·.1)).Nodup → adP k t (r.map fun x => ((q,x.1,x.2) : Ad)) = if q = k then (Qc r t).getD 0 else 0
 | [],_ => by simp [adP,Qc]
 | x :: r,h => by
   rw [List.map_cons,List.nodup_cons] at h
   have ih := Q09 k t q h.2
   have hc : Qc (x :: r) t = if t = x.1 then some x.2 else Qc r t := by simp only [Qc]
   rw [List.map_cons,← List.singleton_append,Qb4,ih,hc]
   unfold adP
   by_cases hq : q = k
   · rw [if_pos hq,if_pos hq]
     by_cases ht : t = x.1
     · subst ht
       have : Qc r x.1 = none := by
        cases hn : Qc r x.1 with
        | none => rfl
        | some v => exact absurd (List.mem_map.2 ⟨_,Qkl hn,rfl⟩) h.1
       rw [if_pos rfl,this]; simp [hq]
     · have ht' : ¬ x.1 = t := fun e => ht e.symm
       rw [if_neg ht]; simp [ht']
   · rw [if_neg hq,if_neg hq]; simp [hq]
theorem Qtv (k:ByteArray) (t:Int) : ∀ {s:Qch},(s.map (·.1)).Nodup → (∀ r ∈ s,(r.2.map (·.1)).Nodup) → adP k t (Qpi s) = getS s k t
 | [],_,_ => by simp [Qpi,adP,getS,Qc]
 | r :: s,h,hr => by
   rw [List.map_cons,List.nodup_cons] at h
   have ih := Qtv k t h.2 fun q hq => hr q (List.mem_cons_of_mem _ hq)
   have hc : Qc (r :: s) k = if k = r.1 then some r.2 else Qc s k := by simp only [Qc]
   unfold Qpi getS at ih ⊢
   rw [List.flatMap_cons,Qb4,Q09 k t r.1 (hr r (by simp)),ih,hc]
   by_cases hk : k = r.1
   · subst hk
     have : Qc s r.1 = none := by
      cases hq : Qc s r.1 with
      | none => rfl
      | some v => exact absurd (List.mem_map.2 ⟨_,Xg hq,rfl⟩) h.1
     rw [if_pos rfl,if_pos rfl,this,Option.getD_some,Option.getD_none]
     simp [Qc]
   · have hk' : ¬ r.1 = k := fun e => hk e.symm
     rw [if_neg hk,if_neg hk',Int.zero_add]
theorem Q90 {s:Qch} {F:List Ad} (h:Qfh s F) {x:Ad} (hx:x ∈ Qpi s) : ∃ y ∈ F,y.1 = x.1 ∧ y.2.1 = x.2.1 := by
 unfold Qpi at hx
 obtain ⟨r,hr,hx⟩ := List.mem_flatMap.1 hx
 obtain ⟨y,hy,rfl⟩ := List.mem_map.1 hx
 exact h.of r hr y hy
theorem Qfh.merge {s s':Qch} {F F' L:List Ad} (h:Qfh s F) (h':Qfh s' F') (hL:L.Perm (Qpi s')) : Qfh (dsA s L) (F ++ F') := by
 refine (h.puts L).same (fun k t => ?_) (fun half now key => ?_) fun x hx => ?_
 · rw [Qb4,Qb4,Qo0 hL,Qtv k t h'.nd h'.rn,h'.pt]
 · rw [Qf8,Qf8,Qf9 hL,Q1a half now key h'.nd,h'.sm]
 · rcases List.mem_append.1 hx with hx | hx
   · exact ⟨x,List.mem_append.2 (.inl hx),rfl,rfl⟩
   · obtain ⟨y,hy,e⟩ := Q90 h' (hL.mem_iff.1 hx)
     exact ⟨y,List.mem_append.2 (.inr hy),e⟩
def psA (s:Xq) (L:List (PK × Int)) : Xq := L.foldl (fun s x => Qie s x.1 x.2) s
theorem Qxq (s:Xq) (L:List (PK × Int)) (x:PK × Int) : psA s (L ++ [x]) = Qie (psA s L) x.1 x.2 := by unfold psA; rw [List.foldl_append]; rfl
theorem Qjh (key:ByteArray) (lo hi:Int) (L M:List (PK × Int)) : paS (L ++ M) key lo hi = paS L key lo hi + paS M key lo hi := by
 unfold paS; rw [List.filter_append,List.map_append,List.sum_append]
theorem Qp8 {key:ByteArray} {lo hi:Int} {L M:List (PK × Int)} (h:L.Perm M) : paS L key lo hi = paS M key lo hi := by
 unfold paS
 exact Qia ((h.filter _).map _)
theorem Q8r (key:ByteArray) (lo hi:Int) (s:Xq) (x:PK × Int) : paS (Qie s x.1 x.2) key lo hi = paS s key lo hi + paS [x] key lo hi := by
 unfold Qie
 by_cases h0 : x.2 = 0
 · rw [if_pos h0]
   unfold paS
   simp only [List.filter_cons,List.filter_nil]
   split <;> simp [h0]
 · rw [if_neg h0,Qp6]
   congr 1
   unfold paS
   simp only [List.filter_cons,List.filter_nil]
   split <;> simp_all
end Go.Proofs.YteabekcdcphjpaaGreatDoor
