/- Several texts in one: Mg0, Mg1, Mg2, Mg3, Mg4, Mg5. -/
import Derived.Test.YteabekcdcphjpaaGreatDoorGZE
import Derived.Test.YteabekcdcphjpaaGreatDoorGI
import Derived.Test.YteabekcdcphjpaaGreatDoorGZB
import Derived.Test.YteabekcdcphjpaaGreatDoorGJ
import Derived.LaidEqlPtr
set_option linter.unusedVariables false
set_option linter.unusedSimpArgs false
namespace Go.Proofs.YteabekcdcphjpaaGreatDoor
open Go.Se Go.RowKit
theorem Q8j {κ β:Type} [DecidableEq κ] {l:List (κ × β)} (hp:l.Pairwise fun x y => x.1 ≠ y.1) {x y:κ × β} (hx:x ∈ l) (hy:y ∈ l) (h:x.1 = y.1) : x = y := by
 have h1 := Xh hp (k := x.1) (v := x.2) hx
 have h2 := Xh hp (k := y.1) (v := y.2) hy
 rw [h,h2] at h1
 exact Prod.ext h (by simpa using h1.symm)
theorem Qhe {κ β:Type} {l:List (κ × β)} (h:(l.map (·.1)).Nodup) : l.Nodup := by
 rw [List.nodup_iff_pairwise_ne,List.pairwise_map] at h
 exact h.imp fun h1 e => h1 (by rw [e])
theorem Qdi {κ β:Type} [DecidableEq κ] {Y L:List (κ × β)} (hp:L.Pairwise fun x y => x.1 ≠ y.1) (hs:∀ y ∈ Y,y ∈ L) (hk:(Y.map (·.1)).Perm (L.map (·.1))) : Y.Perm L := by
 have n0 : (L.map (·.1)).Nodup := Xu.2 hp
 have nY : (Y.map (·.1)).Nodup := hk.nodup_iff.2 n0
 refine Qcy (Qhe nY) (Qhe n0) hs fun x hx => ?_
 obtain ⟨y,hy,e⟩ := List.mem_map.1 (hk.mem_iff.2 (List.mem_map.2 ⟨x,hx,rfl⟩))
 rw [← Q8j hp (hs y hy) hx e]; exact hy
theorem Qls {κ β:Type} [DecidableEq κ] {Y L:List (κ × β)} (nY:(Y.map (·.1)).Nodup) (hs:∀ y ∈ Y,y ∈ L) : ∃ R,L.Perm (Y ++ R) := Qdz (Qhe nY) hs
theorem Qer {κ β:Type} [DecidableEq κ] {Y:List (κ × β)} {x:κ × β} (h:(Y.map (·.1)).Nodup) (hx:x.1 ∉ Y.map (·.1)) : ((Y ++ [x]).map (·.1)).Nodup := by
 rw [List.map_append,List.nodup_append]
 refine ⟨h,by simp,fun a ha b hb => ?_⟩
 have hb : b = x.1 := by simpa using hb
 rw [hb]
 exact fun e => hx (e ▸ ha)
theorem Qix {κ β:Type} [DecidableEq κ] {Y L:List (κ × β)} (hp:L.Pairwise fun x y => x.1 ≠ y.1) (h:Y.Perm L) (k:κ) : Qc Y k = Qc L k := by
 have hY : Y.Pairwise fun x y => x.1 ≠ y.1 := Xu.1 ((h.map (·.1)).nodup_iff.2 (Xu.2 hp))
 cases hq : Qc Y k with
 | some v => exact (Xh hp (h.mem_iff.1 (Xg hq))).symm
 | none =>
   cases hl : Qc L k with
   | none => rfl
   | some v =>
     have := Xh hY (h.mem_iff.2 (Xg hl))
     rw [hq] at this; cases this
theorem Qiy {κ β:Type} [DecidableEq κ] (x:κ × β) (k:κ) : ∀ Y : List (κ × β),Qc (Y ++ [x]) k = (Qc Y k).or (if k = x.1 then some x.2 else none)
 | [] => by simp [Qc]
 | y :: Y => by
   simp only [List.cons_append,Qc]
   by_cases e : k = y.1
   · rw [if_pos e,if_pos e]; rfl
   · rw [if_neg e,if_neg e]; exact Qiy x k Y
theorem Qex {κ β:Type} [DecidableEq κ] {Y:List (κ × β)} {k:κ} (h:k ∉ Y.map (·.1)) : Qc Y k = none := by
 cases hq : Qc Y k with
 | none => rfl
 | some v => exact absurd (List.mem_map.2 ⟨_,Xg hq,rfl⟩) h
theorem Qrs {κ:Type} [DecidableEq κ] {Y:List (κ × Int)} {x:κ × Int} (h:x.1 ∉ Y.map (·.1)) (k:κ) : (Qc (Y ++ [x]) k).getD 0 = (Qc Y k).getD 0 + if k = x.1 then x.2 else 0 := by
 rw [Qiy]
 by_cases e : k = x.1
 · rw [if_pos e,e,Qex h]; simp
 · rw [if_neg e,if_neg e]
   cases hq : Qc Y k <;> simp
def rowA (y:ByteArray × List (Int × Int)) : List Ad := y.2.map fun x => (y.1,x.1,x.2)
theorem Q5g (s:Qch) : Qpi s = s.flatMap rowA := rfl
theorem Q74 {s:Qch} {F:List Ad} (h:Qfh s F) {x:Ad} (hx:x ∈ Qpi s) : x.2.2 = adP x.1 x.2.1 F := by
 unfold Qpi at hx
 obtain ⟨r,hr,hx⟩ := List.mem_flatMap.1 hx
 obtain ⟨y,hy,rfl⟩ := List.mem_map.1 hx
 rw [← h.pt]
 unfold getS
 simp only
 rw [Xh (Xu.1 h.nd) (k := r.1) (v := r.2) hr,Option.getD_some,Xh (Xu.1 (h.rn r hr)) (k := y.1) (v := y.2) hy,Option.getD_some]
theorem Qla {F:List Ad} {M:Int} (h:∀ x ∈ F,0 ≤ x.2.2 ∧ x.2.2 ≤ M) (hM:0 ≤ M) (k:ByteArray) (t:Int) : 0 ≤ adP k t F ∧ adP k t F ≤ F.length * M := by
 unfold adP
 have h1 := Qc3 (fun x:Ad => x.2.2) M (F.filter fun x => decide (x.1 = k) && decide (x.2.1 = t)) fun x hx => h x (List.mem_filter.1 hx).1
 have h2 := List.length_filter_le (fun x:Ad => decide (x.1 = k) && decide (x.2.1 = t)) F
 exact ⟨h1.1,Int.le_trans h1.2 (Int.mul_le_mul_of_nonneg_right (by omega) hM)⟩
theorem Qvu {α:Type} (f:α → Int) : ∀ l : List α,(∀ x ∈ l,0 ≤ f x) → 0 ≤ (l.map f).sum
 | [],_ => by simp
 | x :: l,h => by
   have h1 := h x (by simp)
   have ih := Qvu f l fun y hy => h y (by simp [hy])
   simp only [List.map_cons,List.sum_cons]
   omega
theorem Q08 {F:List Ad} (h:∀ x ∈ F,0 ≤ x.2.2) (k:ByteArray) (t:Int) : 0 ≤ adP k t F := Qvu _ _ fun x hx => h x (List.mem_filter.1 hx).1
theorem Q10 {s:Qch} {F:List Ad} {M:Int} (h:Qfh s F) (hF:∀ x ∈ F,0 ≤ x.2.2 ∧ x.2.2 ≤ M) (hM:0 ≤ M) {x:Ad} (hx:x ∈ Qpi s) : 0 ≤ x.2.2 ∧ x.2.2 ≤ F.length * M := by
 rw [Q74 h hx]
 exact Qla hF hM _ _
theorem Qz8 {s s':Qch} {F F' L R:List Ad} {M:Int} (h:Qfh s F) (h':Qfh s' F') (hF:∀ x ∈ F,0 ≤ x.2.2 ∧ x.2.2 ≤ M) (hF':∀ x ∈ F',0 ≤ x.2.2 ∧ x.2.2 ≤ M) (hM:0 ≤ M) (hL:(L ++ R).Perm (Qpi s')) : Qcb (dsA s L) (F.length * M + F'.length * M) := fun k t => by
 have e := (h.puts L).pt k t
 rw [Qb4] at e
 have e2 : adP k t L + adP k t R = adP k t F' := by rw [← Qb4,Qo0 hL,Qtv k t h'.nd h'.rn,h'.pt]
 have p : ∀ x ∈ L ++ R,0 ≤ x.2.2 := fun x hx => (Q10 h' hF' hM (hL.mem_iff.1 hx)).1
 have p1 := Q08 (fun x hx => p x (List.mem_append.2 (.inl hx))) k t
 have p2 := Q08 (fun x hx => p x (List.mem_append.2 (.inr hx))) k t
 have b1 := Qla hF hM k t
 have b2 := Qla hF' hM k t
 unfold getS at e
 rw [e]
 omega
def adC (c:PK) (F:List (PK × Int)) : Int := ((F.filter fun x => decide (x.1 = c)).map (·.2)).sum
theorem Qbk (c:PK) (L M:List (PK × Int)) : adC c (L ++ M) = adC c L + adC c M := by
 unfold adC; rw [List.filter_append,List.map_append,List.sum_append]
theorem Qwg {c:PK} {L M:List (PK × Int)} (h:L.Perm M) : adC c L = adC c M := by
 unfold adC
 exact Qia ((h.filter _).map _)
theorem Qoz (c:PK) : ∀ {s:Xq},s.Pairwise (fun x y => x.1 ≠ y.1) → adC c s = (Qc s c).getD 0
 | [],_ => rfl
 | x :: s,h => by
   rw [List.pairwise_cons] at h
   have ih := Qoz c h.2
   rw [← List.singleton_append,Qbk,ih]
   have hc : Qc ([x] ++ s) c = if c = x.1 then some x.2 else Qc s c := by simp only [List.singleton_append,Qc]
   rw [hc]
   unfold adC
   by_cases e : c = x.1
   · have : Qc s c = none := by
      rw [Qem]
      intro y hy he
      exact h.1 y hy (by rw [he,e])
     rw [if_pos e,this,e]; simp
   · have e' : ¬ x.1 = c := fun q => e q.symm
     rw [if_neg e]; simp [e']
structure Qiw (s:Xq) (F:List (PK × Int)) : Prop where
 nd : s.Pairwise fun x y => x.1 ≠ y.1
 pt : ∀ c,(Qc s c).getD 0 = adC c F
 sm : ∀ key lo hi,paS s key lo hi = paS F key lo hi
 of : ∀ x ∈ s,∃ y ∈ F,y.1 = x.1
theorem Q56 : Qiw [] [] := ⟨List.Pairwise.nil,fun _ => rfl,fun _ _ _ => rfl,by simp⟩
theorem Qiw.put {s:Xq} {F:List (PK × Int)} (h:Qiw s F) (x:PK × Int) : Qiw (Qie s x.1 x.2) (F ++ [x]) := by
 have hsm : ∀ key lo hi,paS (Qie s x.1 x.2) key lo hi = paS (F ++ [x]) key lo hi := fun key lo hi => by rw [Q8r,h.sm,Qjh]
 by_cases h0 : x.2 = 0
 · have hp : Qie s x.1 x.2 = s := if_pos h0
   rw [hp] at hsm ⊢
   refine ⟨h.nd,fun c => ?_,hsm,fun y hy => ?_⟩
   · rw [h.pt,Qbk]
     unfold adC
     simp only [List.filter_cons,List.filter_nil]
     split <;> simp [h0]
   · obtain ⟨z,hz,e⟩ := h.of y hy
     exact ⟨z,List.mem_append.2 (.inl hz),e⟩
 · have hp : Qie s x.1 x.2 = Qz s x.1 ((Qc s x.1).getD 0 + x.2) := if_neg h0
   rw [hp] at hsm ⊢
   refine ⟨X8 h.nd,fun c => ?_,hsm,fun y hy => ?_⟩
   · rw [Qbk,← h.pt,Q5]
     unfold adC
     by_cases e : c = x.1
     · rw [if_pos e,e]; simp
     · have e' : ¬ x.1 = c := fun q => e q.symm
       rw [if_neg e]; simp [e']
   · rcases Qga hy with rfl | hy
     · exact ⟨x,by simp,rfl⟩
     · obtain ⟨z,hz,e⟩ := h.of y hy
       exact ⟨z,List.mem_append.2 (.inl hz),e⟩
theorem Qiw.puts {s:Xq} {F:List (PK × Int)} (h:Qiw s F) (L:List (PK × Int)) : Qiw (psA s L) (F ++ L) := by
 induction L using Qy with
 | h0 => rw [List.append_nil]; exact h
 | h1 L x ih => rw [Qxq,← List.append_assoc]; exact ih.put x
theorem Xa6 (width:Int) (l:List Ev) : Qiw (Qid width l) (l.map fun e => ((e.item,e.at_ / Qq width),Qw e)) := by
 induction l using Qy with
 | h0 => exact Q56
 | h1 l e ih => rw [Qmj,List.map_append]; exact ih.put ((e.item,e.at_ / Qq width),Qw e)
theorem Qiw.merge {s s':Xq} {F F' L:List (PK × Int)} (h:Qiw s F) (h':Qiw s' F') (hL:L.Perm s') : Qiw (psA s L) (F ++ F') := by
 have hp := h.puts L
 refine ⟨hp.nd,fun c => ?_,fun key lo hi => ?_,fun x hx => ?_⟩
 · rw [hp.pt,Qbk,Qbk,Qwg hL,Qoz c h'.nd,h'.pt]
 · rw [hp.sm,Qjh,Qjh,Qp8 hL,h'.sm]
 · obtain ⟨y,hy,e⟩ := hp.of x hx
   rcases List.mem_append.1 hy with hy | hy
   · exact ⟨y,List.mem_append.2 (.inl hy),e⟩
   · obtain ⟨z,hz,e2⟩ := h'.of y (hL.mem_iff.1 hy)
     exact ⟨z,List.mem_append.2 (.inr hz),e2.trans e⟩
theorem Qk9 {F:List (PK × Int)} {M:Int} (h:∀ x ∈ F,0 ≤ x.2 ∧ x.2 ≤ M) (hM:0 ≤ M) (c:PK) : 0 ≤ adC c F ∧ adC c F ≤ F.length * M := by
 unfold adC
 have h1 := Qc3 (fun x:PK × Int => x.2) M (F.filter fun x => decide (x.1 = c)) fun x hx => h x (List.mem_filter.1 hx).1
 have h2 := List.length_filter_le (fun x:PK × Int => decide (x.1 = c)) F
 exact ⟨h1.1,Int.le_trans h1.2 (Int.mul_le_mul_of_nonneg_right (by omega) hM)⟩
theorem Qtu {F:List (PK × Int)} (h:∀ x ∈ F,0 ≤ x.2) (c:PK) : 0 ≤ adC c F := Qvu _ _ fun x hx => h x (List.mem_filter.1 hx).1
theorem Q63 {F:List (PK × Int)} (h:∀ x ∈ F,0 < x.2) {y:PK × Int} (hy:y ∈ F) : 0 < adC y.1 F := by
 obtain ⟨A,B,rfl⟩ := List.append_of_mem hy
 have h1 := Qtu (F := A) (fun x hx => Int.le_of_lt (h x (by simp [hx]))) y.1
 have h2 := Qtu (F := B) (fun x hx => Int.le_of_lt (h x (by simp [hx]))) y.1
 have h3 := h y (by simp)
 rw [show A ++ y :: B = A ++ ([y] ++ B) from rfl,Qbk,Qbk]
 have e : adC y.1 [y] = y.2 := by simp [adC]
 rw [e]; omega
theorem Qiw.val {s:Xq} {F:List (PK × Int)} (h:Qiw s F) {x:PK × Int} (hx:x ∈ s) : x.2 = adC x.1 F := by
 rw [← h.pt,Xh h.nd (k := x.1) (v := x.2) hx]; rfl
theorem Qiw.len {s:Xq} {F:List (PK × Int)} (h:Qiw s F) : s.length ≤ F.length := by
 have := Qfb (V := s.map (·.1)) (E := F.map (·.1)) (Xu.2 h.nd) fun c hc => by
  obtain ⟨x,hx,rfl⟩ := List.mem_map.1 hc
  obtain ⟨y,hy,e⟩ := h.of x hx
  exact List.mem_map.2 ⟨y,hy,e⟩
 simpa using this
theorem Qiw.small {s:Xq} {F:List (PK × Int)} {M:Int} (h:Qiw s F) (hF:∀ x ∈ F,0 < x.2 ∧ x.2 ≤ M) (hM:0 ≤ M) : Qc5 s (F.length * M) := fun x hx => by
 rw [h.val hx]
 obtain ⟨y,hy,e⟩ := h.of x hx
 rw [← e]
 exact ⟨Q63 (fun x hx => (hF x hx).1) hy,(Qk9 (fun x hx => ⟨Int.le_of_lt (hF x hx).1,(hF x hx).2⟩) hM y.1).2⟩
theorem Qmk {s s':Xq} {F F' L R:List (PK × Int)} {M:Int} (h:Qiw s F) (h':Qiw s' F') (hF:∀ x ∈ F,0 < x.2 ∧ x.2 ≤ M) (hF':∀ x ∈ F',0 < x.2 ∧ x.2 ≤ M) (hM:0 ≤ M) (hL:(L ++ R).Perm s') : Qc5 (psA s L) (F.length * M + F'.length * M) ∧ (psA s L).length ≤ F.length + F'.length := by
 have hp := h.puts L
 have hs' := h'.small hF' hM
 have q : ∀ x ∈ L ++ R,0 < x.2 := fun x hx => (hs' x (hL.mem_iff.1 hx)).1
 have qL : ∀ x ∈ F ++ L,0 < x.2 := fun x hx => by
  rcases List.mem_append.1 hx with hx | hx
  · exact (hF x hx).1
  · exact q x (List.mem_append.2 (.inl hx))
 constructor
 · intro x hx
   rw [hp.val hx]
   obtain ⟨y,hy,e⟩ := hp.of x hx
   rw [← e]
   refine ⟨Q63 qL hy,?_⟩
   have e2 : adC y.1 L + adC y.1 R = adC y.1 F' := by rw [← Qbk,Qwg hL,Qoz y.1 h'.nd,h'.pt]
   have p2 := Qtu (F := R) (fun x hx => Int.le_of_lt (q x (List.mem_append.2 (.inr hx)))) y.1
   have b1 := Qk9 (fun x hx => ⟨Int.le_of_lt (hF x hx).1,(hF x hx).2⟩) hM y.1
   have b2 := Qk9 (fun x hx => ⟨Int.le_of_lt (hF' x hx).1,(hF' x hx).2⟩) hM y.1
   rw [Qbk]
   omega
 · have h1 := hp.len
   have h2 := h'.len
   have h3 := hL.length_eq
   rw [List.length_append] at h1 h3
   omega
theorem Qig (S T:List Sn) (a:ByteArray) : (Xx (S ++ T) a : Int) = Xx S a + Xx T a := by
 unfold Xx; rw [List.filter_append,List.length_append]; omega
theorem Qmg (S T:List Sn) (a b:ByteArray) : (Qbv (S ++ T) a b : Int) = Qbv S a b + Qbv T a b := by
 unfold Qbv; rw [List.filter_append,List.length_append]; omega
theorem Qvh {S T:List Sn} (h:S.Perm T) (a:ByteArray) : Xx S a = Xx T a := by
 unfold Xx; exact (h.filter _).length_eq
theorem Q23 {S T:List Sn} (h:S.Perm T) (a b:ByteArray) : Qbv S a b = Qbv T a b := by
 unfold Qbv; exact (h.filter _).length_eq
theorem TabIs.merge {sg sg' sg2:List (ByteArray × Int)} {ct ct' ct2:Qg5} {S T:List Sn} (h:TabIs sg ct S) (h':TabIs sg' ct' T) (hp:Qq6 sg2 ct2) (h1:∀ a,(Qc sg2 a).getD 0 = (Qc sg a).getD 0 + (Qc sg' a).getD 0)
 (h2:∀ a b,(Qc ((Qc ct2 a).getD []) b).getD 0 = (Qc ((Qc ct a).getD []) b).getD 0 + (Qc ((Qc ct' a).getD []) b).getD 0) : TabIs sg2 ct2 (S ++ T) := by
 refine ⟨hp,fun a => by rw [h1,h.sg,h'.sg,Qig],fun a b => ?_⟩
 rw [h2,h.ct,h'.ct]
 by_cases e : a = b
 · rw [if_pos e,if_pos e,if_pos e]; rfl
 · rw [if_neg e,if_neg e,if_neg e,Qmg]
theorem TabIs.perm {sg:List (ByteArray × Int)} {ct:Qg5} {S T:List Sn} (h:TabIs sg ct S) (hp:S.Perm T) : TabIs sg ct T :=
 ⟨h.pos,fun a => by rw [h.sg,Qvh hp],fun a b => by rw [h.ct,Q23 hp]⟩
end Go.Proofs.YteabekcdcphjpaaGreatDoor
namespace Go.Proofs.YteabekcdcphjpaaGreatDoor
open Go.Se Go.RowKit Go.Shelf
theorem Qrk {w:World} {b:Nat} {L:List (ByteArray × Value)} (hm:MapAt w b Value.string L) : Cal Tryz.prog 148 [.map (some b)] w fun r w' => ∃ b',r = .map (some b') ∧ MapAt w' b' Value.string L ∧ w.heap.size ≤ b' ∧ Ext w w' :=
 Qgc Tryz.clone148 ⟨_,Tryz.func148,rfl,rfl⟩ hm
theorem Qgh {κ:Type} [DecidableEq κ] {enc:κ → Value} {w w1:World} {r b:Nat} {L vs:List (κ × Value)} {S:Nat → Prop} (hi:Iter w r b enc L vs) (hM:Mod S w w1) (hb:¬ S b) (hr:¬ S r) : Iter w1 r b enc L vs :=
 hi.keep (hM.block b hi.map.lt hb) (hM.block r hi.lt hr)
theorem Qew {κ β:Type} (f:β → Value) (l:List (κ × β)) : (Xk f l).map (·.1) = l.map (·.1) := by
 unfold Xk; rw [List.map_map]; rfl
theorem Qlw {w:World} {b:Nat} {m:List (Int × Int)} (h:MapAt w b vi (Xk vi m)) : m.Pairwise fun x y => x.1 ≠ y.1 := by
 have := h.keys
 unfold Xk at this
 rw [List.pairwise_map] at this
 exact this
theorem Qfj.nd {w:World} {S:Nat → Prop} {p:Nat} {half n:Int} {s:Qch} (h:Qfj w S p half n s) : (s.map (·.1)).Nodup ∧ ∀ r ∈ s,(r.2.map (·.1)).Nodup := by
 obtain ⟨bm,hC⟩ := h
 obtain ⟨L,col,hm⟩ := hC.sums
 have hk := hm.keys
 rw [← hm.eq]
 refine ⟨?_,fun r hr => ?_⟩
 · rw [List.map_map]
   exact Xu.2 hk
 · obtain ⟨y,hy,rfl⟩ := List.mem_map.1 hr
   exact Xu.2 (Qlw (hm.own y hy).2)
theorem Qfh.copy {s s':Qch} {F:List Ad} (h:Qfh s F) (hs:Q4u s' s) (hn:(s'.map (·.1)).Nodup) : Qfh s' F := by
 have hin : ∀ r ∈ s',r ∈ s := fun r hr => by
  have h1 := Xh (Xu.1 hn) (k := r.1) (v := r.2) hr
  rw [hs r.1] at h1
  exact Xg h1
 refine ⟨hn,fun r hr => h.rn r (hin r hr),fun k t => ?_,fun half now key => ?_,fun r hr => h.of r (hin r hr),fun r hr => h.ne r (hin r hr)⟩
 · rw [← h.pt]; unfold getS; rw [hs k]
 · rw [← h.sm]; rw [hs key]
def gSM (x:ByteArray × (Nat × List (Int × Int))) : ByteArray × Value := (x.1,Value.map (some x.2.1))
def Qzz (y:ByteArray × (Nat × List (Int × Int))) : List Ad := rowA (y.1,y.2.2)
set_option maxHeartbeats 4000000 in
theorem Qr9 (w:World) (S S':Nat → Prop) (p o:Nat) (half n n':Int) (s s':Qch) (h:Qfj w S p half n s) (h':Qfj w S' o half n' s') (hd:∀ k,S k → ¬ S' k) (hn:0 ≤ n ∧ 0 ≤ n' ∧ n + n' ≤ 1048576) (N:Int)
 (hN:∀ L R,(L ++ R).Perm (Qpi s') → Qcb (dsA s L) N) (hNb:N < 1000000000000000) (hx:∀ x ∈ Qpi s',0 ≤ x.2.2 ∧ x.2.2 < 1000000000000000) :
 Cal Tryz.prog 76 [.pointer (some ⟨p,0,none⟩),.pointer (some ⟨o,0,none⟩)] w fun r w' => r = .bool true ∧ ∃ L,L.Perm (Qpi s') ∧ Qfj w' (Grow S w) p half (n + n') (dsA s L) ∧ Mod S w w' := by
 obtain ⟨bm,hC⟩ := h
 obtain ⟨bo,hO⟩ := h'
 obtain ⟨L0,col,hm⟩ := hO.sums
 have hph := hC.head
 have hoh := hO.head
 have hsums := hC.sums
 have hSp := hC.mine
 have hop : o ≠ p := fun e => hd p hSp (e ▸ hO.mine)
 have hmap := hm.map
 have hboS : S' bo := hm.mine.1
 have hrows : ∀ y ∈ L0,S' y.2.1 ∧ MapAt w y.2.1 vi (Xk vi y.2.2) := fun y hy => ⟨(hm.own y hy).1.1.1,(hm.own y hy).2⟩
 have hkeys := hm.keys
 have hent : Qpi s' = L0.flatMap Qzz := by
  rw [Q5g,← hm.eq,List.flatMap_map]; rfl
 clear hm hC hO
 refine Fi Tryz.func76 rfl _ rfl rfl ?_;conv=>whnf
 refine Dr .same [0,1,2,3,4,5,6,7,8,9,10,11,12,13,14,15,16,17,18,19,20,21,22,23,24] [] ?_;conv=>whnf
 have hxd : Ext w w.drew := (Ext.refl w).drew
 have hph1 := hph.ext hxd
 have hoh1 := hoh.ext hxd
 generalize w.drew = w1 at hxd hph1 hoh1 ⊢
 refine ⟨_,Qad Xan _ _ _,?_⟩; (conv=>whnf);repeat(refine Sg ?_;(conv=>whnf))
 refine ⟨_,fun _ => hoh1.one rfl,?_⟩; (conv=>whnf);repeat(refine Sg ?_;(conv=>whnf))
 refine ⟨_,fun _ => hph1.one rfl,?_⟩; (conv=>whnf);repeat(refine Sg ?_;(conv=>whnf))
 refine ⟨_,fun _ => hph1.one rfl,?_⟩; (conv=>whnf);repeat(refine Sg ?_;(conv=>whnf))
 refine ⟨_,fun _ => hoh1.one rfl,?_⟩; (conv=>whnf);repeat(refine Sg ?_;(conv=>whnf))
 refine ⟨n + n',fun _ => wrap_eq rfl ⟨by omega,by omega⟩,?_⟩; (conv=>whnf);repeat(refine Sg ?_;(conv=>whnf))
 constructor
 · intro hq
   exfalso
   simp at hq
   omega
 intro _
 (conv=>whnf);repeat(refine Sg ?_;(conv=>whnf))
 refine Dr .same [0,1,2,3,4,5,6,7,8,9,10] [11] ?_;conv=>whnf
 have hxd2 : Ext w w1.drew := hxd.drew
 replace hph1 : At w1.drew p _ _ := hph1
 replace hoh1 : At w1.drew o _ _ := hoh1
 generalize w1.drew = w2 at hxd2 hph1 hoh1 ⊢
 refine ⟨_,hph1.one rfl,?_⟩; (conv=>whnf);repeat(refine Sg ?_;(conv=>whnf))
 refine ⟨_,hoh1.one rfl,?_⟩; (conv=>whnf);repeat(refine Sg ?_;(conv=>whnf))
 refine ⟨n + n',wrap_eq rfl ⟨by omega,by omega⟩,?_⟩; (conv=>whnf);repeat(refine Sg ?_;(conv=>whnf))
 refine Qj Qa (e := ty3) rfl hph1 rfl rfl rfl (by simp [Qm,Value.oneCell']) fun w3 h3 ho3 => ?_
 have hoh3 := ho3.at_ hoh1 hop
 have hm3 : MapOf Value.string Qnm w3 (fun k => S k ∧ k ≠ p) bm s := hsums.keep Q8 fun k hk hs => ⟨(ho3.block k hs.2).trans (hxd2.block k hk),hs⟩
 have hM3 : Mod S w w3 := (Mod.of_ext hxd2).trans (Ql ho3 hSp)
 have hmap3 : MapAt w3 bo Value.string (L0.map gSM) := hmap.keep (hM3.block bo hmap.lt fun h => hd _ h hboS)
 clear hph1 hoh1 ho3 hxd2 hxd hsums
 (conv=>whnf);repeat(refine Sg ?_;(conv=>whnf))
 refine ⟨_,hoh3.one rfl,?_⟩; (conv=>whnf);repeat(refine Sg ?_;(conv=>whnf))
 refine (Qrk hmap3).mono ?_
 rintro _ w4 ⟨b1,rfl,hb1,hb1ge,hx4⟩
 (conv=>whnf);repeat(refine Sg ?_;(conv=>whnf))
 refine map_range Qte hb1 fun w5 hi5 hx5 => ?_
 generalize hr : w4.heap.size = r at hi5 ⊢
 have s3 := hM3.size
 have s4 := hx4.size
 have s5 := hx5.size
 have hrlt := Qe2 hi5
 have hb1lt := hb1.lt
 have hx35 := hx4.trans hx5
 have hM5 : Mod S w w5 := hM3.trans (Mod.of_ext hx35)
 have hC5 : Qfj w5 (fun k => (S k ∨ w.heap.size ≤ k) ∧ k ≠ b1 ∧ k ≠ r) p half (n + n') (dsA s []) := by
  refine Qfj.keep (S := fun k => S k) (w := w3) ⟨bm,hSp,h3,hm3⟩ fun k hk hs => ⟨hx35.block k hk,.inl hs,by omega,by omega⟩
 clear hm3 hmap3 hoh3 h3
 (conv=>whnf);repeat(refine Sg ?_;(conv=>whnf))
 refine Qg Qa (fun (q:List (ByteArray × Value) × List (ByteArray × (Nat × List (Int × Int))) × List Ad) w' => Mod S w w' ∧ w5.heap.size ≤ w'.heap.size ∧ Iter w' r b1 Value.string (L0.map gSM) q.1 ∧ q.1 = q.2.1.map gSM ∧ (∀ y ∈ q.2.1,y ∈ L0) ∧ (q.2.1.map (·.1)).Nodup ∧ q.2.2.Perm (q.2.1.flatMap Qzz) ∧ Qfj w' (fun k => (S k ∨ w.heap.size ≤ k) ∧ k ≠ b1 ∧ k ≠ r) p half (n + n') (dsA s q.2.2))
  (fun _ => [(0,.pointer (some ⟨p,0,none⟩)),(50,.pointer (some ⟨r,0,none⟩))]) (fun q => L0.length - q.1.length) ([],[],[]) ⟨hM5,Nat.le_refl _,hi5,rfl,by simp,by simp,List.Perm.refl _,hC5⟩ ⟨rfl,rfl,trivial⟩ ?_
 clear hi5 hC5 hM5
 rintro ⟨vs,Y,L⟩ w6 ⟨hM6,s6,hi6,hvs,hYs,hYn,hLY,hC6⟩
 simp only at hi6 hvs hYs hYn hLY hC6
 have hgm : ∀ Z : List (ByteArray × (Nat × List (Int × Int))),(Z.map gSM).map (·.1) = Z.map (·.1) := fun Z => by rw [List.map_map]; rfl
 (conv=>whnf);repeat(refine Sg ?_;(conv=>whnf))
 refine Qao hi6 (fun hp => ?_) (fun x w7 hin hnew hlt hi7 ho7 hen => ?_)
 · (conv=>whnf);repeat(refine Sg ?_;(conv=>whnf))
   constructor
   · intro hh; cases hh
   intro _
   (conv=>whnf);repeat(refine Sg ?_;(conv=>whnf))
   have hYp : Y.Perm L0 := Qdi hkeys hYs (by
    have := hp.map (fun x:ByteArray × Value => x.1)
    rw [hvs,hgm,hgm] at this
    exact this)
   refine ⟨rfl,L,?_,hC6.keep fun k _ hs => ⟨rfl,hs.1⟩,hM6⟩
   rw [hent]
   exact hLY.trans (hYp.flatMap_right _)
 · obtain ⟨y,hy,rfl⟩ : ∃ y ∈ L0,x = gSM y := by
    obtain ⟨y,hy,he⟩ := List.mem_map.1 hin
    exact ⟨y,hy,he.symm⟩
   have hM7 : Mod S w w7 := ⟨ho7.os.trans hM6.os,ho7.tape.trans hM6.tape,ho7.output.trans hM6.output,by rw [ho7.size]; exact hM6.size,fun k hk hs => (ho7.block k (by omega)).trans (hM6.block k hk hs)⟩
   have s7 : w5.heap.size ≤ w7.heap.size := by rw [ho7.size]; exact s6
   have hC7 : Qfj w7 (fun k => (S k ∨ w.heap.size ≤ k) ∧ k ≠ b1 ∧ k ≠ r) p half (n + n') (dsA s L) := hC6.keep fun k hk hs => ⟨ho7.block k hs.2.2,hs⟩
   have hyn : y.1 ∉ Y.map (·.1) := fun hk => by
    obtain ⟨v,hv,he⟩ := List.mem_map.1 hk
    exact hnew (gSM v) (by rw [hvs]; exact List.mem_map.2 ⟨v,hv,rfl⟩) he
   have hYn2 := Qer hYn hyn
   have hYs2 : ∀ z ∈ Y ++ [y],z ∈ L0 := fun z hz => by
    rcases List.mem_append.1 hz with hz | hz
    · exact hYs z hz
    · rw [List.mem_singleton.1 hz]; exact hy
   obtain ⟨R0,hR0⟩ := Qls hYn2 hYs2
   have hR0 : (L ++ (Qzz y ++ R0.flatMap Qzz)).Perm (Qpi s') := by
    rw [hent]
    refine List.Perm.trans ?_ (hR0.flatMap_right Qzz).symm
    rw [List.flatMap_append,List.flatMap_append,List.flatMap_singleton,List.append_assoc]
    exact hLY.append_right _
   obtain ⟨hyS,hrow0⟩ := hrows y hy
   have hrow := hrow0.keep (hM7.block _ hrow0.lt fun h => hd _ h hyS)
   have hykeys := Qlw hrow0
   have hylt := hrow0.lt
   have hlt : vs.length < L0.length := by simpa using hlt
   (conv=>whnf);repeat(refine Sg ?_;(conv=>whnf))
   constructor
   · intro _
     (conv=>whnf);repeat(refine Sg ?_;(conv=>whnf))
     refine Xc (hen w7 rfl rfl) ?_
     (conv=>whnf);repeat(refine Sg ?_;(conv=>whnf))
     refine (Qjw hrow).mono ?_
     rintro _ w8 ⟨b2,rfl,hb2,hb2ge,hx8⟩
     (conv=>whnf);repeat(refine Sg ?_;(conv=>whnf))
     refine map_range Qv6 hb2 fun w9 hi9 hx9 => ?_
     generalize hr2 : w8.heap.size = r2 at hi9 ⊢
     have s8 := hx8.size
     have s9 := hx9.size
     have hr2lt := Qe2 hi9
     have hb2lt := hb2.lt
     have hx79 := hx8.trans hx9
     have hM9 : Mod S w w9 := hM7.trans (Mod.of_ext hx79)
     have hi9o := hi7.ext hx79
     have hC9 : Qfj w9 (fun k => ((S k ∨ w.heap.size ≤ k) ∧ k ≠ b1 ∧ k ≠ r) ∧ k ≠ b2 ∧ k ≠ r2) p half (n + n') (dsA s L) := hC7.keep fun k hk hs => ⟨hx79.block k hk,hs,by omega,by omega⟩
     clear hC7 hi7 hb2 hrow hM7 hx8 hx9 hx79
     (conv=>whnf);repeat(refine Sg ?_;(conv=>whnf))
     refine Qg Qa (fun (q:List (Int × Value) × List (Int × Int)) w' => Mod S w w' ∧ w9.heap.size ≤ w'.heap.size ∧ Iter w' r2 b2 vi (Xk vi y.2.2) q.1 ∧ q.1 = Xk vi q.2 ∧ (∀ z ∈ q.2,z ∈ y.2.2) ∧ (q.2.map (·.1)).Nodup ∧ Iter w' r b1 Value.string (L0.map gSM) (vs ++ [gSM y]) ∧ Qfj w' (fun k => ((S k ∨ w.heap.size ≤ k) ∧ k ≠ b1 ∧ k ≠ r) ∧ k ≠ b2 ∧ k ≠ r2) p half (n + n') (dsA s (L ++ q.2.map fun z => (y.1,z.1,z.2))))
      (fun _ => [(0,.pointer (some ⟨p,0,none⟩)),(50,.pointer (some ⟨r,0,none⟩)),(5,.string y.1),(58,.pointer (some ⟨r2,0,none⟩))]) (fun q => y.2.2.length - q.1.length) ([],[]) ⟨hM9,Nat.le_refl _,hi9,rfl,by simp,by simp,hi9o,by simpa using hC9⟩ ⟨rfl,rfl,rfl,rfl,trivial⟩ ?_
     clear hi9 hi9o hC9 hM9
     rintro ⟨vs2,Z⟩ wa ⟨hMa,sa,hia,hvs2,hZs,hZn,hiao,hCa⟩
     simp only at hia hvs2 hZs hZn hCa
     (conv=>whnf);repeat(refine Sg ?_;(conv=>whnf))
     refine Qao hia (fun hp => ?_) (fun x2 wb hin2 hnew2 hlt2 hib hob hen2 => ?_)
     · (conv=>whnf);repeat(refine Sg ?_;(conv=>whnf))
       constructor
       · intro hh; cases hh
       intro _
       (conv=>whnf);repeat(refine Sg ?_;(conv=>whnf))
       have hZp : Z.Perm y.2.2 := Qdi hykeys hZs (by
        have := hp.map (fun x:Int × Value => x.1)
        rw [hvs2,Qew,Qew] at this
        exact this)
       refine ⟨(vs ++ [gSM y],Y ++ [y],L ++ Z.map fun z => (y.1,z.1,z.2)),by simp; omega,⟨hMa,by (try simp only); omega,hiao,by (try simp only); rw [hvs,List.map_append]; rfl,hYs2,hYn2,?_,hCa.keep fun k _ hs => ⟨rfl,hs.1⟩⟩,⟨rfl,rfl,trivial⟩⟩
       simp only
       rw [List.flatMap_append,List.flatMap_singleton]
       exact hLY.append (hZp.map _)
     · obtain ⟨z,hz,rfl⟩ : ∃ z ∈ y.2.2,x2 = (z.1,vi z.2) := by
        unfold Xk at hin2
        obtain ⟨z,hz,he⟩ := List.mem_map.1 hin2
        exact ⟨z,hz,he.symm⟩
       have hMb : Mod S w wb := ⟨hob.os.trans hMa.os,hob.tape.trans hMa.tape,hob.output.trans hMa.output,by rw [hob.size]; exact hMa.size,fun k hk hs => (hob.block k (by omega)).trans (hMa.block k hk hs)⟩
       have sb : w9.heap.size ≤ wb.heap.size := by rw [hob.size]; exact sa
       have hCb := hCa.keep (w1 := wb) (S' := fun k => ((S k ∨ w.heap.size ≤ k) ∧ k ≠ b1 ∧ k ≠ r) ∧ k ≠ b2 ∧ k ≠ r2) fun k hk hs => ⟨hob.block k hs.2.2,hs⟩
       have hibo := hiao.keep (hob.block b1 (by omega)) (hob.block r (by omega))
       have hzn : z.1 ∉ Z.map (·.1) := fun hk => by
        obtain ⟨v,hv,he⟩ := List.mem_map.1 hk
        exact hnew2 (v.1,vi v.2) (by rw [hvs2]; unfold Xk; exact List.mem_map.2 ⟨v,hv,rfl⟩) he
       have hZn2 := Qer hZn hzn
       have hZs2 : ∀ u ∈ Z ++ [z],u ∈ y.2.2 := fun u hu => by
        rcases List.mem_append.1 hu with hu | hu
        · exact hZs u hu
        · rw [List.mem_singleton.1 hu]; exact hz
       obtain ⟨R2,hR2⟩ := Qls hZn hZs
       have hsmall := hN (L ++ Z.map fun z => (y.1,z.1,z.2)) ((R2.map fun z => (y.1,z.1,z.2)) ++ R0.flatMap Qzz) (by
        refine List.Perm.trans ?_ hR0
        rw [List.append_assoc,← List.append_assoc (Z.map _)]
        refine List.Perm.append_left _ (List.Perm.append_right _ ?_)
        rw [← List.map_append]
        exact (hR2.map _).symm)
       have hzx := hx (y.1,z.1,z.2) (hR0.mem_iff.1 (by
        refine List.mem_append.2 (.inr (List.mem_append.2 (.inl ?_)))
        exact List.mem_map.2 ⟨z,hz,rfl⟩))
       have hlt2 : vs2.length < y.2.2.length := by simpa [Xk] using hlt2
       have hsn : dsA s (L ++ (Z ++ [z]).map fun z => (y.1,z.1,z.2)) = Qiv (dsA s (L ++ Z.map fun z => (y.1,z.1,z.2))) y.1 z.1 z.2 := by
        rw [List.map_append,← List.append_assoc]
        exact Qwv s _ (y.1,z.1,z.2)
       generalize hLz : dsA s (L ++ (Z ++ [z]).map fun z => (y.1,z.1,z.2)) = s2 at hsn
       (conv=>whnf);repeat(refine Sg ?_;(conv=>whnf))
       constructor
       · intro _
         (conv=>whnf);repeat(refine Sg ?_;(conv=>whnf))
         refine Xc (hen2 wb rfl rfl) ?_
         (conv=>whnf);repeat(refine Sg ?_;(conv=>whnf))
         refine (Qlj wb _ p half (n + n') _ hCb y.1 z.1 z.2 N hsmall hNb hzx).mono ?_
         rintro _ wc ⟨rfl,hCc,hMc⟩
         rw [← hsn] at hCc
         (conv=>whnf);repeat(refine Sg ?_;(conv=>whnf))
         refine ⟨(vs2 ++ [(z.1,vi z.2)],Z ++ [z]),by simp; omega,⟨Qn hMb (hMc.mono fun k _ hs => hs.1.1),Nat.le_trans sb hMc.size,Qgh hib hMc (fun h => h.2.1 rfl) (fun h => h.2.2 rfl),by (try simp only); rw [hvs2]; unfold Xk; rw [List.map_append]; rfl,hZs2,hZn2,Qgh hibo hMc (fun h => h.1.2.1 rfl) (fun h => h.1.2.2 rfl),?_⟩,⟨rfl,rfl,rfl,rfl,trivial⟩⟩
         simp only
         rw [hLz]
         refine hCc.keep fun k hk hs => ⟨rfl,?_⟩
         rcases hs with hs | hs
         · exact hs
         · exact ⟨⟨.inr (by omega),by omega,by omega⟩,by omega,by omega⟩
       · intro hh; cases hh
   · intro hh; cases hh
def gCM (x:PK × Int) : PK × Value := (x.1,vi x.2)
set_option maxHeartbeats 4000000 in
theorem Qsa (w:World) (S S':Nat → Prop) (p o:Nat) (width n n':Int) (s s':Xq) (h:Qgv w S p width n s) (h':Qgv w S' o width n' s') (hd:∀ k,S k → ¬ S' k) (hn:0 ≤ n ∧ 0 ≤ n' ∧ n + n' ≤ 1048576) (N:Int) (hN0:0 ≤ N)
 (hN:∀ L R,(L ++ R).Perm s' → Qc5 (psA s L) N ∧ (psA s L).length < 100000000) (hNb:N < 1000000000000000) (hx:∀ x ∈ s',0 ≤ x.2 ∧ x.2 < 1000000000000000) :
 Cal Tryz.prog 79 [.pointer (some ⟨p,0,none⟩),.pointer (some ⟨o,0,none⟩)] w fun r w' => r = .bool true ∧ ∃ L,L.Perm s' ∧ Qgv w' (Grow S w) p width (n + n') (psA s L) ∧ Mod S w w' := by
 obtain ⟨bs,br,L1,R1,hP⟩ := h
 obtain ⟨bs',br',L1',R1',hO⟩ := h'
 have hph := hP.head
 have hoh := hO.head
 have hSp := hP.mine
 have hop : o ≠ p := fun e => hd p hSp.1 (e ▸ hO.mine.1)
 have hmap := hO.sums
 have hboS : S' bs' := hO.mine.2.1
 have hkeys : s'.Pairwise fun x y => x.1 ≠ y.1 := by
  have := hmap.keys
  unfold Xk at this
  rw [List.pairwise_map] at this
  exact this
 clear hO
 refine Fi Tryz.func79 rfl _ rfl rfl ?_;conv=>whnf
 refine Dr .same [0,1,2,3,4,5,6,7,8,9,10,11,12,13,14,15,16,17,18,19,20,21,22,23,24] [] ?_;conv=>whnf
 have hxd : Ext w w.drew := (Ext.refl w).drew
 have hph1 := hph.ext hxd
 have hoh1 := hoh.ext hxd
 generalize w.drew = w1 at hxd hph1 hoh1 ⊢
 refine ⟨_,Qad Xao _ _ _,?_⟩; (conv=>whnf);repeat(refine Sg ?_;(conv=>whnf))
 refine ⟨_,fun _ => hoh1.one rfl,?_⟩; (conv=>whnf);repeat(refine Sg ?_;(conv=>whnf))
 refine ⟨_,fun _ => hph1.one rfl,?_⟩; (conv=>whnf);repeat(refine Sg ?_;(conv=>whnf))
 refine ⟨_,fun _ => hph1.one rfl,?_⟩; (conv=>whnf);repeat(refine Sg ?_;(conv=>whnf))
 refine ⟨_,fun _ => hoh1.one rfl,?_⟩; (conv=>whnf);repeat(refine Sg ?_;(conv=>whnf))
 refine ⟨n + n',fun _ => wrap_eq rfl ⟨by omega,by omega⟩,?_⟩; (conv=>whnf);repeat(refine Sg ?_;(conv=>whnf))
 constructor
 · intro hq
   exfalso
   simp at hq
   omega
 intro _
 (conv=>whnf);repeat(refine Sg ?_;(conv=>whnf))
 refine Dr .same [0,1,2,3,4,5,6,7,8,9,10] [11] ?_;conv=>whnf
 have hxd2 : Ext w w1.drew := hxd.drew
 replace hph1 : At w1.drew p _ _ := hph1
 replace hoh1 : At w1.drew o _ _ := hoh1
 generalize w1.drew = w2 at hxd2 hph1 hoh1 ⊢
 refine ⟨_,hph1.one rfl,?_⟩; (conv=>whnf);repeat(refine Sg ?_;(conv=>whnf))
 refine ⟨_,hoh1.one rfl,?_⟩; (conv=>whnf);repeat(refine Sg ?_;(conv=>whnf))
 refine ⟨n + n',wrap_eq rfl ⟨by omega,by omega⟩,?_⟩; (conv=>whnf);repeat(refine Sg ?_;(conv=>whnf))
 refine Qj Qa (e := ty3) rfl hph1 rfl rfl rfl (by simp [Qm,Value.oneCell']) fun w3 h3 ho3 => ?_
 have hoh3 := ho3.at_ hoh1 hop
 have hM3 : Mod S w w3 := (Mod.of_ext hxd2).trans (Ql ho3 hSp.1)
 have hP3 : Qgv w3 S p width (n + n') s := ⟨bs,br,L1,fun k => R1 k ∧ k < w.heap.size,hSp,h3,hP.sums.keep ((ho3.block bs hSp.2.2).trans (hxd2.block bs hP.sums.lt)),hP.rows.keep fun k hk1 hk2 => ⟨(ho3.block k (hP.rset k hk2).2.1).trans (hxd2.block k hk1),hk2,hk1⟩,fun k hk => hP.rset k hk.1⟩
 have hmap3 : MapAt w3 bs' cel (s'.map gCM) := hmap.keep (hM3.block bs' hmap.lt fun h => hd _ h hboS)
 clear hph1 hoh1 ho3 hxd2 hxd hP h3
 (conv=>whnf);repeat(refine Sg ?_;(conv=>whnf))
 refine ⟨_,hoh3.one rfl,?_⟩; (conv=>whnf);repeat(refine Sg ?_;(conv=>whnf))
 refine (Qfs hmap3).mono ?_
 rintro _ w4 ⟨b1,rfl,hb1,hb1ge,hx4⟩
 (conv=>whnf);repeat(refine Sg ?_;(conv=>whnf))
 refine map_range Q6u hb1 fun w5 hi5 hx5 => ?_
 generalize hr : w4.heap.size = r at hi5 ⊢
 have s3 := hM3.size
 have s4 := hx4.size
 have s5 := hx5.size
 have hrlt := Qe2 hi5
 have hb1lt := hb1.lt
 have hx35 := hx4.trans hx5
 have hM5 : Mod S w w5 := hM3.trans (Mod.of_ext hx35)
 have hC5 : Qgv w5 (fun k => (S k ∨ w.heap.size ≤ k) ∧ k ≠ b1 ∧ k ≠ r) p width (n + n') (psA s []) := hP3.keep fun k hk hs => ⟨hx35.block k hk,.inl hs,by omega,by omega⟩
 clear hP3 hmap3 hoh3
 (conv=>whnf);repeat(refine Sg ?_;(conv=>whnf))
 refine Qg Qa (fun (q:List (PK × Value) × List (PK × Int)) w' => Mod S w w' ∧ w5.heap.size ≤ w'.heap.size ∧ Iter w' r b1 cel (s'.map gCM) q.1 ∧ q.1 = q.2.map gCM ∧ (∀ y ∈ q.2,y ∈ s') ∧ (q.2.map (·.1)).Nodup ∧ Qgv w' (fun k => (S k ∨ w.heap.size ≤ k) ∧ k ≠ b1 ∧ k ≠ r) p width (n + n') (psA s q.2))
  (fun _ => [(0,.pointer (some ⟨p,0,none⟩)),(48,.pointer (some ⟨r,0,none⟩))]) (fun q => s'.length - q.1.length) ([],[]) ⟨hM5,Nat.le_refl _,hi5,rfl,by simp,by simp,hC5⟩ ⟨rfl,rfl,trivial⟩ ?_
 clear hi5 hC5 hM5
 rintro ⟨vs,Y⟩ w6 ⟨hM6,s6,hi6,hvs,hYs,hYn,hC6⟩
 simp only at hi6 hvs hYs hYn hC6
 have hgm : ∀ Z : List (PK × Int),(Z.map gCM).map (·.1) = Z.map (·.1) := fun Z => by rw [List.map_map]; rfl
 (conv=>whnf);repeat(refine Sg ?_;(conv=>whnf))
 refine Qao hi6 (fun hp => ?_) (fun x w7 hin hnew hlt hi7 ho7 hen => ?_)
 · (conv=>whnf);repeat(refine Sg ?_;(conv=>whnf))
   constructor
   · intro hh; cases hh
   intro _
   (conv=>whnf);repeat(refine Sg ?_;(conv=>whnf))
   have hYp : Y.Perm s' := Qdi hkeys hYs (by
    have := hp.map (fun x:PK × Value => x.1)
    rw [hvs,hgm,hgm] at this
    exact this)
   exact ⟨rfl,Y,hYp,hC6.keep fun k _ hs => ⟨rfl,hs.1⟩,hM6⟩
 · obtain ⟨y,hy,rfl⟩ : ∃ y ∈ s',x = gCM y := by
    obtain ⟨y,hy,he⟩ := List.mem_map.1 hin
    exact ⟨y,hy,he.symm⟩
   have hM7 : Mod S w w7 := ⟨ho7.os.trans hM6.os,ho7.tape.trans hM6.tape,ho7.output.trans hM6.output,by rw [ho7.size]; exact hM6.size,fun k hk hs => (ho7.block k (by omega)).trans (hM6.block k hk hs)⟩
   have s7 : w5.heap.size ≤ w7.heap.size := by rw [ho7.size]; exact s6
   have hC7 : Qgv w7 (fun k => (S k ∨ w.heap.size ≤ k) ∧ k ≠ b1 ∧ k ≠ r) p width (n + n') (psA s Y) := hC6.keep fun k hk hs => ⟨ho7.block k hs.2.2,hs⟩
   have hyn : y.1 ∉ Y.map (·.1) := fun hk => by
    obtain ⟨v,hv,he⟩ := List.mem_map.1 hk
    exact hnew (gCM v) (by rw [hvs]; exact List.mem_map.2 ⟨v,hv,rfl⟩) he
   have hYn2 := Qer hYn hyn
   have hYs2 : ∀ z ∈ Y ++ [y],z ∈ s' := fun z hz => by
    rcases List.mem_append.1 hz with hz | hz
    · exact hYs z hz
    · rw [List.mem_singleton.1 hz]; exact hy
   obtain ⟨R0,hR0⟩ := Qls hYn hYs
   have hsmall := hN Y R0 hR0.symm
   have hyx := hx y hy
   have hlt : vs.length < s'.length := by simpa using hlt
   have hsn : psA s (Y ++ [y]) = Qie (psA s Y) y.1 y.2 := Qxq s Y y
   (conv=>whnf);repeat(refine Sg ?_;(conv=>whnf))
   constructor
   · intro _
     (conv=>whnf);repeat(refine Sg ?_;(conv=>whnf))
     refine Xc (hen w7 rfl rfl) ?_
     (conv=>whnf);repeat(refine Sg ?_;(conv=>whnf))
     intro b8 w8 hn8; (conv=>whnf);repeat(refine Sg ?_;(conv=>whnf))
     refine Qdg Qa (e := ty135) (v := cel y.1) (off := 0) (by rfl) hn8.At (by rfl) (by decide) (by simp [Qm,cel,Q4q,Value.oneCell']) fun w9 hat hon => ?_
     have hat : At w9 b8 135 (Q4q y.1) := hat
     have e8 := hn8.block
     have hx9 : Ext w7 w9 := hon.ext hn8.ext (by omega)
     have s9 := hx9.size
     have hM9 : Mod S w w9 := hM7.trans (Mod.of_ext hx9)
     have hC9 := hC7.keep (w1 := w9) (S' := fun k => ((S k ∨ w.heap.size ≤ k) ∧ k ≠ b1 ∧ k ≠ r) ∧ k < b8) fun k hk hs => ⟨hx9.block k hk,hs,by omega⟩
     have hi9 := hi7.ext hx9
     (conv=>whnf);repeat(refine Sg ?_;(conv=>whnf))
     refine ⟨Q4q y.1,⟨rfl,hat.all⟩,?_⟩; (conv=>whnf);repeat(refine Sg ?_;(conv=>whnf))
     refine (Qod w9 _ p width (n + n') _ hC9 y.1 y.2 N hsmall.1 hN0 hNb hyx hsmall.2).mono ?_
     rintro _ wc ⟨rfl,hCc,hMc⟩
     rw [← hsn] at hCc
     (conv=>whnf);repeat(refine Sg ?_;(conv=>whnf))
     refine ⟨(vs ++ [gCM y],Y ++ [y]),by simp; omega,⟨Qn hM9 (hMc.mono fun k _ hs => hs.1.1),by have := hMc.size; (try simp only); omega,Qgh hi9 hMc (fun h => h.1.2.1 rfl) (fun h => h.1.2.2 rfl),by (try simp only); rw [hvs,List.map_append]; rfl,hYs2,hYn2,hCc.keep fun k hk hs => ⟨rfl,?_⟩⟩,⟨rfl,rfl,trivial⟩⟩
     rcases hs with hs | hs
     · exact hs.1
     · exact ⟨.inr (by omega),by omega,by omega⟩
   · intro hh; cases hh
end Go.Proofs.YteabekcdcphjpaaGreatDoor
namespace Go.Proofs.YteabekcdcphjpaaGreatDoor
open Go.Se Go.RowKit
theorem Qsn (w:World) (S:Nat → Prop) (t:Nat) (sg:List (ByteArray × Int)) (ct:Qg5) (b1 b2:Nat) (h:Qk7 w S t sg ct b1 b2) (a:ByteArray) (hN:0 ≤ (Qc sg a).getD 0 ∧ (Qc sg a).getD 0 < 1000000000) (n:Int) (hn:0 < n ∧ n < 1000000000) :
 Cal Tryz.prog 156 [.pointer (some ⟨t,0,none⟩),.string a,.int .i64 n] w fun r w' => r = .tuple #[] ∧ Qk7 w' S t (Qz sg a ((Qc sg a).getD 0 + n)) ct b1 b2 ∧ Mod S w w' := by
 refine Fi Tryz.func156 rfl _ rfl rfl ?_;conv=>whnf
 refine ⟨.map (some b1),h.head.one rfl,?_⟩;conv=>whnf
 refine ⟨_,Qei h.sg a Qo,?_⟩;conv=>whnf
 refine ⟨(Qc sg a).getD 0 + n,wrap_eq rfl ⟨by omega,by omega⟩,?_⟩;conv=>whnf
 refine Qr Qhn (Qp Xi) h.sg a (vi ((Qc sg a).getD 0 + n)) fun w2 hm2 ho2 => ?_
 rw [Xb] at hm2
 have hbt : b1 ≠ t := h.mine.2.2
 have hh2 := ho2.at_ h.head (Ne.symm hbt)
 conv=>whnf
 refine ⟨.map (some b1),hh2.one rfl,?_⟩;conv=>whnf
 refine ⟨_,Qei hm2 a Qo,?_⟩
 rw [Qs]
 conv=>whnf
 constructor
 · intro hc
   exfalso
   simp at hc
   omega
 intro _
 conv=>whnf
 exact ⟨rfl,⟨h.mine,hh2,hm2,h.ct.keep Qx fun k hk hs => ⟨ho2.block k hs.2.2,hs⟩⟩,Ql ho2 h.mine.2.1⟩
theorem Qzq (w:World) (S:Nat → Prop) (t:Nat) (sg:List (ByteArray × Int)) (ct:Qg5) (b1 b2:Nat) (h:Qk7 w S t sg ct b1 b2) (a x:ByteArray) (hN:0 ≤ (Qc ((Qc ct a).getD []) x).getD 0 ∧ (Qc ((Qc ct a).getD []) x).getD 0 < 1000000000) (n:Int) (hn:0 < n ∧ n < 1000000000) :
 Cal Tryz.prog 157 [.pointer (some ⟨t,0,none⟩),.string a,.string x,.int .i64 n] w fun r w' => r = .tuple #[] ∧ Qk7 w' (Grow S w) t sg (Qz ct a (Qz ((Qc ct a).getD []) x ((Qc ((Qc ct a).getD []) x).getD 0 + n))) b1 b2 ∧ Mod S w w' := by
 have htlt := h.head.lt
 have hb1lt := h.sg.lt
 refine Fi Tryz.func157 rfl _ rfl rfl ?_;conv=>whnf
 refine Q9 Qa (ι := Qg5) (fun _ => [(0,.pointer (some ⟨t,0,none⟩)),(1,.string a),(2,.string x),(3,.int .i64 n)])
  (fun s1 w' => (∃ m1,Qc s1 a = some m1 ∧ m1 = (Qc ct a).getD []) ∧ (∀ v,Qz s1 a v = Qz ct a v) ∧ MapOf Value.string Qyc w' (fun k => Grow S w k ∧ k ≠ t ∧ k ≠ b1) b2 s1 ∧ At w' t 150 [.map (some b1),.map (some b2)] ∧ MapAt w' b1 Value.string (Xk vi sg) ∧ Mod S w w') ?_ ?_
 · (conv=>whnf)
   refine ⟨.map (some b2),h.head.one rfl,?_⟩;conv=>whnf
   rcases h.ct.look Qx Qfg (Qp Xi) (e := ty147) ty147_ok rfl a with ⟨hno,hrd⟩ | ⟨b,v,Sk,hsome,hrd,hIv,hSk,_⟩
   · refine ⟨_,hrd .same Qo,?_⟩;conv=>whnf
     refine ⟨_,Xw Qhn none _ _,?_⟩;conv=>whnf
     constructor
     · intro _
       conv=>whnf
       refine ⟨.map (some b2),h.head.one rfl,?_⟩;conv=>whnf
       intro b3 w1 hn1;conv=>whnf
       have e1 := hn1.block
       refine h.ct.insert Qx Qfg (Qp Xi) a hno hn1.ext (v := []) ⟨by omega,MapAt.new hn1⟩ fun w2 hm2 ho2 => ?_
       conv=>whnf
       have hbp := h.ct.lt.2.2
       refine ⟨Qz ct a [],⟨⟨[],Qs _ _ _,by rw [hno]; rfl⟩,fun v => Qcu a [] v ct,?_,?_,?_,?_⟩,⟨rfl,rfl,rfl,rfl,trivial⟩⟩
       · refine hm2.keep Qx fun k _ hk2 => ⟨rfl,?_⟩
         rcases hk2 with hk2 | hk2
         · exact ⟨.inl hk2.1,hk2.2⟩
         · exact ⟨.inr hk2,by omega,by omega⟩
       · exact ho2.at_ (h.head.ext hn1.ext) (Ne.symm hbp.1)
       · exact (h.sg.ext hn1.ext).only ho2 (Ne.symm hbp.2)
       · exact (Mod.of_ext hn1.ext).trans (Ql ho2 h.ct.lt.2.1)
     · intro q; cases q
   · refine ⟨_,hrd .same Qo,?_⟩;conv=>whnf
     refine ⟨_,Xw Qhn (some b) _ _,?_⟩;conv=>whnf
     constructor
     · intro q; cases q
     · intro _
       conv=>whnf
       refine ⟨ct,⟨⟨v,hsome,by rw [hsome]; rfl⟩,fun v => rfl,h.ct.keep Qx fun k _ hk2 => ⟨rfl,.inl hk2.1,hk2.2⟩,h.head,h.sg,Mod.refl _ _⟩,⟨rfl,rfl,rfl,rfl,trivial⟩⟩
 rintro s1 w1 ⟨⟨m1,hm1,hm1e⟩,hset,hs1,hp1,hsg1,hmod1⟩
 conv=>whnf
 refine ⟨.map (some b2),hp1.one rfl,?_⟩;conv=>whnf
 rcases hs1.look Qx Qfg (Qp Xi) (e := ty147) ty147_ok rfl a with ⟨hno,hrd⟩ | ⟨b,v,Sk,hsome,hrd,hIv,hSk,hback⟩
 · rw [hm1] at hno; cases hno
 obtain rfl : m1 = v := by rw [hm1] at hsome; simpa using hsome
 rw [← hm1e] at hN ⊢
 refine ⟨_,hrd .same Qo,?_⟩; (conv=>whnf);repeat(refine Sg ?_;(conv=>whnf))
 refine ⟨_,Qei hIv.2 x Qo,?_⟩;conv=>whnf
 refine ⟨(Qc m1 x).getD 0 + n,wrap_eq rfl ⟨by omega,by omega⟩,?_⟩;conv=>whnf
 refine Qr Qhn (Qp Xi) hIv.2 x (vi ((Qc m1 x).getD 0 + n)) fun w2 hm2 ho2 => ?_
 rw [Xb] at hm2
 conv=>whnf
 refine ⟨_,Qei hm2 x Qo,?_⟩
 rw [Qs]
 conv=>whnf
 constructor
 · intro hc
   exfalso
   simp at hc
   omega
 intro _
 conv=>whnf
 refine ⟨_,Qxf Qhn hm2,?_⟩
 have hne : 0 < (Xk vi (Qz m1 x ((Qc m1 x).getD 0 + n))).length := by
  have : Qc (Qz m1 x ((Qc m1 x).getD 0 + n)) x = some ((Qc m1 x).getD 0 + n) := Qs _ _ _
  cases hq : Qz m1 x ((Qc m1 x).getD 0 + n) with
  | nil => rw [hq] at this; cases this
  | cons y l => simp [Xk]
 generalize (Xk vi (Qz m1 x ((Qc m1 x).getD 0 + n))).length = nn at hne ⊢
 conv=>whnf
 constructor
 · intro hc
   exfalso
   simp at hc
   omega
 intro _
 conv=>whnf
 have hbS := hSk b hIv.1
 have hfin := hback w2 (Qz m1 x ((Qc m1 x).getD 0 + n)) ⟨.inl hIv.1,hm2⟩ (Ql ho2 hIv.1)
 rw [hset] at hfin
 have hp1lt := hp1.lt
 have hs1lt := hsg1.lt
 refine ⟨rfl,⟨⟨.inl h.mine.1,.inl h.mine.2.1,h.mine.2.2⟩,ho2.at_ hp1 (fun q => hbS.1.2.1 q.symm),hsg1.only ho2 (fun q => hbS.1.2.2 q.symm),?_⟩,Qn hmod1 (Ql ho2 hbS.1.1)⟩
 refine hfin.keep Qx fun k _ hk2 => ⟨rfl,?_⟩
 rcases hk2 with hk2 | hk2
 · exact hk2
 · exact ⟨.inr (by have := hmod1.size; omega),by omega,by omega⟩
end Go.Proofs.YteabekcdcphjpaaGreatDoor
namespace Go.Proofs.YteabekcdcphjpaaGreatDoor
open Go.Se Go.RowKit Go.Shelf
theorem Qww {P:Program} {cl:Cl} {w:World} {t te:TypeId} {e:TyE} (hp:P.underlying t = some (.pointer te)) (he:Xp P te = some e) (hz:e.size ≠ 0) {a b ta tb:Nat} {la lb:List Value} (hab:a ≠ b) (ha:∀ w',cl.rel w w' → At w' a ta la) (hb:∀ w',cl.rel w w' → At w' b tb lb) (ox oy:Operand) : Go.Se.EqAt P cl w t ox oy (.pointer (some ⟨a,0,none⟩)) (.pointer (some ⟨b,0,none⟩)) false := fun w' hw => by
 obtain ⟨i,d,hi,_,_,_,hs,_⟩ := Xe he
 have h := run_eql_ptr_other (P := P) w' (a := ⟨a,0,none⟩) (b := ⟨b,0,none⟩) hp hi (by rw [hs]; exact hz) (by simp [hab]) (ha w' hw) (hb w' hw)
 have hg : (eqGuard .eql t ox oy (.pointer (some ⟨a,0,none⟩)) (.pointer (some ⟨b,0,none⟩))).run P w' = .ok () w' := by simp [eqGuard]
 simp only [Sem.run_bind,hg,Result.andThen_ok,h]
theorem Qjx {w:World} {b:Nat} {L:List (ByteArray × Value)} (hm:MapAt w b Value.string L) : Cal Tryz.prog 209 [.map (some b)] w fun r w' => ∃ b',r = .map (some b') ∧ MapAt w' b' Value.string L ∧ w.heap.size ≤ b' ∧ Ext w w' :=
 Qgc Tryz.clone209 ⟨_,Tryz.func209,rfl,rfl⟩ hm
theorem Qoi {w:World} {b:Nat} {m:List (ByteArray × Int)} (h:MapAt w b Value.string (Xk vi m)) : m.Pairwise fun x y => x.1 ≠ y.1 := by
 have := h.keys
 unfold Xk at this
 rw [List.pairwise_map] at this
 exact this
theorem TabIs.copy {sg:List (ByteArray × Int)} {ct ct':Qg5} {S:List Sn} (h:TabIs sg ct S) (hs:Q4u ct' ct) (hn:(ct'.map (·.1)).Nodup) : TabIs sg ct' S := by
 refine ⟨⟨h.pos.1,fun y hy => ?_⟩,h.sg,fun a b => by rw [hs a]; exact h.ct a b⟩
 have h1 := Xh (Xu.1 hn) (k := y.1) (v := y.2) hy
 rw [hs y.1] at h1
 exact h.pos.2 (y.1,y.2) (Xg h1)
theorem Q5v {β:Type} {I:World → (Nat → Prop) → Nat → β → Prop} {w:World} {S:Nat → Prop} {bm:Nat} {m:List (ByteArray × β)} (h:MapOf Value.string I w S bm m) : (m.map (·.1)).Nodup := by
 obtain ⟨L,col,hm⟩ := h
 rw [← hm.eq,List.map_map]
 exact Xu.2 hm.keys
set_option maxHeartbeats 2000000 in
theorem Qub (w:World) (S:Nat → Prop) (t:Nat) (sg:List (ByteArray × Int)) (ct:Qg5) (b1 b2:Nat) (h:Qk7 w S t sg ct b1 b2) :
 Cal Tryz.prog 154 [.pointer (some ⟨t,0,none⟩)] w fun r w' => ∃ t' ct' b1' b2',r = .pointer (some ⟨t',0,none⟩) ∧ Qk7 w' (fun k => w.heap.size ≤ k) t' sg ct' b1' b2' ∧ Q4u ct' ct ∧ Ext w w' := by
 obtain ⟨L,col,hm⟩ := h.ct
 have hhead := h.head
 have hsg := h.sg
 have hmap := hm.map
 have hown : ∀ y ∈ L,MapAt w y.2.1 Value.string (Xk vi y.2.2) := fun y hy => (hm.own y hy).2
 have heq := hm.eq
 have hkeys := hm.keys
 have hb2l := hmap.lt
 have htl := hhead.lt
 clear hm h
 refine Fi Tryz.func154 rfl _ rfl rfl ?_;conv=>whnf
 refine Dr .ext [0,1,2,3,5,6,7,8,4,9] [10,11,12,13] ?_;conv=>whnf
 have hx0 : Ext w w.drew := (Ext.refl w).drew
 have hh0 := hhead.ext hx0
 have hm0 := hmap.ext hx0
 have hs0 := hsg.ext hx0
 generalize w.drew = w0 at hx0 hh0 hm0 hs0 ⊢
 refine ⟨_,hh0.one rfl,?_⟩; (conv=>whnf);repeat(refine Sg ?_;(conv=>whnf))
 refine ⟨_,hh0.one rfl,?_⟩; (conv=>whnf);repeat(refine Sg ?_;(conv=>whnf))
 refine (Qjx hs0).mono ?_
 rintro _ w1 ⟨c1,rfl,hc1,hc1ge,hx1⟩
 refine ⟨hx1,?_⟩; (conv=>whnf);repeat(refine Sg ?_;(conv=>whnf))
 refine ⟨_,Ql6 Qfg (Qh3 (hm0.ext hx1).lt) (hm0.ext hx1),?_⟩; (conv=>whnf);repeat(refine Sg ?_;(conv=>whnf))
 intro c2 w2 hn2; (conv=>whnf);repeat(refine Sg ?_;(conv=>whnf))
 intro t2 w3 hn3; (conv=>whnf);repeat(refine Sg ?_;(conv=>whnf))
 have e2 := hn2.block
 have e3 := hn3.block
 have s0 := hx0.size
 have s1 := hx1.size
 have s2 := hn2.size
 have l1 := hc1.lt
 have hx3 := (hx0.trans hx1).trans (hn2.ext.trans hn3.ext)
 have ht3 : At w3 t2 150 [.map (some c1),.map (some c2)] := hn3.At
 have hM3 : MapOf Value.string Qyc w3 (fun k => w.heap.size ≤ k ∧ k ≠ t2 ∧ k ≠ c1) c2 ([] : Qg5) := (MapOf.new (S := fun k => w.heap.size ≤ k ∧ k ≠ t2 ∧ k ≠ c1) hn2 ⟨by omega,by omega,by omega⟩).keep Qx fun k hk hs => ⟨hn3.ext.block k hk,hs⟩
 have hc13 := hc1.ext (hn2.ext.trans hn3.ext)
 have s3 := hn3.size
 clear hn2 hn3 hh0 hm0 hs0
 refine ⟨_,(hhead.ext hx3).one rfl,?_⟩; (conv=>whnf);repeat(refine Sg ?_;(conv=>whnf))
 refine map_range Qfg (hmap.ext hx3) fun w4 hi4 hx4 => ?_
 generalize hr : w3.heap.size = r at hi4 ⊢
 (conv=>whnf);repeat(refine Sg ?_;(conv=>whnf))
 refine Qg Qa (fun (q:List (ByteArray × Value) × Qg5) w' => Ext w w' ∧ Iter w' r b2 Value.string (L.map fun x => (x.1,Value.map (some x.2.1))) q.1 ∧ MapOf Value.string Qyc w' (fun k => w.heap.size ≤ k ∧ k ≠ t2 ∧ k ≠ c1 ∧ k ≠ r) c2 q.2 ∧ At w' t2 150 [.map (some c1),.map (some c2)] ∧ MapAt w' c1 Value.string (Xk vi sg) ∧ ∀ k : ByteArray,(k ∈ q.1.map (fun x:ByteArray × Value => x.1) → Qc q.2 k = Qc ct k) ∧ (k ∉ q.1.map (fun x:ByteArray × Value => x.1) → Qc q.2 k = none))
  (fun _ => [(3,.pointer (some ⟨t2,0,none⟩)),(23,.pointer (some ⟨r,0,none⟩))]) (fun q => L.length - q.1.length) ([],[]) ⟨hx3.trans hx4,hi4,hM3.keep Qx fun k hk hs => ⟨hx4.block k hk,hs.1,hs.2.1,hs.2.2,by omega⟩,ht3.ext hx4,hc13.ext hx4,fun k => ⟨fun h => by simp at h,fun _ => rfl⟩⟩ ⟨rfl,rfl,trivial⟩ ?_
 rintro ⟨vs,s'⟩ w5 ⟨hx5,hi5,hM5,ht5,hc5,hal⟩
 simp only at hi5 hM5 hal
 (conv=>whnf);repeat(refine Sg ?_;(conv=>whnf))
 refine Qao hi5 (fun hp => ?_) (fun x w6 hin hnew hlt hi6 ho6 hen => ?_)
 · (conv=>whnf);repeat(refine Sg ?_;(conv=>whnf))
   constructor
   · intro hh; cases hh
   intro _
   (conv=>whnf);repeat(refine Sg ?_;(conv=>whnf))
   refine ⟨t2,s',c1,c2,rfl,⟨⟨by omega,by omega,by omega⟩,ht5,hc5,hM5.keep Qx fun k hk hs => ⟨rfl,hs.1,hs.2.1,hs.2.2.1⟩⟩,fun k => ?_,hx5⟩
   by_cases hk : k ∈ vs.map (fun x:ByteArray × Value => x.1)
   · exact (hal k).1 hk
   · rw [(hal k).2 hk]
     cases hq : Qc ct k with
     | none => rfl
     | some v =>
       exfalso
       have h1 := Xg hq
       rw [← heq] at h1
       obtain ⟨y,hy,he⟩ := List.mem_map.1 h1
       refine hk ((hp.map (·.1)).mem_iff.2 (List.mem_map.2 ⟨_,List.mem_map.2 ⟨y,hy,rfl⟩,?_⟩))
       exact (Prod.ext_iff.1 he).1
 · obtain ⟨y,hy,rfl⟩ : ∃ y ∈ L,x = (y.1,Value.map (some y.2.1)) := by
    obtain ⟨y,hy,he⟩ := List.mem_map.1 hin
    exact ⟨y,hy,he.symm⟩
   have hx6 : Ext w w6 := ho6.ext hx5 (by have := hx3.size; omega)
   have hlt : vs.length < L.length := by simpa using hlt
   have hrow := (hown y hy).ext hx6
   have hM6 := hM5.keep Qx (w1 := w6) (S' := fun k => w.heap.size ≤ k ∧ k ≠ t2 ∧ k ≠ c1 ∧ k ≠ r) fun k hk hs => ⟨ho6.block k hs.2.2.2,hs⟩
   have ht6 := ho6.at_ ht5 (by omega)
   have hc6 := hc5.only ho6 (by omega)
   have hnk : Qc s' y.1 = none := by
    refine (hal y.1).2 fun hk => ?_
    obtain ⟨v,hv,he⟩ := List.mem_map.1 hk
    exact hnew v hv he
   have hys : Qc ct y.1 = some y.2.2 := by
    rw [← heq]
    exact Xh (by rw [List.pairwise_map]; exact hkeys) (List.mem_map.2 ⟨y,hy,rfl⟩)
   (conv=>whnf);repeat(refine Sg ?_;(conv=>whnf))
   constructor
   · intro _
     (conv=>whnf);repeat(refine Sg ?_;(conv=>whnf))
     refine Xc (hen w6 rfl rfl) ?_
     (conv=>whnf);repeat(refine Sg ?_;(conv=>whnf))
     refine Dr .ext [0,1,2,3,4,5,6] [7] ?_;conv=>whnf
     have hxd : Ext w6 w6.drew := (Ext.refl w6).drew
     replace hi6 := hi6.ext hxd
     replace hM6 := hM6.keep Qx (w1 := w6.drew) (S' := fun k => w.heap.size ≤ k ∧ k ≠ t2 ∧ k ≠ c1 ∧ k ≠ r) fun k hk hs => ⟨hxd.block k hk,hs⟩
     replace ht6 := ht6.ext hxd
     replace hc6 := hc6.ext hxd
     replace hrow := hrow.ext hxd
     replace hx6 := hx6.trans hxd
     generalize w6.drew = w7 at hi6 hM6 ht6 hc6 hrow hx6 ⊢
     refine ⟨_,ht6.one rfl,?_⟩; (conv=>whnf);repeat(refine Sg ?_;(conv=>whnf))
     refine (Qjx hrow).mono ?_
     rintro _ w8 ⟨b',rfl,hrow',hb',hx8⟩
     refine ⟨hx8,?_⟩; (conv=>whnf);repeat(refine Sg ?_;(conv=>whnf))
     refine hM6.insert Qx Qfg (Qp Xi) y.1 hnk hx8 ⟨by omega,hrow'⟩ fun w9 hM9 ho9 => ?_
     (conv=>whnf);repeat(refine Sg ?_;(conv=>whnf))
     refine ⟨(vs ++ [(y.1,Value.map (some y.2.1))],Qz s' y.1 y.2.2),by simp; omega,⟨ho9.ext (hx6.trans hx8) (by omega),(hi6.ext hx8).keep (ho9.block b2 (by omega)) (ho9.block r (by omega)),hM9.keep Qx fun k hk hs => ⟨rfl,?_⟩,ho9.at_ (ht6.ext hx8) (by omega),(hc6.ext hx8).only ho9 (by omega),fun k => ?_⟩,⟨rfl,rfl,trivial⟩⟩
     · rcases hs with hs | hs
       · exact hs
       · have h1 := Qe2 hi6
         have h2 := ht6.lt
         have h3 := hc6.lt
         have h4 := hx6.size
         exact ⟨by omega,by omega,by omega,by omega⟩
     · show (k ∈ (vs ++ [(y.1,Value.map (some y.2.1))]).map (fun x:ByteArray × Value => x.1) → Qc (Qz s' y.1 y.2.2) k = Qc ct k) ∧ (k ∉ (vs ++ [(y.1,Value.map (some y.2.1))]).map (fun x:ByteArray × Value => x.1) → Qc (Qz s' y.1 y.2.2) k = none)
       rw [Q5,List.map_append,List.map_cons,List.map_nil,List.mem_append,List.mem_singleton]
       by_cases hk : k = y.1
       · subst hk
         rw [if_pos rfl,hys]
         exact ⟨fun _ => rfl,fun h => absurd (.inr rfl) h⟩
       · rw [if_neg hk]
         exact ⟨fun h => (hal k).1 (h.elim id fun h => absurd h hk),fun h => (hal k).2 fun h2 => h (.inl h2)⟩
   · intro hh; cases hh
theorem Q54 (w:World) (p t:Nat) (sh:Bool) (S:Nat → Prop) (Ss:List Sn) (hp:At w p 153 [.pointer (some ⟨t,0,none⟩),.bool sh]) (hT:TabAt w S t Ss) (hS:¬ S p) :
 Cal Tryz.prog 155 [.pointer (some ⟨p,0,none⟩)] w fun r w' => ∃ t2 S2,r = .pointer (some ⟨t2,0,none⟩) ∧ At w' p 153 [.pointer (some ⟨t2,0,none⟩),.bool false] ∧ TabAt w' S2 t2 Ss ∧ (∀ k,S2 k → k ≠ p ∧ k < w'.heap.size ∧ ((sh = false ∧ S k) ∨ w.heap.size ≤ k)) ∧ Mod (fun k => k = p) w w' := by
 obtain ⟨sg,ct,b1,b2,hL,hI⟩ := hT
 have hpl := hp.lt
 refine Fi Tryz.func155 rfl _ rfl rfl ?_;conv=>whnf
 refine Q9 Qa (ι := Nat × (Nat → Prop)) (fun _ => [(0,.pointer (some ⟨p,0,none⟩))]) (fun q w' => At w' p 153 [.pointer (some ⟨q.1,0,none⟩),.bool false] ∧ TabAt w' q.2 q.1 Ss ∧ (∀ k,q.2 k → k ≠ p ∧ k < w'.heap.size ∧ ((sh = false ∧ S k) ∨ w.heap.size ≤ k)) ∧ Mod (fun k => k = p) w w') ?_ ?_
 · (conv=>whnf);repeat(refine Sg ?_;(conv=>whnf))
   refine ⟨_,hp.one rfl,?_⟩; (conv=>whnf);repeat(refine Sg ?_;(conv=>whnf))
   constructor
   · intro hsh
     (conv=>whnf);repeat(refine Sg ?_;(conv=>whnf))
     refine ⟨_,hp.one rfl,?_⟩; (conv=>whnf);repeat(refine Sg ?_;(conv=>whnf))
     refine (Qub w S t sg ct b1 b2 hL).mono ?_
     rintro _ w1 ⟨t2,ct2,c1,c2,rfl,hL2,hsame,hx1⟩
     (conv=>whnf);repeat(refine Sg ?_;(conv=>whnf))
     refine Qj Qa (e := ty151) rfl (hp.ext hx1) rfl rfl rfl (by simp [Qm,Value.oneCell']) fun w2 h2 ho2 => ?_
     (conv=>whnf);repeat(refine Sg ?_;(conv=>whnf))
     refine Qj Qa (e := ty4) rfl h2 rfl rfl rfl (by simp [Qm,Value.oneCell']) fun w3 h3 ho3 => ?_
     (conv=>whnf);repeat(refine Sg ?_;(conv=>whnf))
     have hk : ∀ k,k ≠ p → w3.heap[k]? = w1.heap[k]? := fun k hk => (ho3.block k hk).trans (ho2.block k hk)
     have z1 := hx1.size
     have z2 := ho2.size
     have z3 := ho3.size
     refine ⟨(t2,fun k => w.heap.size ≤ k ∧ k < w1.heap.size),⟨h3,⟨sg,ct2,c1,c2,hL2.keep fun k hk1 hk2 => ⟨hk k (by omega),hk2,hk1⟩,hI.copy hsame (Q5v hL2.ct)⟩,fun k hk => ⟨by have := hk.1; omega,by have := hk.2; omega,.inr hk.1⟩,(Mod.of_ext hx1).trans ((Ql (S := fun k => k = p) ho2 rfl).trans (Ql ho3 rfl))⟩,⟨rfl,trivial⟩⟩
   · intro hsh
     (conv=>whnf);repeat(refine Sg ?_;(conv=>whnf))
     refine ⟨(t,fun k => S k ∧ k < w.heap.size),⟨by rw [hsh] at hp; exact hp,⟨sg,ct,b1,b2,hL.keep fun k hk1 hk2 => ⟨rfl,hk2,hk1⟩,hI⟩,fun k hk => ⟨fun e => hS (e ▸ hk.1),hk.2,.inl ⟨hsh,hk.1⟩⟩,Mod.refl _ _⟩,⟨rfl,trivial⟩⟩
 rintro ⟨t2,S2⟩ w1 ⟨h1,h2,h3,h4⟩
 simp only at h1 h2 h3
 (conv=>whnf);repeat(refine Sg ?_;(conv=>whnf))
 refine ⟨_,h1.one rfl,?_⟩; (conv=>whnf);repeat(refine Sg ?_;(conv=>whnf))
 exact ⟨t2,S2,rfl,h1,h2,h3,h4⟩
def gSI (x:ByteArray × (Nat × List (ByteArray × Int))) : ByteArray × Value := (x.1,Value.map (some x.2.1))
def ctE (Y:List (ByteArray × (Nat × List (ByteArray × Int)))) : Qg5 := Y.map fun y => (y.1,y.2.2)
def cv (ct:Qg5) (a b:ByteArray) : Int := (Qc ((Qc ct a).getD []) b).getD 0
theorem Qra {Y:List (ByteArray × (Nat × List (ByteArray × Int)))} {a:ByteArray} (h:a ∉ Y.map (·.1)) : Qc (ctE Y) a = none := Qex fun hk => h (by
 unfold ctE at hk
 rw [List.map_map] at hk
 exact hk)
theorem Q7z {Y:List (ByteArray × (Nat × List (ByteArray × Int)))} {y:ByteArray × (Nat × List (ByteArray × Int))} (h:y.1 ∉ Y.map (·.1)) (a b:ByteArray) : cv (ctE (Y ++ [y])) a b = cv (ctE Y) a b + if a = y.1 then (Qc y.2.2 b).getD 0 else 0 := by
 have e : ctE (Y ++ [y]) = ctE Y ++ [(y.1,y.2.2)] := by unfold ctE; rw [List.map_append]; rfl
 unfold cv
 rw [e,Qiy]
 by_cases hq : a = y.1
 · rw [if_pos hq,hq,Qra h]; simp [Qc]
 · rw [if_neg hq]
   rw [Option.or_none,if_neg hq]; omega
theorem Q7y (ct:Qg5) (a b x y:ByteArray) (n:Int) : cv (Qz ct a (Qz ((Qc ct a).getD []) b n)) x y = if x = a ∧ y = b then n else cv ct x y := Qn1 a b x y n
theorem Quz (w:World) (p o t t':Nat) (sh sh':Bool) (S S':Nat → Prop) (Ss Ss':List Sn) (hp:At w p 153 [.pointer (some ⟨t,0,none⟩),.bool sh]) (ho:At w o 153 [.pointer (some ⟨t',0,none⟩),.bool sh'])
 (ct:Qg5) (b1 b2:Nat) (hL:Qk7 w S t [] ct b1 b2) (hI:TabIs [] ct Ss) (hT':TabAt w S' t' Ss') (hpo:p ≠ o) (hSo':¬ S' o) (hSp':¬ S' p) :
 Cal Tryz.prog 82 [.pointer (some ⟨p,0,none⟩),.pointer (some ⟨o,0,none⟩)] w fun r w' => r = .tuple #[] ∧ ∃ t2 sh2 sh3 S2,At w' p 153 [.pointer (some ⟨t2,0,none⟩),.bool sh2] ∧ At w' o 153 [.pointer (some ⟨t',0,none⟩),.bool sh3] ∧ TabAt w' S2 t2 (Ss ++ Ss') ∧
  (∀ k,S2 k → k ≠ p ∧ k < w'.heap.size ∧ ((sh2 = false ∧ ((sh = false ∧ S k) ∨ w.heap.size ≤ k)) ∨ (sh2 = true ∧ S' k))) ∧ Mod (fun k => k = p ∨ k = o ∨ (sh = false ∧ S k)) w w' := by
 have h0 : ∀ a,Xx Ss a = 0 := fun a => by
  have := hI.sg a
  have e : (Qc ([] : List (ByteArray × Int)) a).getD 0 = 0 := rfl
  rw [e] at this
  omega
 have h00 : ∀ a b,Qbv Ss a b = 0 := fun a b => by
  have := Q22 Ss a b
  have := h0 a
  omega
 refine (Ql8 w p o t t' b1 b2 sh sh' hpo hp hL.head hL.sg ho).mono ?_
 rintro _ w' ⟨rfl,h1,h2,hM⟩
 obtain ⟨sg',ct',c1,c2,hL',hI'⟩ := hT'
 have hM' : Mod (fun k => k = p ∨ k = o) w w' := hM
 have z := hM'.size
 refine ⟨rfl,t',true,true,fun k => S' k ∧ k < w.heap.size,h1,h2,⟨sg',ct',c1,c2,hL'.keep fun k hk hs => ⟨hM'.block k hk fun h => h.elim (fun e => hSp' (e ▸ hs)) fun e => hSo' (e ▸ hs),hs,hk⟩,hI'.pos,fun a => ?_,fun a b => ?_⟩,fun k hk => ⟨fun e => hSp' (e ▸ hk.1),by have := hk.2; omega,.inr ⟨rfl,hk.1⟩⟩,hM'.mono fun k _ hk => hk.elim .inl fun h => .inr (.inl h)⟩
 · rw [hI'.sg,Qig,h0]; simp
 · rw [hI'.ct,Qmg,h00]; simp
set_option maxHeartbeats 8000000 in
theorem Qu6 (w:World) (p o t t':Nat) (sh sh':Bool) (S S':Nat → Prop) (Ss Ss':List Sn) (hp:At w p 153 [.pointer (some ⟨t,0,none⟩),.bool sh]) (ho:At w o 153 [.pointer (some ⟨t',0,none⟩),.bool sh'])
 (hT:TabAt w S t Ss) (hT':TabAt w S' t' Ss') (hpo:p ≠ o) (hSp:¬ S p) (hSo':¬ S' o) (hSp':¬ S' p) (hSo:¬ S o) (hd:∀ k,S k → ¬ S' k) (hl:Ss.length < 1000000) (hl':Ss'.length < 1000000) :
 Cal Tryz.prog 82 [.pointer (some ⟨p,0,none⟩),.pointer (some ⟨o,0,none⟩)] w fun r w' => r = .tuple #[] ∧ ∃ t2 sh2 sh3 S2,At w' p 153 [.pointer (some ⟨t2,0,none⟩),.bool sh2] ∧ At w' o 153 [.pointer (some ⟨t',0,none⟩),.bool sh3] ∧ TabAt w' S2 t2 (Ss ++ Ss') ∧
  (∀ k,S2 k → k ≠ p ∧ k < w'.heap.size ∧ ((sh2 = false ∧ ((sh = false ∧ S k) ∨ w.heap.size ≤ k)) ∨ (sh2 = true ∧ S' k))) ∧ Mod (fun k => k = p ∨ k = o ∨ (sh = false ∧ S k)) w w' := by
 obtain ⟨sg,ct,b1,b2,hL,hI⟩ := hT
 by_cases hsg0 : sg = []
 · subst hsg0
   exact Quz w p o t t' sh sh' S S' Ss Ss' hp ho ct b1 b2 hL hI hT' hpo hSo' hSp'
 have hsgl : 0 < (Xk vi sg).length := by
  cases sg with
  | nil => exact absurd rfl hsg0
  | cons x l => simp [Xk]
 have hT0 : TabAt w S t Ss := ⟨sg,ct,b1,b2,hL,hI⟩
 obtain ⟨sg',ct',b1',b2',hL',hI'⟩ := hT'
 have htt : t ≠ t' := fun e => hd t hL.mine.1 (e ▸ hL'.mine.1)
 have hol := ho.lt
 have hpl := hp.lt
 have hw0 := hL'.keep (w1 := w) (S' := fun k => S' k ∧ k < w.heap.size) fun k hk hs => ⟨rfl,hs,hk⟩
 refine Fi Tryz.func82 rfl _ rfl rfl ?_;conv=>whnf
 refine ⟨_,Qad Q6t _ _ _,?_⟩; (conv=>whnf);repeat(refine Sg ?_;(conv=>whnf))
 constructor
 · intro h; cases h
 intro _
 (conv=>whnf);repeat(refine Sg ?_;(conv=>whnf))
 refine ⟨_,hp.one rfl,?_⟩; (conv=>whnf);repeat(refine Sg ?_;(conv=>whnf))
 refine ⟨_,hL.head.one rfl,?_⟩; (conv=>whnf);repeat(refine Sg ?_;(conv=>whnf))
 refine ⟨_,Ql6 Qhn Qo hL.sg,?_⟩; (conv=>whnf);repeat(refine Sg ?_;(conv=>whnf))
 generalize (Xk vi sg).length = nsg at hsgl ⊢
 (conv=>whnf);repeat(refine Sg ?_;(conv=>whnf))
 constructor
 · intro h
   exfalso
   simp at h
   omega
 intro _
 (conv=>whnf);repeat(refine Sg ?_;(conv=>whnf))
 refine ⟨_,ho.one rfl,?_⟩; (conv=>whnf);repeat(refine Sg ?_;(conv=>whnf))
 refine Dr .same [0,1,2,3,4,5,6,7,8,9,10,11,12,13] [] ?_;conv=>whnf
 have hxd : Ext w w.drew := (Ext.refl w).drew
 have hp1 := hp.ext hxd
 have ho1 := ho.ext hxd
 have hh1 := hL.head.ext hxd
 have hh1' := hL'.head.ext hxd
 have hT1 := hT0.ext hxd
 have hw1 := hw0.keep (w1 := w.drew) (S' := fun k => S' k ∧ k < w.heap.size) fun k hk hs => ⟨hxd.block k hk,hs⟩
 have hz1 : w.heap.size ≤ w.drew.heap.size := hxd.size
 generalize w.drew = w1 at hxd hp1 ho1 hh1 hh1' hT1 hw1 hz1 ⊢
 refine ⟨_,Qww (te := 153) (by kernel_rfl) ty153_ok (by decide) hpo (fun w' e => by cases e; exact hp1) (fun w' e => by cases e; exact ho1) _ _,?_⟩; (conv=>whnf);repeat(refine Sg ?_;(conv=>whnf))
 refine ⟨_,fun _ => hp1.one rfl,?_⟩; (conv=>whnf);repeat(refine Sg ?_;(conv=>whnf))
 refine ⟨_,fun _ => ho1.one rfl,?_⟩; (conv=>whnf);repeat(refine Sg ?_;(conv=>whnf))
 refine ⟨_,fun _ => Qww (te := 150) (by kernel_rfl) ty150_ok (by decide) htt (fun w' e => by cases e; exact hh1) (fun w' e => by cases e; exact hh1') _ _,?_⟩; (conv=>whnf);repeat(refine Sg ?_;(conv=>whnf))
 constructor
 · intro h; cases h
 intro _
 (conv=>whnf);repeat(refine Sg ?_;(conv=>whnf))
 clear hL hI hL' hw0 hh1 hh1' hT0 hp ho
 refine (Q54 w1 p t sh S Ss hp1 hT1 hSp).mono ?_
 rintro _ w2 ⟨t2,S2,rfl,hp2,⟨sg2,ct2,c1,c2,hL2,hI2⟩,hS2,hMo⟩
 have ho2 := ho1.mod hMo (fun e => hpo e.symm)
 have hw2 := hw1.keep (w1 := w2) (S' := fun k => S' k ∧ k < w.heap.size) fun k hk hs => ⟨hMo.block k hk fun e => hSp' (e ▸ hs.1),hs⟩
 have hz2 := hMo.size
 have hS2d : ∀ k,S2 k → ¬ (S' k ∧ k < w.heap.size) := fun k h1 h2 => by
  rcases (hS2 k h1).2.2 with h3 | h3
  · exact hd k h3.2 h2.1
  · omega
 have hS2o : ¬ S2 o := fun h => by
  rcases (hS2 o h).2.2 with h3 | h3
  · exact hSo h3.2
  · omega
 have hS2p : ¬ S2 p := fun h => (hS2 p h).1 rfl
 have hM2 : Mod (fun k => k = p ∨ k = o ∨ (sh = false ∧ S k)) w w2 := (Mod.of_ext hxd).trans (hMo.mono fun k _ hk => .inl hk)
 have hG : ∀ k,S2 k → Grow (fun k => k = p ∨ k = o ∨ (sh = false ∧ S k)) w k := fun k hk => by
  rcases (hS2 k hk).2.2 with h3 | h3
  · exact .inl (.inr (.inr h3))
  · exact .inr (by omega)
 clear hp1 ho1 hT1 hw1 hMo hxd
 (conv=>whnf);repeat(refine Sg ?_;(conv=>whnf))
 refine ⟨_,hw2.head.one rfl,?_⟩; (conv=>whnf);repeat(refine Sg ?_;(conv=>whnf))
 refine map_range Qhn hw2.sg fun w3 hi3 hx3 => ?_
 generalize hr : w2.heap.size = r at hi3 ⊢
 have hz3 := hx3.size
 have hS2l : ∀ k,S2 k → k < w2.heap.size := fun k hk => (hS2 k hk).2.1
 have hL3 := hL2.keep (w1 := w3) (S' := S2) fun k hk hs => ⟨hx3.block k hk,hs⟩
 have hsk' : sg'.Pairwise fun x y => x.1 ≠ y.1 := Qoi hw2.sg
 have hb1S := hw2.mine.2.1
 have hb1l := hw2.sg.lt
 (conv=>whnf);repeat(refine Sg ?_;(conv=>whnf))
 refine Qg Qa (fun (q:List (ByteArray × Value) × List (ByteArray × Int) × List (ByteArray × Int)) w' => Mod S2 w2 w' ∧ Iter w' r b1' Value.string (Xk vi sg') q.1 ∧ q.1 = Xk vi q.2.1 ∧ (∀ y ∈ q.2.1,y ∈ sg') ∧ (q.2.1.map (·.1)).Nodup ∧ Qk7 w' S2 t2 q.2.2 ct2 c1 c2 ∧ Qq6 q.2.2 ct2 ∧ ∀ a,(Qc q.2.2 a).getD 0 = (Qc sg2 a).getD 0 + (Qc q.2.1 a).getD 0)
  (fun _ => [(0,.pointer (some ⟨p,0,none⟩)),(1,.pointer (some ⟨o,0,none⟩)),(4,.pointer (some ⟨t',0,none⟩)),(5,.pointer (some ⟨t2,0,none⟩)),(65,.pointer (some ⟨r,0,none⟩))]) (fun q => sg'.length - q.1.length) ([],[],sg2) ⟨Mod.of_ext hx3,hi3,rfl,by simp,by simp,hL3,hI2.pos,fun a => by simp [Qc]⟩ ⟨rfl,rfl,rfl,rfl,rfl,trivial⟩ ?_
 clear hi3 hL3 hL2
 rintro ⟨vs,Y,sgk⟩ w4 ⟨hM4,hi4,hvs,hYs,hYn,hL4,hP4,hv4⟩
 simp only at hi4 hvs hYs hYn hL4 hP4 hv4
 have hrl := Qe2 hi4
 (conv=>whnf);repeat(refine Sg ?_;(conv=>whnf))
 refine Qao hi4 (fun hpm => ?_) (fun x w5 hin hnew hlt hi5 ho5 hen => ?_)
 rotate_left
 · obtain ⟨y,hy,rfl⟩ : ∃ y ∈ sg',x = (y.1,vi y.2) := by
    unfold Xk at hin
    obtain ⟨y,hy,he⟩ := List.mem_map.1 hin
    exact ⟨y,hy,he.symm⟩
   have hyn : y.1 ∉ Y.map (·.1) := fun hk => by
    obtain ⟨v,hv,he⟩ := List.mem_map.1 hk
    exact hnew (v.1,vi v.2) (by rw [hvs]; unfold Xk; exact List.mem_map.2 ⟨v,hv,rfl⟩) he
   have hYn2 := Qer hYn hyn
   have hYs2 : ∀ z ∈ Y ++ [y],z ∈ sg' := fun z hz => by
    rcases List.mem_append.1 hz with hz | hz
    · exact hYs z hz
    · rw [List.mem_singleton.1 hz]; exact hy
   have hlt : vs.length < sg'.length := by simpa [Xk] using hlt
   have hM5 : Mod S2 w2 w5 := ⟨ho5.os.trans hM4.os,ho5.tape.trans hM4.tape,ho5.output.trans hM4.output,by rw [ho5.size]; exact hM4.size,fun k hk hs => (ho5.block k (by omega)).trans (hM4.block k hk hs)⟩
   have hL5 := hL4.keep (w1 := w5) (S' := S2) fun k hk hs => ⟨ho5.block k (by have := hS2l k hs; omega),hs⟩
   have hcur : (Qc sgk y.1).getD 0 = Xx Ss y.1 := by rw [hv4,Qex hyn,hI2.sg]; simp
   have hone := Qmu Ss y.1
   have hyv : y.2 = Xx Ss' y.1 := by
    rw [← hI'.sg,Xh hsk' (k := y.1) (v := y.2) hy]; rfl
   have htwo := Qmu Ss' y.1
   have hpos := hI'.pos.1 y hy
   (conv=>whnf);repeat(refine Sg ?_;(conv=>whnf))
   constructor
   · intro _
     (conv=>whnf);repeat(refine Sg ?_;(conv=>whnf))
     refine Xc (hen w5 rfl rfl) ?_
     (conv=>whnf);repeat(refine Sg ?_;(conv=>whnf))
     refine (Qsn w5 S2 t2 sgk ct2 c1 c2 hL5 y.1 (by rw [hcur]; omega) y.2 (by omega)).mono ?_
     rintro _ w6 ⟨rfl,hL6,hM6⟩
     have hP6 : Qq6 (Qz sgk y.1 ((Qc sgk y.1).getD 0 + y.2)) ct2 := hP4.sg_set (by rw [hcur]; omega)
     have hv6 : ∀ a,(Qc (Qz sgk y.1 ((Qc sgk y.1).getD 0 + y.2)) a).getD 0 = (Qc sg2 a).getD 0 + (Qc (Y ++ [y]) a).getD 0 := fun a => by
      rw [Qlr,Qrs hyn,hv4 a]
      by_cases e : a = y.1
      · rw [if_pos e,if_pos e,e,hv4]; omega
      · rw [if_neg e,if_neg e]; omega
     generalize Qz sgk y.1 ((Qc sgk y.1).getD 0 + y.2) = sg3 at hL6 hP6 hv6
     (conv=>whnf);repeat(refine Sg ?_;(conv=>whnf))
     refine ⟨(vs ++ [(y.1,vi y.2)],Y ++ [y],sg3),by simp; omega,⟨hM5.trans hM6,Qgh hi5 hM6 (fun h => hS2d _ h hb1S) (fun h => by have := hS2l r h; omega),by (try simp only); rw [hvs]; unfold Xk; rw [List.map_append]; rfl,hYs2,hYn2,hL6,hP6,hv6⟩,⟨rfl,rfl,rfl,rfl,rfl,trivial⟩⟩
   · intro hh; cases hh
 (conv=>whnf);repeat(refine Sg ?_;(conv=>whnf))
 constructor
 · intro hh; cases hh
 intro _
 have hYp : Y.Perm sg' := Qdi hsk' hYs (by
  have := hpm.map (fun x:ByteArray × Value => x.1)
  rw [hvs,Qew,Qew] at this
  exact this)
 have hv5 : ∀ a,(Qc sgk a).getD 0 = (Qc sg2 a).getD 0 + (Qc sg' a).getD 0 := fun a => by rw [hv4,Qix hsk' hYp]
 clear hv4 hYp hYs hYn hvs hpm hi4
 have hz4 := hM4.size
 have hw4 := hw2.keep (w1 := w4) (S' := fun k => S' k ∧ k < w.heap.size) fun k hk hs => ⟨hM4.block k hk fun h => hS2d k h hs,hs⟩
 have hp4 := hp2.mod hM4 hS2p
 have ho4 := ho2.mod hM4 hS2o
 have hM4w := Qn hM2 (hM4.mono fun k _ hk => hG k hk)
 clear hw2 hp2 ho2 hM2 hx3 hM4
 obtain ⟨L0,col,hm⟩ := hw4.ct
 have hmap := hm.map
 have hb2S := hm.mine.1
 have hrows : ∀ y ∈ L0,(S' y.2.1 ∧ y.2.1 < w.heap.size) ∧ MapAt w4 y.2.1 Value.string (Xk vi y.2.2) := fun y hy => ⟨(hm.own y hy).1.1.1,(hm.own y hy).2⟩
 have hkeys := hm.keys
 have hct' : ctE L0 = ct' := hm.eq
 clear hm
 (conv=>whnf);repeat(refine Sg ?_;(conv=>whnf))
 refine ⟨_,hw4.head.one rfl,?_⟩; (conv=>whnf);repeat(refine Sg ?_;(conv=>whnf))
 refine map_range Qfg hmap fun w5 hi5 hx5 => ?_
 generalize hr2 : w4.heap.size = r2 at hi5 ⊢
 have hz5 := hx5.size
 have hr2l := Qe2 hi5
 have hL5 : Qk7 w5 (fun k => S2 k ∨ (w4.heap.size ≤ k ∧ k ≠ r2)) t2 sgk ct2 c1 c2 := hL4.keep fun k hk hs => ⟨hx5.block k hk,.inl hs⟩
 have hgm : ∀ Z : List (ByteArray × (Nat × List (ByteArray × Int))),(Z.map gSI).map (·.1) = Z.map (·.1) := fun Z => by rw [List.map_map]; rfl
 (conv=>whnf);repeat(refine Sg ?_;(conv=>whnf))
 refine Qg Qa (fun (q:List (ByteArray × Value) × List (ByteArray × (Nat × List (ByteArray × Int))) × Qg5) w' => Mod S2 w4 w' ∧ w5.heap.size ≤ w'.heap.size ∧ Iter w' r2 b2' Value.string (L0.map gSI) q.1 ∧ q.1 = q.2.1.map gSI ∧ (∀ y ∈ q.2.1,y ∈ L0) ∧ (q.2.1.map (·.1)).Nodup ∧ Qk7 w' (fun k => S2 k ∨ (w4.heap.size ≤ k ∧ k ≠ r2)) t2 sgk q.2.2 c1 c2 ∧ Qq6 sgk q.2.2 ∧ ∀ a b,cv q.2.2 a b = cv ct2 a b + cv (ctE q.2.1) a b)
  (fun _ => [(0,.pointer (some ⟨p,0,none⟩)),(1,.pointer (some ⟨o,0,none⟩)),(4,.pointer (some ⟨t',0,none⟩)),(5,.pointer (some ⟨t2,0,none⟩)),(79,.pointer (some ⟨r2,0,none⟩))]) (fun q => L0.length - q.1.length) ([],[],ct2) ⟨Mod.of_ext hx5,Nat.le_refl _,hi5,rfl,by simp,by simp,hL5,hP4,fun a b => by simp [cv,ctE,Qc]⟩ ⟨rfl,rfl,rfl,rfl,rfl,trivial⟩ ?_
 clear hi5 hL5 hL4 hP4 vs Y
 rintro ⟨vs,Y,ctk⟩ w6 ⟨hM6,hz6,hi6,hvs,hYs,hYn,hL6,hP6,hv6⟩
 simp only at hi6 hvs hYs hYn hL6 hP6 hv6
 (conv=>whnf);repeat(refine Sg ?_;(conv=>whnf))
 refine Qao hi6 (fun hpm => ?_) (fun x w7 hin hnew hlt hi7 ho7 hen => ?_)
 · (conv=>whnf);repeat(refine Sg ?_;(conv=>whnf))
   constructor
   · intro hh; cases hh
   intro _
   (conv=>whnf);repeat(refine Sg ?_;(conv=>whnf))
   have hYp : Y.Perm L0 := Qdi hkeys hYs (by
    have := hpm.map (fun x:ByteArray × Value => x.1)
    rw [hvs,hgm,hgm] at this
    exact this)
   have hz := hM6.size
   have hce : ∀ a,Qc (ctE Y) a = Qc ct' a := fun a => by
    rw [← hct']
    exact Qix (L := ctE L0) (Y := ctE Y) (List.pairwise_map.2 hkeys) (hYp.map _) a
   refine ⟨rfl,t2,false,sh',fun k => (S2 k ∨ (w4.heap.size ≤ k ∧ k ≠ r2)) ∧ k < w6.heap.size,hp4.mod hM6 hS2p,ho4.mod hM6 hS2o,⟨sgk,ctk,c1,c2,hL6.keep fun k hk hs => ⟨rfl,hs,hk⟩,hI2.merge hI' hP6 hv5 fun a b => ?_⟩,fun k hk => ⟨fun e => ?_,hk.2,.inl ⟨rfl,?_⟩⟩,Qn hM4w (hM6.mono fun k _ hk => hG k hk)⟩
   · have := hv6 a b
     unfold cv at this
     rw [this,hce]
   · rcases hk.1 with h | h
     · exact hS2p (e ▸ h)
     · have := hp4.lt; omega
   · rcases hk.1 with h | h
     · rcases (hS2 k h).2.2 with h3 | h3
       · exact .inl h3
       · exact .inr (by omega)
     · exact .inr (by omega)
 · obtain ⟨y,hy,rfl⟩ : ∃ y ∈ L0,x = gSI y := by
    obtain ⟨y,hy,he⟩ := List.mem_map.1 hin
    exact ⟨y,hy,he.symm⟩
   have hyn : y.1 ∉ Y.map (·.1) := fun hk => by
    obtain ⟨v,hv,he⟩ := List.mem_map.1 hk
    exact hnew (gSI v) (by rw [hvs]; exact List.mem_map.2 ⟨v,hv,rfl⟩) he
   have hYn2 := Qer hYn hyn
   have hYs2 : ∀ z ∈ Y ++ [y],z ∈ L0 := fun z hz => by
    rcases List.mem_append.1 hz with hz | hz
    · exact hYs z hz
    · rw [List.mem_singleton.1 hz]; exact hy
   have hlt : vs.length < L0.length := by simpa using hlt
   have hM7 : Mod S2 w4 w7 := ⟨ho7.os.trans hM6.os,ho7.tape.trans hM6.tape,ho7.output.trans hM6.output,by rw [ho7.size]; exact hM6.size,fun k hk hs => (ho7.block k (by omega)).trans (hM6.block k hk hs)⟩
   have hz7 : w5.heap.size ≤ w7.heap.size := by rw [ho7.size]; exact hz6
   have hL7 := hL6.keep (w1 := w7) (S' := fun k => S2 k ∨ (w4.heap.size ≤ k ∧ k ≠ r2)) fun k hk hs => ⟨ho7.block k (by
    rcases hs with h | h
    · have := hS2l k h; omega
    · exact h.2),hs⟩
   obtain ⟨hyS,hrow0⟩ := hrows y hy
   have hrow := hrow0.keep (hM7.block _ hrow0.lt fun h => hS2d _ h hyS)
   have hykeys := Qoi hrow0
   have hyin : (y.1,y.2.2) ∈ ct' := by rw [← hct']; exact List.mem_map.2 ⟨y,hy,rfl⟩
   have hyl : Qc ct' y.1 = some y.2.2 := by
    rw [← hct']
    exact Xh (l := ctE L0) (List.pairwise_map.2 hkeys) (List.mem_map.2 ⟨y,hy,rfl⟩)
   have hcv0 : ∀ b,cv ctk y.1 b = cv ct2 y.1 b := fun b => by
    rw [hv6]
    unfold cv
    rw [Qra hyn]
    simp [Qc]
   (conv=>whnf);repeat(refine Sg ?_;(conv=>whnf))
   constructor
   · intro _
     (conv=>whnf);repeat(refine Sg ?_;(conv=>whnf))
     refine Xc (hen w7 rfl rfl) ?_
     (conv=>whnf);repeat(refine Sg ?_;(conv=>whnf))
     refine map_range Qhn hrow fun w8 hi8 hx8 => ?_
     generalize hr3 : w7.heap.size = r3 at hi8 ⊢
     have hz8 := hx8.size
     have hr3l := Qe2 hi8
     have hL8 : Qk7 w8 (fun k => (S2 k ∨ (w4.heap.size ≤ k ∧ k ≠ r2)) ∧ k ≠ r3) t2 sgk ctk c1 c2 := hL7.keep fun k hk hs => ⟨hx8.block k hk,hs,by omega⟩
     have hi8o := hi7.ext hx8
     clear hL7 hi7 hrow
     (conv=>whnf);repeat(refine Sg ?_;(conv=>whnf))
     refine Qg Qa (fun (q:List (ByteArray × Value) × List (ByteArray × Int) × Qg5) w' => Mod S2 w4 w' ∧ w8.heap.size ≤ w'.heap.size ∧ Iter w' r3 y.2.1 Value.string (Xk vi y.2.2) q.1 ∧ q.1 = Xk vi q.2.1 ∧ (∀ z ∈ q.2.1,z ∈ y.2.2) ∧ (q.2.1.map (·.1)).Nodup ∧ Iter w' r2 b2' Value.string (L0.map gSI) (vs ++ [gSI y]) ∧ Qk7 w' (fun k => (S2 k ∨ (w4.heap.size ≤ k ∧ k ≠ r2)) ∧ k ≠ r3) t2 sgk q.2.2 c1 c2 ∧ Qq6 sgk q.2.2 ∧ ∀ a b,cv q.2.2 a b = cv ctk a b + if a = y.1 then (Qc q.2.1 b).getD 0 else 0)
      (fun _ => [(0,.pointer (some ⟨p,0,none⟩)),(1,.pointer (some ⟨o,0,none⟩)),(4,.pointer (some ⟨t',0,none⟩)),(5,.pointer (some ⟨t2,0,none⟩)),(79,.pointer (some ⟨r2,0,none⟩)),(8,.string y.1),(86,.pointer (some ⟨r3,0,none⟩))]) (fun q => y.2.2.length - q.1.length) ([],[],ctk) ⟨hM7.trans (Mod.of_ext hx8),Nat.le_refl _,hi8,rfl,by simp,by simp,hi8o,hL8,hP6,fun a b => by simp [Qc]⟩ ⟨rfl,rfl,rfl,rfl,rfl,rfl,rfl,trivial⟩ ?_
     clear hi8 hi8o hL8 hM7 hP6
     rintro ⟨vs2,Z,ctj⟩ wa ⟨hMa,hza,hia,hvs2,hZs,hZn,hiao,hLa,hPa,hva⟩
     simp only at hia hvs2 hZs hZn hLa hPa hva
     (conv=>whnf);repeat(refine Sg ?_;(conv=>whnf))
     refine Qao hia (fun hpm => ?_) (fun x2 wb hin2 hnew2 hlt2 hib hob hen2 => ?_)
     · (conv=>whnf);repeat(refine Sg ?_;(conv=>whnf))
       constructor
       · intro hh; cases hh
       intro _
       (conv=>whnf);repeat(refine Sg ?_;(conv=>whnf))
       have hZp : Z.Perm y.2.2 := Qdi hykeys hZs (by
        have := hpm.map (fun x:ByteArray × Value => x.1)
        rw [hvs2,Qew,Qew] at this
        exact this)
       refine ⟨(vs ++ [gSI y],Y ++ [y],ctj),by simp; omega,⟨hMa,by (try simp only); omega,hiao,by (try simp only); rw [hvs,List.map_append]; rfl,hYs2,hYn2,hLa.keep fun k _ hs => ⟨rfl,hs.1⟩,hPa,fun a b => ?_⟩,⟨rfl,rfl,rfl,rfl,rfl,trivial⟩⟩
       simp only
       rw [hva,Q7z hyn,hv6,Qix hykeys hZp]
       omega
     · obtain ⟨z,hz,rfl⟩ : ∃ z ∈ y.2.2,x2 = (z.1,vi z.2) := by
        unfold Xk at hin2
        obtain ⟨z,hz,he⟩ := List.mem_map.1 hin2
        exact ⟨z,hz,he.symm⟩
       have hMb : Mod S2 w4 wb := ⟨hob.os.trans hMa.os,hob.tape.trans hMa.tape,hob.output.trans hMa.output,by rw [hob.size]; exact hMa.size,fun k hk hs => (hob.block k (by omega)).trans (hMa.block k hk hs)⟩
       have hzb : w8.heap.size ≤ wb.heap.size := by rw [hob.size]; exact hza
       have hLb := hLa.keep (w1 := wb) (S' := fun k => (S2 k ∨ (w4.heap.size ≤ k ∧ k ≠ r2)) ∧ k ≠ r3) fun k hk hs => ⟨hob.block k hs.2,hs⟩
       have hbo := hiao.map.lt
       have hibo := hiao.keep (hob.block b2' (by have := hb2S.2; omega)) (hob.block r2 (by omega))
       have hzn : z.1 ∉ Z.map (·.1) := fun hk => by
        obtain ⟨v,hv,he⟩ := List.mem_map.1 hk
        exact hnew2 (v.1,vi v.2) (by rw [hvs2]; unfold Xk; exact List.mem_map.2 ⟨v,hv,rfl⟩) he
       have hZn2 := Qer hZn hzn
       have hZs2 : ∀ u ∈ Z ++ [z],u ∈ y.2.2 := fun u hu => by
        rcases List.mem_append.1 hu with hu | hu
        · exact hZs u hu
        · rw [List.mem_singleton.1 hu]; exact hz
       have hlt2 : vs2.length < y.2.2.length := by simpa [Xk] using hlt2
       have hcur : cv ctj y.1 z.1 = cv ct2 y.1 z.1 := by
        rw [hva,hcv0,Qex hzn]
        simp
       have hc2 : 0 ≤ cv ct2 y.1 z.1 ∧ cv ct2 y.1 z.1 < 1000000 := by
        unfold cv
        rw [hI2.ct]
        have := Qmh Ss y.1 z.1
        split <;> omega
       have hzv : 0 < z.2 ∧ z.2 < 1000000 := by
        have h1 := hI'.pos.2 _ hyin z hz
        have h2 := hI'.ct y.1 z.1
        rw [hyl,Option.getD_some,Xh hykeys (k := z.1) (v := z.2) hz,Option.getD_some] at h2
        have := Qmh Ss' y.1 z.1
        refine ⟨h1,?_⟩
        rw [h2]
        split <;> omega
       have hcu : (Qc ((Qc ctj y.1).getD []) z.1).getD 0 = cv ctj y.1 z.1 := rfl
       (conv=>whnf);repeat(refine Sg ?_;(conv=>whnf))
       constructor
       · intro _
         (conv=>whnf);repeat(refine Sg ?_;(conv=>whnf))
         refine Xc (hen2 wb rfl rfl) ?_
         (conv=>whnf);repeat(refine Sg ?_;(conv=>whnf))
         refine (Qzq wb _ t2 sgk ctj c1 c2 hLb y.1 z.1 (by rw [hcu,hcur]; omega) z.2 (by omega)).mono ?_
         rintro _ wc ⟨rfl,hLc,hMc⟩
         have hPc : Qq6 sgk (Qz ctj y.1 (Qz ((Qc ctj y.1).getD []) z.1 ((Qc ((Qc ctj y.1).getD []) z.1).getD 0 + z.2))) := hPa.ct_set (by rw [hcu,hcur]; omega)
         have hvc : ∀ a b,cv (Qz ctj y.1 (Qz ((Qc ctj y.1).getD []) z.1 ((Qc ((Qc ctj y.1).getD []) z.1).getD 0 + z.2))) a b = cv ctk a b + if a = y.1 then (Qc (Z ++ [z]) b).getD 0 else 0 := fun a b => by
          rw [Q7y,hcu,Qrs hzn]
          by_cases e : a = y.1 ∧ b = z.1
          · obtain ⟨e1,e2⟩ := e
            rw [if_pos ⟨e1,e2⟩,if_pos e1,e1,e2,hva,if_pos rfl,if_pos rfl]; omega
          · rw [if_neg e,hva]
            by_cases e1 : a = y.1
            · rw [if_pos e1,if_pos e1,if_neg fun e2 => e ⟨e1,e2⟩]; omega
            · rw [if_neg e1,if_neg e1]
         generalize Qz ctj y.1 (Qz ((Qc ctj y.1).getD []) z.1 ((Qc ((Qc ctj y.1).getD []) z.1).getD 0 + z.2)) = ct3 at hLc hPc hvc
         have hzc := hMc.size
         (conv=>whnf);repeat(refine Sg ?_;(conv=>whnf))
         refine ⟨(vs2 ++ [(z.1,vi z.2)],Z ++ [z],ct3),by simp; omega,⟨Qn hMb (hMc.mono fun k _ hs => hs.1.elim .inl fun h => .inr h.1),by (try simp only); omega,Qgh hib hMc (fun h => ?_) (fun h => h.2 rfl),by (try simp only); rw [hvs2]; unfold Xk; rw [List.map_append]; rfl,hZs2,hZn2,Qgh hibo hMc (fun h => ?_) (fun h => ?_),hLc.keep fun k hk hs => ⟨rfl,?_⟩,hPc,hvc⟩,⟨rfl,rfl,rfl,rfl,rfl,rfl,rfl,trivial⟩⟩
         · rcases h.1 with h | h
           · exact hS2d _ h hyS
           · have := hyS.2; omega
         · rcases h.1 with h | h
           · exact hS2d _ h hb2S
           · have := hb2S.2; omega
         · rcases h.1 with h | h
           · have := hS2l _ h; omega
           · exact h.2 rfl
         · rcases hs with hs | hs
           · exact hs
           · exact ⟨.inr ⟨by omega,by omega⟩,by omega⟩
       · intro hh; cases hh
   · intro hh; cases hh
end Go.Proofs.YteabekcdcphjpaaGreatDoor
