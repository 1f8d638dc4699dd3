/- Several texts in one: Sp1, Sp3, Sp5, Mg6, Mg7, Mg8. -/
import Derived.Test.YteabekcdcphjpaaGreatDoorGX
import Derived.Test.YteabekcdcphjpaaGreatDoorGO
import Derived.Test.YteabekcdcphjpaaGreatDoorGXE
import Derived.Test.YteabekcdcphjpaaGreatDoorGZE
import Derived.Test.YteabekcdcphjpaaGreatDoorGXG
import Derived.Test.YteabekcdcphjpaaGreatDoorGZC
import Derived.Test.YteabekcdcphjpaaGreatDoorGZD
import Derived.Test.YteabekcdcphjpaaGreatDoorGM
import Derived.Test.YteabekcdcphjpaaGreatDoorGJ
import Derived.Test.YteabekcdcphjpaaGreatDoorGXB
set_option linter.unusedVariables false
set_option linter.unusedSimpArgs false
namespace Go.Proofs.YteabekcdcphjpaaGreatDoor
open Go.Se Go.RowKit
def Qfk (l:List Ev) : Prop := ∀ x ∈ l,∀ y ∈ l,idE x = idE y → x = y
theorem Qob {l:List Ev} (hm:∀ x ∈ l,Xj x = true) (ha:Qfk l) (x:Ev) : x ∈ Qdw l ↔ x ∈ l := by
 rw [(Q2y hm).mem]
 refine ⟨fun h => h.1,fun h => ⟨h,fun y hy he => ?_⟩⟩
 rw [ha y hy x h he]
 exact Qe0 x
theorem Qnt {l:List Ev} (hm:∀ x ∈ l,Xj x = true) (ha:Qfk l) (x:Ev) : x ∈ Xn l ↔ x ∈ l ∧ Qeq l x = true := by
 rw [(Qfm l).mem_iff]
 unfold Qr3
 rw [List.mem_filter,Qob hm ha,Q8i (l' := l) fun y _ => Qob hm ha y]
theorem Q6d {a b:List Ev} (ha:Rise a) (hb:Rise b) (h:∀ x,x ∈ a ↔ x ∈ b) : a = b := by
 have key : ∀ {x:Ev} {z:List Ev},Rise z → z.Pairwise (fun p q => p ≠ q) := fun {x z} hz => hz.imp fun hab e => by
  have := Qaa.asymm _ _ hab
  rw [e] at hab this
  rw [hab] at this; cases this
 unfold Rise at ha hb
 induction a generalizing b with
 | nil =>
   cases b with
   | nil => rfl
   | cons y b => exact absurd ((h y).2 (by simp)) (by simp)
 | cons x a ih =>
   cases b with
   | nil => exact absurd ((h x).1 (by simp)) (by simp)
   | cons y b =>
     obtain ⟨a1,a2⟩ := List.pairwise_cons.1 ha
     obtain ⟨b1,b2⟩ := List.pairwise_cons.1 hb
     have hxy : x = y := by
      rcases List.mem_cons.1 ((h x).1 (by simp)) with e | e
      · exact e
      · rcases List.mem_cons.1 ((h y).2 (by simp)) with e' | e'
        · exact e'.symm
        · have h1 := a1 y e'
          have h2 := Qaa.asymm _ _ (b1 x e)
          rw [h1] at h2; cases h2
     subst hxy
     congr 1
     refine ih a2 b2 fun z => ?_
     constructor
     · intro hz
       rcases List.mem_cons.1 ((h z).1 (List.mem_cons_of_mem _ hz)) with e | e
       · have h1 := a1 z hz
         have h2 := Qaa.asymm _ _ h1
         rw [e] at h1 h2
         rw [h1] at h2; cases h2
       · exact e
     · intro hz
       rcases List.mem_cons.1 ((h z).2 (List.mem_cons_of_mem _ hz)) with e | e
       · have h1 := b1 z hz
         have h2 := Qaa.asymm _ _ h1
         rw [e] at h1 h2
         rw [h1] at h2; cases h2
       · exact e
def PartOf (l:List Ev) (Q:Ev → Bool) : Prop := ∀ y ∈ l,Q y = true → ∀ x ∈ l,x.kind = 14 → x.person = y.person → Q x = true
theorem Qrw {l:List Ev} {Q:Ev → Bool} (hQ:PartOf l Q) {y:Ev} (hy:y ∈ l) (h:Q y = true) : Qeq (l.filter Q) y = Qeq l y := by
 unfold Qeq
 congr 2
 rw [Bool.eq_iff_iff,Qks,Qks]
 constructor
 · rintro ⟨x,hx,h1,h2⟩
   exact ⟨x,(List.mem_filter.1 hx).1,h1,h2⟩
 · rintro ⟨x,hx,h1,h2⟩
   exact ⟨x,List.mem_filter.2 ⟨hx,hQ y hy h x hx h1 h2⟩,h1,h2⟩
theorem Q1d {l:List Ev} (hm:∀ x ∈ l,Xj x = true) (ha:Qfk l) {Q:Ev → Bool} (hQ:PartOf l Q) : Xn (l.filter Q) = (Xn l).filter Q := by
 have hm' : ∀ x ∈ l.filter Q,Xj x = true := fun x hx => hm x (List.mem_filter.1 hx).1
 have ha' : Qfk (l.filter Q) := fun x hx y hy => ha x (List.mem_filter.1 hx).1 y (List.mem_filter.1 hy).1
 refine Q6d (Qht hm') ((Qht hm).sublist List.filter_sublist) fun x => ?_
 rw [Qnt hm' ha',List.mem_filter,List.mem_filter,Qnt hm ha]
 constructor
 · rintro ⟨⟨h1,h2⟩,h3⟩
   rw [Qrw hQ h1 h2] at h3
   exact ⟨⟨h1,h3⟩,h2⟩
 · rintro ⟨⟨h1,h3⟩,h2⟩
   refine ⟨⟨h1,h2⟩,?_⟩
   rw [Qrw hQ h1 h2]; exact h3
def Q04 (g:ByteArray → Int) (k:Int) (e:Ev) : Bool := thB e || decide (g e.person = k)
theorem Xad {g:ByteArray → Int} {k:Int} {l:List Ev} (h14:∀ x ∈ l,x.kind = 14 → ∀ y ∈ l,thB y = true → x.person ≠ y.person) : PartOf l (Q04 g k) := fun y hy hq x hx hk hp => by
 unfold Q04 at hq ⊢
 rw [Bool.or_eq_true] at hq ⊢
 rcases hq with h | h
 · exact absurd hp (h14 x hx hk y hy h)
 · right; rw [hp]; exact h
theorem Q7d (g:ByteArray → Int) (k:Int) (z:List Ev) : (z.filter (Q04 g k)).filter wpB = (z.filter wpB).filter fun e => decide (g e.person = k) := by
 rw [List.filter_filter,List.filter_filter]
 refine List.filter_congr fun e _ => ?_
 unfold Q04
 cases h : wpB e with
 | false => simp
 | true => rw [(Q61 h).2.1]; simp
theorem Xae (g:ByteArray → Int) (k:Int) (l:List Ev) (p:ByteArray) : Qc (Qdn (l.filter fun e => decide (g e.person = k))) p = if g p = k then Qc (Qdn l) p else none := by
 rw [← Qs3 p,List.filter_filter]
 by_cases h : g p = k
 · rw [if_pos h,← Qs3 p l]
   congr 2
   refine List.filter_congr fun e _ => ?_
   by_cases hp : e.person = p
   · simp [hp,h]
   · simp [hp]
 · rw [if_neg h,List.filter_eq_nil_iff.2]
   · rfl
   · intro e _ hq
     rw [Bool.and_eq_true,decide_eq_true_eq,decide_eq_true_eq] at hq
     exact h (hq.1 ▸ hq.2)
theorem Qok {gap:Int} {ss:Ses} {p:ByteArray} {s:Sn} (h:s ∈ Qc0 gap ss p) : s.person = p := by
 unfold Qc0 at h
 obtain ⟨x,_,rfl⟩ := List.mem_map.1 h
 rfl
theorem Q8z (c:Cfg) (g:ByteArray → Int) (k:Int) (z:List Ev) : Qas c (z.filter (Q04 g k)) = (Qas c z).filter fun s => decide (g s.person = k) := by
 unfold Qas Qg4
 rw [Q7d]
 generalize z.filter wpB = l
 have hk : Xr ((Qdn (l.filter fun e => decide (g e.person = k))).map (·.1)) = (Xr ((Qdn l).map (·.1))).filter fun p => decide (g p = k) := by
  refine Qmq Qqs (Qeb (Qxv _)) (List.Pairwise.sublist List.filter_sublist (Qeb (Qxv _))) fun p => ?_
  rw [List.mem_filter,Qdy,Qdy,Q7i,Q7i,decide_eq_true_eq]
  constructor
  · rintro ⟨e,he,rfl⟩
    obtain ⟨h1,h2⟩ := List.mem_filter.1 he
    exact ⟨⟨e,h1,rfl⟩,of_decide_eq_true h2⟩
  · rintro ⟨⟨e,he,rfl⟩,h⟩
    exact ⟨e,List.mem_filter.2 ⟨he,decide_eq_true h⟩,rfl⟩
 rw [hk]
 generalize Xr ((Qdn l).map (·.1)) = P
 induction P with
 | nil => rfl
 | cons p P ih =>
   rw [List.flatMap_cons,List.filter_append,List.filter_cons]
   by_cases h : g p = k
   · rw [if_pos (decide_eq_true h),List.flatMap_cons,ih]
     congr 1
     have e1 : Qc0 (Qw0 c.gap) (Qdn (l.filter fun e => decide (g e.person = k))) p = Qc0 (Qw0 c.gap) (Qdn l) p := by
      unfold Qc0
      rw [Xae,if_pos h]
     rw [e1]
     exact (List.filter_eq_self.2 fun s hs => by rw [Qok hs]; exact decide_eq_true h).symm
   · rw [if_neg (by simpa using h),ih]
     have e1 : (Qc0 (Qw0 c.gap) (Qdn l) p).filter (fun s => decide (g s.person = k)) = [] := List.filter_eq_nil_iff.2 fun s hs => by rw [Qok hs]; simpa using h
     rw [e1,List.nil_append]
theorem Qjl {α:Type} (g:α → Int) : ∀ (n:Nat) (l:List α),(∀ x ∈ l,0 ≤ g x ∧ g x < n) → ((List.range n).flatMap fun (k:Nat) => l.filter fun x => decide (g x = (k:Int))).Perm l
 | 0,l,h => by
   cases l with
   | nil => exact List.Perm.refl _
   | cons x l => have := h x (by simp); omega
 | n + 1,l,h => by
   rw [List.range_succ,List.flatMap_append]
   simp only [List.flatMap_cons,List.flatMap_nil,List.append_nil]
   have ih := Qjl g n (l.filter fun x => !decide (g x = (n:Int))) fun x hx => by
    obtain ⟨h1,h2⟩ := List.mem_filter.1 hx
    have := h x h1
    have h2 : ¬ g x = n := by simpa using h2
    omega
   have e : ((List.range n).flatMap fun (k:Nat) => l.filter fun x => decide (g x = (k:Int))) = (List.range n).flatMap fun (k:Nat) => (l.filter fun x => !decide (g x = (n:Int))).filter fun x => decide (g x = (k:Int)) := by
    have : ∀ R : List Nat,(∀ k ∈ R,k < n) → (R.flatMap fun (k:Nat) => l.filter fun x => decide (g x = (k:Int))) = R.flatMap fun (k:Nat) => (l.filter fun x => !decide (g x = (n:Int))).filter fun x => decide (g x = (k:Int)) := fun R => by
     induction R with
     | nil => intro _; rfl
     | cons k R ihR =>
       intro hR
       rw [List.flatMap_cons,List.flatMap_cons,ihR fun j hj => hR j (List.mem_cons_of_mem _ hj)]
       congr 1
       rw [List.filter_filter]
       refine List.filter_congr fun x _ => ?_
       have := hR k (by simp)
       by_cases hq : g x = (k:Int)
       · have : ¬ g x = (n:Int) := by omega
         simp [hq]; omega
       · simp [hq]
    exact this _ fun k hk => List.mem_range.1 hk
   rw [e]
   refine (ih.append_right _).trans ?_
   refine List.perm_append_comm.trans ?_
   exact List.filter_append_perm (fun x => decide (g x = (n:Int))) l
theorem Q33 (c:Cfg) (g:ByteArray → Int) (n:Nat) (z:List Ev) (hg:∀ p,0 ≤ g p ∧ g p < n) : ((List.range n).flatMap fun (k:Nat) => Qas c (z.filter (Q04 g k))).Perm (Qas c z) := by
 have h := Qjl (fun s:Sn => g s.person) n (Qas c z) fun s _ => hg s.person
 have e : (fun (k:Nat) => Qas c (z.filter (Q04 g k))) = fun (k:Nat) => (Qas c z).filter fun s => decide (g s.person = (k:Int)) := funext fun k => Q8z c g k z
 rw [e]
 exact h
theorem Qya (g:ByteArray → Int) (n:Nat) (z:List Ev) (hg:∀ p,0 ≤ g p ∧ g p < n) : ((List.range n).flatMap fun (k:Nat) => (z.filter (Q04 g k)).filter wpB).Perm (z.filter wpB) := by
 have h := Qjl (fun e:Ev => g e.person) n (z.filter wpB) fun e _ => hg e.person
 have e : (fun (k:Nat) => (z.filter (Q04 g k)).filter wpB) = fun (k:Nat) => (z.filter wpB).filter fun e => decide (g e.person = (k:Int)) := funext fun k => Q7d g k z
 rw [e]
 exact h
theorem Q4i {s:Qch} {F:List Ad} (h:Qfh s F) (half now:Int) (hb:∀ key,0 ≤ adW half now key F ∧ adW half now key F ≤ 9223372036854775807) : Q7p (fun k => adW half now k F) (Qbj s half now) := by
 have hc : ∀ k,Xo s half k now = adW half now k F := fun k => by
  unfold Xo
  rw [h.sm]
  have := hb k
  exact (wrap_eq rfl ⟨by omega,by omega⟩).symm
 refine ⟨?_,fun x hx => ?_,fun t ht => ?_⟩
 · unfold Qbj
   have h1 : (((s.map (·.1)).map fun k => ((k,Xo s half k now) : Ct)).map (·.1)).Nodup := by
    rw [List.map_map]
    have : ((fun x:Ct => x.1) ∘ fun k => ((k,Xo s half k now) : Ct)) = id := rfl
    rw [this,List.map_id]
    exact h.nd
   exact h1.sublist (List.filter_sublist.map _)
 · unfold Qbj at hx
   obtain ⟨h1,h2⟩ := List.mem_filter.1 hx
   obtain ⟨k,_,rfl⟩ := List.mem_map.1 h1
   exact ⟨hc k,by simpa using h2⟩
 · have ht : 0 < adW half now t F := ht
   rw [← hc t] at ht
   unfold Qbj
   refine List.mem_map.2 ⟨(t,Xo s half t now),List.mem_filter.2 ⟨List.mem_map.2 ⟨t,?_,rfl⟩,by simpa using ht⟩,rfl⟩
   cases hq : Qc s t with
   | some r => exact List.mem_map.2 ⟨_,Xg hq,rfl⟩
   | none =>
     unfold Xo at ht
     rw [hq] at ht
     exact absurd (show (0:Int) < 0 from ht) (by decide)
theorem Q4j {s s':Qch} {F F':List Ad} (h:Qfh s F) (h':Qfh s' F') (half now:Int) (hp:F.Perm F') (hb:∀ key,0 ≤ adW half now key F ∧ adW half now key F ≤ 9223372036854775807) : Qb9 (Qbj s half now) = Qb9 (Qbj s' half now) := by
 have h1 := Q4i (h.perm hp) half now fun key => by rw [← Qf9 hp]; exact hb key
 have h2 := Q4i h' half now fun key => by rw [← Qf9 hp]; exact hb key
 exact Qqp ((Qgq _).trans (Qcy (Qh7 h1.nodup) (Qh7 h2.nodup) (Q1t h1 h2) (Q1t h2 h1))) (Qsp _)
end Go.Proofs.YteabekcdcphjpaaGreatDoor
namespace Go.Proofs.YteabekcdcphjpaaGreatDoor
open Go.Se Go.RowKit Go.Shelf
def Qto (z:List Ev) : List Ad := (z.filter wpB).map fun e => (e.item,e.at_,Qw e)
def Q01 (parts:List Prt) : List Ad := parts.flatMap fun x => Qto (Xn x.1)
def Q0z (width:Int) (z:List Ev) : List (PK × Int) := (z.filter wpB).map fun e => ((e.item,e.at_ / Qq width),Qw e)
def Q00 (width:Int) (parts:List Prt) : List (PK × Int) := parts.flatMap fun x => Q0z width (Xn x.1)
theorem Q92 {α β:Type} (f:α → List β) {l:List α} {k:Nat} (h:k < l.length) : (l.take (k + 1)).flatMap f = (l.take k).flatMap f ++ f l[k] := by
 rw [List.take_succ_eq_append_getElem h,List.flatMap_append,List.flatMap_singleton]
theorem Qtw {z:List Ev} (hm:∀ e ∈ z,Xj e = true) : ∀ x ∈ Qto z,0 ≤ x.2.2 ∧ x.2.2 ≤ 5 := fun x hx => by
 obtain ⟨e,he,rfl⟩ := List.mem_map.1 hx
 exact Qfc (hm e (List.mem_filter.1 he).1)
theorem Qtt {width:Int} {z:List Ev} (hm:∀ e ∈ z,Xj e = true) : ∀ x ∈ Q0z width z,0 < x.2 ∧ x.2 ≤ 5 := fun x hx => by
 obtain ⟨e,he,rfl⟩ := List.mem_map.1 hx
 obtain ⟨h1,h2⟩ := List.mem_filter.1 he
 exact ⟨of_decide_eq_true h2,(Qfc (hm e h1)).2⟩
theorem Qo1 (z:List Ev) : (Qto z).length ≤ z.length := by
 unfold Qto; rw [List.length_map]; exact List.length_filter_le _ _
theorem Qoy (width:Int) (z:List Ev) : (Q0z width z).length ≤ z.length := by
 unfold Q0z; rw [List.length_map]; exact List.length_filter_le _ _
theorem Xav {α β:Type} (f:α → List β) (M:Nat) : ∀ l : List α,(∀ x ∈ l,(f x).length ≤ M) → (l.flatMap f).length ≤ l.length * M
 | [],_ => by simp
 | x :: l,h => by
   have h1 := h x (by simp)
   have ih := Xav f M l fun y hy => h y (by simp [hy])
   rw [List.flatMap_cons,List.length_append,List.length_cons,Nat.succ_mul]
   omega
theorem Xar {w:World} {T:Nat → Prop} {p:Nat} {c:Cfg} {z:List Ev} (h:WT w T p c z) : ∃ v T0,WQ w T0 p c z v ∧ ∀ k,T0 k → T k := by
 obtain ⟨v,T0,hQ,h0,_⟩ := h
 exact ⟨v,T0,hQ,h0⟩
theorem Qke {w:World} {T:Nat → Prop} {p:Nat} {c:Cfg} {z:List Ev} (h:WT w T p c z) : ∀ e ∈ z,Xj e = true := by
 obtain ⟨v,T0,hQ,_⟩ := h
 exact hQ.may
theorem Qde {w:World} {T:Nat → Prop} {p:Nat} {c:Cfg} {z:List Ev} (h:WT w T p c z) :
 Cal Tryz.prog 16 [.pointer (some ⟨p,0,none⟩)] w fun r w' => ∃ pd S,r = .pointer (some ⟨pd,0,none⟩) ∧ Qfj w' S pd (Qq c.half) (Qe c.width z).dn (Qe c.width z).ds ∧ (∀ k,S k → T k) ∧ Ext w w' := by
 obtain ⟨v,T0,hQ,hT0⟩ := Xar h
 obtain ⟨col,q,A,n,cap,any,last,hL⟩ := hQ.at_
 have hc := hL.cts.dec
 refine Fi Tryz.func16 rfl _ rfl rfl ?_;conv=>whnf
 refine ⟨_,hL.head.one rfl,?_⟩;conv=>whnf
 exact ⟨q.pd,_,rfl,hc,fun k hk => hT0 k (hL.tset k (by rw [hk]; decide)),Ext.refl _⟩
theorem Qe9 {w:World} {T:Nat → Prop} {p:Nat} {c:Cfg} {z:List Ev} (h:WT w T p c z) :
 Cal Tryz.prog 19 [.pointer (some ⟨p,0,none⟩)] w fun r w' => ∃ pp S,r = .pointer (some ⟨pp,0,none⟩) ∧ Qgv w' S pp (Qq c.width) (Qe c.width z).pn (Qe c.width z).ps ∧ (∀ k,S k → T k) ∧ Ext w w' := by
 obtain ⟨v,T0,hQ,hT0⟩ := Xar h
 obtain ⟨col,q,A,n,cap,any,last,hL⟩ := hQ.at_
 have hc := hL.cts.pane
 refine Fi Tryz.func19 rfl _ rfl rfl ?_;conv=>whnf
 refine ⟨_,hL.head.one rfl,?_⟩;conv=>whnf
 exact ⟨q.pp,_,rfl,hc,fun k hk => hT0 k (hL.tset k (by rw [hk]; decide)),Ext.refl _⟩
theorem Q1z (width:Int) (z:List Ev) : Qfh (Qe width z).ds (Qto z) := by
 rw [(Qcs width z).1]
 exact Q9z _
theorem Q3b (width:Int) (z:List Ev) : Qiw (Qe width z).ps (Q0z width z) := by
 rw [(Qcs width z).2.1]
 exact Xa6 width _
theorem drop_at {α:Type} {l:List α} {j k:Nat} (h:k < (l.drop j).length) : (l.drop j)[k] = l[j + k]'(by rw [List.length_drop] at h; omega) := List.getElem_drop
set_option maxHeartbeats 2000000 in
theorem Qms {w:World} {base:Nat} {c:Cfg} {N:Nat → Prop} {parts:List Prt} {W:List Nat} {T:Nat → Nat → Prop} (hB:Beside w base c N parts W T) (hz:∀ x ∈ parts,(Xn x.1).length ≤ 100) (hn:1 ≤ parts.length ∧ parts.length ≤ 100) (A:Option Addr) (cp:Nat) (hs:Sl Q6y 1 w A W) (hcap:W.length ≤ cp) :
 Cal Tryz.prog 14 [.slice A W.length cp] w fun r w' => ∃ p' n s',r = .pointer (some ⟨p',0,none⟩) ∧ Qfj w' (fun k => w.heap.size ≤ k) p' (Qq c.half) n s' ∧ Qfh s' (Q01 parts) ∧ Ext w w' := by
 have hsk := Qoj hs 1 cp hcap
 have hlen := hB.len
 have h0 : 0 < parts.length := by omega
 have h0w : 0 < W.length := by omega
 obtain ⟨a,hA,hc⟩ := hs.get h0w
 have hw0 := hB.wt 0 _ _ (List.getElem?_eq_getElem h0) (List.getElem?_eq_getElem h0w)
 have hm0 := Qke hw0
 have hz0 := hz _ (List.getElem_mem h0)
 have hb0 := Qa3 c.width _ hm0
 have hi0 := Q1z c.width (Xn parts[0].1)
 have htk := Q92 (fun x:Prt => Qto (Xn x.1)) h0
 rw [List.take_zero,List.flatMap_nil,List.nil_append] at htk
 generalize Xn parts[0].1 = z0 at hw0 hm0 hz0 hb0 hi0 htk
 generalize W[0] = p0 at hc hw0
 refine Fi Tryz.func14 rfl _ rfl rfl ?_;conv=>whnf
 constructor
 · intro h
   exfalso
   have h : (W.length : Int) = 0 := of_decide_eq_true h
   omega
 intro _
 (conv=>whnf);repeat(refine Sg ?_;(conv=>whnf))
 refine ⟨a,⟨hA,by omega,by omega⟩,?_⟩; (conv=>whnf);repeat(refine Sg ?_;(conv=>whnf))
 refine ⟨.pointer (some ⟨p0,0,none⟩),Qv hc,?_⟩; (conv=>whnf);repeat(refine Sg ?_;(conv=>whnf))
 refine (Qde hw0).mono ?_
 rintro _ w1 ⟨pd,S,rfl,hct,_,hx1⟩; (conv=>whnf);repeat(refine Sg ?_;(conv=>whnf))
 refine (Qt9 w1 S pd _ _ _ hct).mono ?_
 rintro _ w2 ⟨p',s',rfl,hct2,hsame,hx2⟩; (conv=>whnf);repeat(refine Sg ?_;(conv=>whnf))
 have hx02 := hx1.trans hx2
 have s1 := hx1.size
 have hi2 := hi0.copy hsame hct2.nd.1
 refine ⟨⟨by omega,by omega,by omega,by omega⟩,?_⟩; (conv=>whnf);repeat(refine Sg ?_;(conv=>whnf))
 refine Qg Qa (fun (q:Nat × Int × Qch) w' => q.1 + 1 ≤ parts.length ∧ Ext w w' ∧ Qfj w' (fun k => w1.heap.size ≤ k) p' (Qq c.half) q.2.1 q.2.2 ∧ Qfh q.2.2 (Q01 (parts.take (q.1 + 1))) ∧ 0 ≤ q.2.1 ∧ q.2.1 ≤ 100 * (q.1 + 1 : Nat))
  (fun | (k,_,_) => [(3,.pointer (some ⟨p',0,none⟩)),(15,.slice (if cp = 1 then A else A.map (·.add (1 * 1))) (W.length - 1) (cp - 1)),(16,.int .i64 ((W.length - 1 : Nat) : Int)),(17,.int .i64 (k:Nat))]) (fun q => parts.length - q.1) (0,(Qe c.width z0).dn,s') ⟨by (try simp only); omega,hx02,hct2,by (try simp only); unfold Q01; rw [htk]; exact hi2,by have := hb0.dn; (try simp only); omega,by have := hb0.dn; (try simp only); omega⟩ ⟨rfl,rfl,rfl,rfl,trivial⟩ ?_
 rintro ⟨k,n,s⟩ wa ⟨hk,hxa,hcta,hia,hn0,hn1⟩
 simp only at hk hcta hia hn0 hn1
 have hs1a : w1.heap.size ≤ wa.heap.size := by
  obtain ⟨bm,hC⟩ := hcta
  have := hC.mine; have := hC.head.lt; omega
 (conv=>whnf);repeat(refine Sg ?_;(conv=>whnf))
 constructor
 · intro hlt
   have hlt : k < W.length - 1 := by
    have : (k:Int) < ((W.length - 1 : Nat) : Int) := by simpa using hlt
    omega
   have hkd : k < (W.drop 1).length := by rw [List.length_drop]; exact hlt
   have hk1 : k + 1 < parts.length := by omega
   have hk1w : k + 1 < W.length := by omega
   obtain ⟨a2,hA2,hc2⟩ := (hsk.ext hxa).get hkd
   have e0 : (W.drop 1)[k] = W[k + 1] := by
    rw [drop_at hkd]
    congr 1
    omega
   rw [e0] at hc2
   have hwk := (hB.ext hxa).wt (k + 1) _ _ (List.getElem?_eq_getElem hk1) (List.getElem?_eq_getElem hk1w)
   have hmk := Qke hwk
   have hzk := hz _ (List.getElem_mem hk1)
   have hbk := Qa3 c.width _ hmk
   have hik := Q1z c.width (Xn parts[k + 1].1)
   have htk := Q92 (fun x:Prt => Qto (Xn x.1)) hk1
   have hle1 : (Q01 (parts.take (k + 1))).length ≤ 10000 := by
    have h1 := Xav (fun x:Prt => Qto (Xn x.1)) 100 (parts.take (k + 1)) fun x hx => Nat.le_trans (Qo1 _) (hz x (List.mem_of_mem_take hx))
    rw [List.length_take] at h1
    unfold Q01
    have : min (k + 1) parts.length * 100 ≤ 100 * 100 := Nat.mul_le_mul (by omega) (Nat.le_refl _)
    omega
   have hok1 : ∀ x ∈ Q01 (parts.take (k + 1)),0 ≤ x.2.2 ∧ x.2.2 ≤ 5 := fun x hx => by
    obtain ⟨y,hy,hx⟩ := List.mem_flatMap.1 hx
    obtain ⟨i,hi,rfl⟩ := List.mem_iff_getElem.1 (List.mem_of_mem_take hy)
    exact Qtw (Qke (hB.wt i _ _ (List.getElem?_eq_getElem hi) (List.getElem?_eq_getElem (by omega)))) x hx
   have hle2 := Qo1 (Xn parts[k + 1].1)
   have hok2 := Qtw hmk
   generalize Xn parts[k + 1].1 = z at hwk hmk hzk hbk hik htk hle2 hok2
   generalize W[k + 1] = pk at hc2 hwk
   (conv=>whnf);repeat(refine Sg ?_;(conv=>whnf))
   refine ⟨a2,⟨hA2,by omega,by omega⟩,?_⟩; (conv=>whnf);repeat(refine Sg ?_;(conv=>whnf))
   refine ⟨.pointer (some ⟨pk,0,none⟩),Qv hc2,?_⟩; (conv=>whnf);repeat(refine Sg ?_;(conv=>whnf))
   refine (Qde hwk).mono ?_
   rintro _ w3 ⟨pe,S3,rfl,hct3,hS3,hx3⟩; (conv=>whnf);repeat(refine Sg ?_;(conv=>whnf))
   have hcta3 := hcta.keep (w1 := w3) (S' := fun k => w1.heap.size ≤ k) fun j hj hs => ⟨hx3.block j hj,hs⟩
   refine (Qr9 w3 (fun j => w1.heap.size ≤ j) S3 p' pe (Qq c.half) n _ s _ hcta3 hct3 (fun j h1 h2 => by have := (hB.low (k + 1) j (hS3 j h2)).2.1; omega) ⟨hn0,hbk.dn.1,by have := hbk.dn.2; omega⟩ ((Q01 (parts.take (k + 1))).length * 5 + (Qto z).length * 5) (fun L R hL => Qz8 hia hik hok1 hok2 (by decide) hL) (by omega) (fun x hx => by have := Q10 hik hok2 (by decide) hx; omega)).mono ?_
   rintro _ w4 ⟨rfl,L,hL,hct4,hM4⟩; (conv=>whnf);repeat(refine Sg ?_;(conv=>whnf))
   have hi4 := hia.merge hik hL
   have he4 : Q01 (parts.take (k + 1)) ++ Qto z = Q01 (parts.take (k + 1 + 1)) := by unfold Q01; rw [htk]
   rw [he4] at hi4
   refine ⟨_,wrap_succ (by omega),?_⟩; (conv=>whnf);repeat(refine Sg ?_;(conv=>whnf))
   have s3 := (hxa.trans hx3).size
   have hs13 : w1.heap.size ≤ w3.heap.size := Nat.le_trans hs1a hx3.size
   exact ⟨(k + 1,n + (Qe c.width z).dn,dsA s L),by (try simp only); omega,⟨by (try simp only); omega,X9 (hxa.trans hx3) hM4 fun j hj => Nat.le_trans s1 hj,hct4.keep fun j _ hs => ⟨rfl,hs.elim id fun h => by omega⟩,hi4,by have := hbk.dn.1; (try simp only); omega,by have := hbk.dn.2; (try simp only); omega⟩,⟨rfl,rfl,rfl,rfl,trivial⟩⟩
 · intro hge
   have hge : W.length - 1 ≤ k := by
    have : ¬ (k:Int) < ((W.length - 1 : Nat) : Int) := by simpa using hge
    omega
   rw [List.take_of_length_le (by omega)] at hia
   (conv=>whnf);repeat(refine Sg ?_;(conv=>whnf))
   exact ⟨p',n,s,rfl,hcta.keep fun j _ hs => ⟨rfl,by omega⟩,hia,hxa⟩
set_option maxHeartbeats 2000000 in
theorem Qqh {w:World} {base:Nat} {c:Cfg} {N:Nat → Prop} {parts:List Prt} {W:List Nat} {T:Nat → Nat → Prop} (hB:Beside w base c N parts W T) (hz:∀ x ∈ parts,(Xn x.1).length ≤ 100) (hn:1 ≤ parts.length ∧ parts.length ≤ 100) (A:Option Addr) (cp:Nat) (hs:Sl Q6y 1 w A W) (hcap:W.length ≤ cp) :
 Cal Tryz.prog 17 [.slice A W.length cp] w fun r w' => ∃ p' n s',r = .pointer (some ⟨p',0,none⟩) ∧ Qgv w' (fun k => w.heap.size ≤ k) p' (Qq c.width) n s' ∧ Qiw s' (Q00 c.width parts) ∧ Ext w w' := by
 have hsk := Qoj hs 1 cp hcap
 have hlen := hB.len
 have h0 : 0 < parts.length := by omega
 have h0w : 0 < W.length := by omega
 obtain ⟨a,hA,hc⟩ := hs.get h0w
 have hw0 := hB.wt 0 _ _ (List.getElem?_eq_getElem h0) (List.getElem?_eq_getElem h0w)
 have hm0 := Qke hw0
 have hz0 := hz _ (List.getElem_mem h0)
 have hb0 := Qa3 c.width _ hm0
 have hi0 := Q3b c.width (Xn parts[0].1)
 have htk := Q92 (fun x:Prt => Q0z c.width (Xn x.1)) h0
 rw [List.take_zero,List.flatMap_nil,List.nil_append] at htk
 generalize Xn parts[0].1 = z0 at hw0 hm0 hz0 hb0 hi0 htk
 generalize W[0] = p0 at hc hw0
 refine Fi Tryz.func17 rfl _ rfl rfl ?_;conv=>whnf
 constructor
 · intro h
   exfalso
   have h : (W.length : Int) = 0 := of_decide_eq_true h
   omega
 intro _
 (conv=>whnf);repeat(refine Sg ?_;(conv=>whnf))
 refine ⟨a,⟨hA,by omega,by omega⟩,?_⟩; (conv=>whnf);repeat(refine Sg ?_;(conv=>whnf))
 refine ⟨.pointer (some ⟨p0,0,none⟩),Qv hc,?_⟩; (conv=>whnf);repeat(refine Sg ?_;(conv=>whnf))
 refine (Qe9 hw0).mono ?_
 rintro _ w1 ⟨pd,S,rfl,hct,_,hx1⟩; (conv=>whnf);repeat(refine Sg ?_;(conv=>whnf))
 refine (Qua w1 S pd _ _ _ hct fun key => by have := Qmn (Qe c.width z0).ps key; have := hb0.pl; omega).mono ?_
 rintro _ w2 ⟨p',rfl,hct2,hx2⟩; (conv=>whnf);repeat(refine Sg ?_;(conv=>whnf))
 have hx02 := hx1.trans hx2
 have s1 := hx1.size
 refine ⟨⟨by omega,by omega,by omega,by omega⟩,?_⟩; (conv=>whnf);repeat(refine Sg ?_;(conv=>whnf))
 refine Qg Qa (fun (q:Nat × Int × Xq) w' => q.1 + 1 ≤ parts.length ∧ Ext w w' ∧ Qgv w' (fun k => w1.heap.size ≤ k) p' (Qq c.width) q.2.1 q.2.2 ∧ Qiw q.2.2 (Q00 c.width (parts.take (q.1 + 1))) ∧ 0 ≤ q.2.1 ∧ q.2.1 ≤ 100 * (q.1 + 1 : Nat))
  (fun | (k,_,_) => [(3,.pointer (some ⟨p',0,none⟩)),(15,.slice (if cp = 1 then A else A.map (·.add (1 * 1))) (W.length - 1) (cp - 1)),(16,.int .i64 ((W.length - 1 : Nat) : Int)),(17,.int .i64 (k:Nat))]) (fun q => parts.length - q.1) (0,(Qe c.width z0).pn,(Qe c.width z0).ps) ⟨by (try simp only); omega,hx02,hct2,by (try simp only); unfold Q00; rw [htk]; exact hi0,by have := hb0.pn; (try simp only); omega,by have := hb0.pn; (try simp only); omega⟩ ⟨rfl,rfl,rfl,rfl,trivial⟩ ?_
 rintro ⟨k,n,s⟩ wa ⟨hk,hxa,hcta,hia,hn0,hn1⟩
 simp only at hk hcta hia hn0 hn1
 have hs1a : w1.heap.size ≤ wa.heap.size := by
  obtain ⟨bs,br,L,R,hC⟩ := hcta
  have := hC.mine.1; have := hC.head.lt; omega
 (conv=>whnf);repeat(refine Sg ?_;(conv=>whnf))
 constructor
 · intro hlt
   have hlt : k < W.length - 1 := by
    have : (k:Int) < ((W.length - 1 : Nat) : Int) := by simpa using hlt
    omega
   have hkd : k < (W.drop 1).length := by rw [List.length_drop]; exact hlt
   have hk1 : k + 1 < parts.length := by omega
   have hk1w : k + 1 < W.length := by omega
   obtain ⟨a2,hA2,hc2⟩ := (hsk.ext hxa).get hkd
   have e0 : (W.drop 1)[k] = W[k + 1] := by
    rw [drop_at hkd]
    congr 1
    omega
   rw [e0] at hc2
   have hwk := (hB.ext hxa).wt (k + 1) _ _ (List.getElem?_eq_getElem hk1) (List.getElem?_eq_getElem hk1w)
   have hmk := Qke hwk
   have hzk := hz _ (List.getElem_mem hk1)
   have hbk := Qa3 c.width _ hmk
   have hik := Q3b c.width (Xn parts[k + 1].1)
   have htk := Q92 (fun x:Prt => Q0z c.width (Xn x.1)) hk1
   have hle1 : (Q00 c.width (parts.take (k + 1))).length ≤ 10000 := by
    have h1 := Xav (fun x:Prt => Q0z c.width (Xn x.1)) 100 (parts.take (k + 1)) fun x hx => Nat.le_trans (Qoy _ _) (hz x (List.mem_of_mem_take hx))
    rw [List.length_take] at h1
    unfold Q00
    have : min (k + 1) parts.length * 100 ≤ 100 * 100 := Nat.mul_le_mul (by omega) (Nat.le_refl _)
    omega
   have hok1 : ∀ x ∈ Q00 c.width (parts.take (k + 1)),0 < x.2 ∧ x.2 ≤ 5 := fun x hx => by
    obtain ⟨y,hy,hx⟩ := List.mem_flatMap.1 hx
    obtain ⟨i,hi,rfl⟩ := List.mem_iff_getElem.1 (List.mem_of_mem_take hy)
    exact Qtt (Qke (hB.wt i _ _ (List.getElem?_eq_getElem hi) (List.getElem?_eq_getElem (by omega)))) x hx
   have hle2 := Qoy c.width (Xn parts[k + 1].1)
   have hok2 := Qtt (width := c.width) hmk
   generalize Xn parts[k + 1].1 = z at hwk hmk hzk hbk hik htk hle2 hok2
   generalize W[k + 1] = pk at hc2 hwk
   (conv=>whnf);repeat(refine Sg ?_;(conv=>whnf))
   refine ⟨a2,⟨hA2,by omega,by omega⟩,?_⟩; (conv=>whnf);repeat(refine Sg ?_;(conv=>whnf))
   refine ⟨.pointer (some ⟨pk,0,none⟩),Qv hc2,?_⟩; (conv=>whnf);repeat(refine Sg ?_;(conv=>whnf))
   refine (Qe9 hwk).mono ?_
   rintro _ w3 ⟨pe,S3,rfl,hct3,hS3,hx3⟩; (conv=>whnf);repeat(refine Sg ?_;(conv=>whnf))
   have hcta3 := hcta.keep (w1 := w3) (S' := fun k => w1.heap.size ≤ k) fun j hj hs => ⟨hx3.block j hj,hs⟩
   have hsm := hik.small hok2 (by decide)
   refine (Qsa w3 (fun j => w1.heap.size ≤ j) S3 p' pe (Qq c.width) n _ s _ hcta3 hct3 (fun j h1 h2 => by have := (hB.low (k + 1) j (hS3 j h2)).2.1; omega) ⟨hn0,hbk.pn.1,by have := hbk.pn.2; omega⟩ ((Q00 c.width (parts.take (k + 1))).length * 5 + (Q0z c.width z).length * 5) (by omega) (fun L R hL => ⟨(Qmk hia hik hok1 hok2 (by decide) hL).1,by have := (Qmk hia hik hok1 hok2 (by decide) hL).2; omega⟩) (by omega) (fun x hx => by have := hsm x hx; omega)).mono ?_
   rintro _ w4 ⟨rfl,L,hL,hct4,hM4⟩; (conv=>whnf);repeat(refine Sg ?_;(conv=>whnf))
   have hi4 := hia.merge hik hL
   have he4 : Q00 c.width (parts.take (k + 1)) ++ Q0z c.width z = Q00 c.width (parts.take (k + 1 + 1)) := by unfold Q00; rw [htk]
   rw [he4] at hi4
   refine ⟨_,wrap_succ (by omega),?_⟩; (conv=>whnf);repeat(refine Sg ?_;(conv=>whnf))
   have s3 := (hxa.trans hx3).size
   have hs13 : w1.heap.size ≤ w3.heap.size := Nat.le_trans hs1a hx3.size
   exact ⟨(k + 1,n + (Qe c.width z).pn,psA s L),by (try simp only); omega,⟨by (try simp only); omega,X9 (hxa.trans hx3) hM4 fun j hj => Nat.le_trans s1 hj,hct4.keep fun j _ hs => ⟨rfl,hs.elim id fun h => by omega⟩,hi4,by have := hbk.pn.1; (try simp only); omega,by have := hbk.pn.2; (try simp only); omega⟩,⟨rfl,rfl,rfl,rfl,trivial⟩⟩
 · intro hge
   have hge : W.length - 1 ≤ k := by
    have : ¬ (k:Int) < ((W.length - 1 : Nat) : Int) := by simpa using hge
    omega
   rw [List.take_of_length_le (by omega)] at hia
   (conv=>whnf);repeat(refine Sg ?_;(conv=>whnf))
   exact ⟨p',n,s,rfl,hcta.keep fun j _ hs => ⟨rfl,by omega⟩,hia,hxa⟩
theorem Qzm (w:World) : Cal Tryz.prog 81 [] w fun r w' => ∃ p t,r = .pointer (some ⟨p,0,none⟩) ∧ w.heap.size ≤ p ∧ At w' p 153 [.pointer (some ⟨t,0,none⟩),.bool false] ∧ TabAt w' (fun k => w.heap.size ≤ k ∧ k ≠ p ∧ k < w'.heap.size) t [] ∧ Ext w w' := by
 refine Fi Tryz.func81 rfl _ rfl rfl ?_;conv=>whnf
 refine Cal.mono (R := fun r w' => ∃ t b1 b2,r = .pointer (some ⟨t,0,none⟩) ∧ w.heap.size ≤ t ∧ w.heap.size ≤ b1 ∧ w.heap.size ≤ b2 ∧ b1 ≠ t ∧ b2 ≠ t ∧ b2 ≠ b1 ∧ At w' t 150 [.map (some b1),.map (some b2)] ∧ MapAt w' b1 Value.string [] ∧ MapAt w' b2 Value.string [] ∧ Ext w w') ?_ ?_
 · refine Fi Tryz.func153 rfl _ rfl rfl ?_;conv=>whnf
   intro b1 w1 hn1;conv=>whnf
   intro b2 w2 hn2;conv=>whnf
   intro b3 w3 hn3;conv=>whnf
   have e1 := hn1.block; have e2 := hn2.block; have e3 := hn3.block; have s1 := hn1.size; have s2 := hn2.size
   exact ⟨b3,b1,b2,rfl,by omega,by omega,by omega,by omega,by omega,by omega,hn3.At,((MapAt.new hn1).ext hn2.ext).ext hn3.ext,(MapAt.new hn2).ext hn3.ext,(hn1.ext.trans hn2.ext).trans hn3.ext⟩
 · rintro _ w1 ⟨t,b1,b2,rfl,ht,hb1,hb2,h1t,h2t,h21,hat,hm1,hm2,hx1⟩;conv=>whnf
   intro b3 w3 hn3;conv=>whnf
   have e3 := hn3.block
   have s3 := hn3.ext.size
   have hx3 := hx1.trans hn3.ext
   have hl1 := (hat.ext hn3.ext).lt; have hl2 := (hm1.ext hn3.ext).lt; have hl3 := (hm2.ext hn3.ext).lt
   have hl4 := hat.lt; have hl5 := hm1.lt; have hl6 := hm2.lt
   refine ⟨b3,t,rfl,by have := hx1.size; omega,hn3.At,⟨[],[],b1,b2,⟨⟨⟨ht,by omega,hl1⟩,⟨hb1,by omega,hl2⟩,h1t⟩,hat.ext hn3.ext,hm1.ext hn3.ext,?_⟩,⟨fun _ h => (by cases h),fun _ h => (by cases h)⟩,fun a => by simp [Qc,Xx],fun a b => by simp [Qc,Qbv]⟩,hx3⟩
   exact ⟨[],fun _ => none,⟨⟨hb2,by omega,hl3⟩,h2t,h21⟩,hm2.ext hn3.ext,rfl,by simp⟩
def Q4t (c:Cfg) (parts:List Prt) : List Sn := parts.flatMap fun x => Qas c (Xn x.1)
def Q9t (n0:Nat) (w:World) (T:Nat → Nat → Prop) (k:Nat) (sh:Bool) (S:Nat → Prop) : Prop := ∀ j,S j → j < w.heap.size ∧ ((sh = false ∧ n0 ≤ j ∧ ∀ i,¬ T i j) ∨ (sh = true ∧ ∃ i,i < k ∧ T i j))
set_option maxHeartbeats 4000000 in
theorem Qif {w:World} {base:Nat} {c:Cfg} {N:Nat → Prop} {parts:List Prt} {W:List Nat} {T:Nat → Nat → Prop} (hB:Beside w base c N parts W T) (hbase:base ≤ w.heap.size) (hN:∀ k,N k → k < w.heap.size) (hz:∀ x ∈ parts,(Xn x.1).length ≤ 100) (hn:parts.length ≤ 100) (A:Option Addr) (cp:Nat) (hs:Sl Q6y 1 w A W) (hA:∀ k,Qhu A k → N k) :
 Cal Tryz.prog 22 [.slice A W.length cp] w fun r w' => ∃ p t sh S T',r = .pointer (some ⟨p,0,none⟩) ∧ w.heap.size ≤ p ∧ At w' p 153 [.pointer (some ⟨t,0,none⟩),.bool sh] ∧ TabAt w' S t (Q4t c parts) ∧ ¬ S p ∧ (∀ i,¬ T' i p) ∧ Q9t w.heap.size w' T' parts.length sh S ∧ Beside w' base c N parts W T' ∧ (∀ i j,T' i j → T i j ∨ w.heap.size ≤ j) ∧ Mod (fun j => ∃ i,T i j) w w' := by
 have hlen := hB.len
 refine Fi Tryz.func22 rfl _ rfl rfl ?_;conv=>whnf
 refine (Qzm w).mono ?_
 rintro _ w1 ⟨p,t0,rfl,hpw,hp1,hT1,hx1⟩
 have hpl := hp1.lt
 (conv=>whnf);repeat(refine Sg ?_;(conv=>whnf))
 refine Qg Qa (fun (q:Nat × Nat × Bool × (Nat → Prop) × (Nat → Nat → Prop)) w' => q.1 ≤ parts.length ∧ At w' p 153 [.pointer (some ⟨q.2.1,0,none⟩),.bool q.2.2.1] ∧ TabAt w' q.2.2.2.1 q.2.1 (Q4t c (parts.take q.1)) ∧ ¬ q.2.2.2.1 p ∧ (∀ i,¬ q.2.2.2.2 i p) ∧ Q9t w.heap.size w' q.2.2.2.2 q.1 q.2.2.1 q.2.2.2.1 ∧ Beside w' base c N parts W q.2.2.2.2 ∧ (∀ i j,q.2.2.2.2 i j → T i j ∨ w.heap.size ≤ j) ∧ Mod (fun j => ∃ i,T i j) w w')
  (fun | (k,_,_,_,_) => [(3,.pointer (some ⟨p,0,none⟩)),(7,.slice A W.length cp),(8,.int .i64 W.length),(9,.int .i64 (k:Nat))]) (fun q => parts.length - q.1) (0,t0,false,(fun k => w.heap.size ≤ k ∧ k ≠ p ∧ k < w1.heap.size),T) ⟨Nat.zero_le _,hp1,hT1,fun h => h.2.1 rfl,fun i h => by have := (hB.low i p h).2.1; omega,fun j hj => ⟨hj.2.2,.inl ⟨rfl,hj.1,fun i h => by have := (hB.low i j h).2.1; have := hj.1; omega⟩⟩,hB.ext hx1,fun i j h => .inl h,Mod.of_ext hx1⟩ ⟨rfl,rfl,rfl,rfl,trivial⟩ ?_
 clear hp1 hT1
 rintro ⟨k,t,sh,S,Tk⟩ wa ⟨hk,hpa,hTa,hSp,hTp,hin,hBa,hTT,hMa⟩
 simp only at hk hpa hTa hSp hTp hin hBa hTT
 have sa := hMa.size
 (conv=>whnf);repeat(refine Sg ?_;(conv=>whnf))
 constructor
 · intro hlt
   have hlt : k < W.length := by simpa using hlt
   have hkp : k < parts.length := by omega
   obtain ⟨a,hAa,hc⟩ := (Qz1.stay (w1 := wa) hs fun a ha hl => hMa.block _ hl fun ⟨i,h⟩ => (hB.low i _ h).2.2 (hA _ (by rw [ha]; rfl))).get hlt
   have hwk := hBa.wt k _ _ (List.getElem?_eq_getElem hkp) (List.getElem?_eq_getElem hlt)
   have hpx : parts[k]? = some parts[k] := List.getElem?_eq_getElem hkp
   have hwx : W[k]? = some W[k] := List.getElem?_eq_getElem hlt
   have hmk := Qke hwk
   have hzk := hz _ (List.getElem_mem hkp)
   have htk := Q92 (fun x:Prt => Qas c (Xn x.1)) hkp
   have hsl : (Q4t c (parts.take k)).length < 1000000 := by
    have h1 := Xav (fun x:Prt => Qas c (Xn x.1)) 1000 (parts.take k) fun x hx => by
     obtain ⟨i,hi,rfl⟩ := List.mem_iff_getElem.1 (List.mem_of_mem_take hx)
     have := hz _ (List.getElem_mem hi)
     have := (Q0w c _ (Qke (hBa.wt i _ _ (List.getElem?_eq_getElem hi) (List.getElem?_eq_getElem (by omega)))) (by omega)).len
     omega
    rw [List.length_take] at h1
    unfold Q4t
    have : min k parts.length * 1000 ≤ 100 * 1000 := Nat.mul_le_mul (by omega) (Nat.le_refl _)
    omega
   have hzs := Q0w c _ hmk (by omega)
   generalize parts[k] = x at hwk hpx hmk hzk htk hzs
   generalize W[k] = pk at hc hwk hwx
   (conv=>whnf);repeat(refine Sg ?_;(conv=>whnf))
   refine ⟨a,⟨hAa,by omega,by omega⟩,?_⟩; (conv=>whnf);repeat(refine Sg ?_;(conv=>whnf))
   refine ⟨.pointer (some ⟨pk,0,none⟩),Qv hc,?_⟩; (conv=>whnf);repeat(refine Sg ?_;(conv=>whnf))
   refine (Qhq hwk hzs).mono ?_
   rintro _ wb ⟨pp,T1,rfl,hwb,hT1,hMb,hppg,hT1p,t',sh',hppa,hTab',_⟩
   have sb := hMb.size
   have hBb := hBa.upd hpx hwx (by omega) hwb hT1 (fun j hj => by have := hN j hj; omega) hMb
   have hSno : ∀ j,S j → ¬ Tk k j := fun j hj h => by
    rcases (hin j hj).2 with ⟨_,_,h2⟩ | ⟨_,i,hi,h2⟩
    · exact h2 k h
    · have := hBa.one i k j h2 h; omega
   have hSno1 : ∀ j,S j → ¬ T1 j := fun j hj h => by
    rcases hT1 j h with h2 | h2
    · exact hSno j hj h2
    · have := (hin j hj).1; omega
   have hTab2 : TabAt wb (fun j => T1 j ∧ j ≠ pp) t' (Qas c (Xn x.1)) := hTab'.keep fun j _ hj => ⟨rfl,hj.1.resolve_left hj.2,hj.2⟩
   have hpb := hpa.mod hMb (hTp k)
   have hTb : TabAt wb S t (Q4t c (parts.take k)) := hTa.keep fun j hj hs => ⟨hMb.block j hj (hSno j hs),hs⟩
   have hpal := hpa.lt
   have hT1pp : ¬ T1 p := fun h => by
    rcases hT1 p h with h2 | h2
    · exact hTp k h2
    · omega
   (conv=>whnf);repeat(refine Sg ?_;(conv=>whnf))
   refine (Qu6 wb p pp t t' sh sh' S (fun j => T1 j ∧ j ≠ pp) _ _ hpb hppa hTb hTab2 (by omega) hSp (fun h => h.2 rfl) (fun h => hT1pp h.1) (fun h => by have := (hin pp h).1; omega) (fun j h1 h2 => hSno1 j h1 h2.1) hsl (by have := hzs.len; omega)).mono ?_
   rintro _ wc ⟨rfl,t2,sh2,sh3,S2,hpc,_,hTc,hS2,hMc⟩
   have sc := hMc.size
   (conv=>whnf);repeat(refine Sg ?_;(conv=>whnf))
   have hse : Q4t c (parts.take k) ++ Qas c (Xn x.1) = Q4t c (parts.take (k + 1)) := by unfold Q4t; rw [htk]
   rw [hse] at hTc
   refine ⟨_,wrap_succ (by omega),?_⟩; (conv=>whnf);repeat(refine Sg ?_;(conv=>whnf))
   have hT2no : ∀ i j,(if i = k then T1 j else Tk i j) → j < wb.heap.size := fun i j h => (hBb.low i j h).2.1
   have hT2p : ∀ i,¬ (if i = k then T1 p else Tk i p) := fun i h => by
    by_cases e : i = k
    · rw [if_pos e] at h; exact hT1pp h
    · rw [if_neg e] at h; exact hTp i h
   have hT2pp : ∀ i,¬ (if i = k then T1 pp else Tk i pp) := fun i h => by
    by_cases e : i = k
    · rw [if_pos e] at h; exact hT1p h
    · rw [if_neg e] at h; have := (hBa.low i pp h).2.1; omega
   have hT2S : ∀ i j,sh = false → S j → ¬ (if i = k then T1 j else Tk i j) := fun i j hf hj h => by
    by_cases e : i = k
    · rw [if_pos e] at h; exact hSno1 j hj h
    · rw [if_neg e] at h
      rcases (hin j hj).2 with ⟨_,_,h2⟩ | ⟨h1,_⟩
      · exact h2 i h
      · rw [hf] at h1; cases h1
   refine ⟨(k + 1,t2,sh2,S2,fun i j => if i = k then T1 j else Tk i j),by (try simp only); omega,⟨by (try simp only); omega,hpc,hTc,fun h => (hS2 p h).1 rfl,hT2p,fun j hj => ?_,hBb.keep fun i j hj => ⟨hMc.block j (hT2no i j hj) fun h => ?_,(hBb.low i j hj).2.2⟩,fun i j h => ?_,?_⟩,⟨rfl,rfl,rfl,rfl,trivial⟩⟩
   · obtain ⟨q1,q2,q3⟩ := hS2 j hj
     refine ⟨q2,?_⟩
     rcases q3 with ⟨e,⟨e1,e2⟩ | e2⟩ | ⟨e,e2⟩
     · refine .inl ⟨e,?_,fun i h => hT2S i j e1 e2 h⟩
       rcases (hin j e2).2 with ⟨_,h1,_⟩ | ⟨h1,_⟩
       · exact h1
       · rw [e1] at h1; cases h1
     · exact .inl ⟨e,by omega,fun i h => by have := hT2no i j h; omega⟩
     · refine .inr ⟨e,k,by omega,?_⟩
       simp only [if_pos]
       exact e2.1
   · rcases h with h | h | h
     · exact hT2p i (h ▸ hj)
     · exact hT2pp i (h ▸ hj)
     · exact hT2S i j h.1 h.2 hj
   · simp only at h
     by_cases e : i = k
     · rw [if_pos e] at h
       rcases hT1 j h with h2 | h2
       · rw [e]; exact hTT k j h2
       · exact .inr (by omega)
     · rw [if_neg e] at h; exact hTT i j h
   · refine Qn (Qn hMa (hMb.mono fun j _ hj => ?_)) (hMc.mono fun j _ hj => ?_)
     · exact (hTT k j hj).imp (fun h => ⟨k,h⟩) id
     · rcases hj with h | h | h
       · exact .inr (by omega)
       · exact .inr (by omega)
       · refine .inr ?_
         rcases (hin j h.2).2 with ⟨_,h1,_⟩ | ⟨h1,_⟩
         · exact h1
         · rw [h.1] at h1; cases h1
 · intro hge
   have hge : W.length ≤ k := by simpa using hge
   obtain rfl : k = parts.length := by omega
   rw [List.take_length] at hTa
   (conv=>whnf);repeat(refine Sg ?_;(conv=>whnf))
   exact ⟨p,t,sh,S,Tk,rfl,hpw,hpa,hTa,hSp,hTp,hin,hBa,hTT,hMa⟩
end Go.Proofs.YteabekcdcphjpaaGreatDoor
namespace Go.Proofs.YteabekcdcphjpaaGreatDoor
open Go.Se Go.RowKit
theorem Qiw.ok {s:Xq} {F:List (PK × Int)} {M:Int} (h:Qiw s F) (hF:∀ x ∈ F,0 < x.2 ∧ x.2 ≤ M) (hM:0 ≤ M ∧ M ≤ 1000) (hl:F.length < 1000) : Q62 s 1000000 := by
 have h1 := h.small hF hM.1
 have h2 := h.len
 have h3 : (F.length : Int) * M ≤ 1000 * 1000 := Int.mul_le_mul (by omega) hM.2 hM.1 (by omega)
 exact ⟨h.nd,Qdk h1 (by omega),by omega,by omega,by omega⟩
theorem Qy7 {s s':Xq} {F F':List (PK × Int)} {N N':Int} (h:Qiw s F) (h':Qiw s' F') (hp:F.Perm F') (hs:Qc5 s N) (hs':Qc5 s' N') (lo hi:Int) : Qat s lo hi = Qat s' lo hi := by
 unfold Qat
 refine Qjq fun x => ?_
 have e1 : x ∈ Qat s lo hi ↔ 0 < paS s x lo hi := Qr0 hs
 have e2 : x ∈ Qat s' lo hi ↔ 0 < paS s' x lo hi := Qr0 hs'
 unfold Qat at e1 e2
 rw [Xz] at e1 e2
 rw [e1,e2,h.sm,h'.sm,Qp8 hp]
end Go.Proofs.YteabekcdcphjpaaGreatDoor
