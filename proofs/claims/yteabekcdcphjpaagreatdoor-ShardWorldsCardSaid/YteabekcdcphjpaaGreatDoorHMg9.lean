import Derived.Test.YteabekcdcphjpaaGreatDoorGZF
import Derived.Test.YteabekcdcphjpaaGreatDoorGXB
import Derived.Test.YteabekcdcphjpaaGreatDoorGZA
import Derived.Test.YteabekcdcphjpaaGreatDoorGC
/- What the worlds of parts by people have together is what the world of all has. -/
set_option linter.unusedVariables false
set_option linter.unusedSimpArgs false
namespace Go.Proofs.YteabekcdcphjpaaGreatDoor
open Go.Se Go.RowKit Go.Shelf
theorem Qy2 (n k:Int) : Qj1 n k = Q04 (fun p => Qbf p n) k := funext fun e => by
 unfold Qj1 Q04 Q9o thB
 congr 1
 by_cases h1 : e.kind = 11 <;> by_cases h2 : e.kind = 12 <;> by_cases h3 : e.kind = 13 <;> simp [h1,h2,h3]
theorem Qzh : Qi (⟨#[]⟩ : ByteArray) = false := by decide
theorem Q0l {e:Ev} (hm:Xj e = true) (ht:thB e = true) : e.person = ⟨#[]⟩ := by
 have ht : e.kind = 11 ∨ e.kind = 12 ∨ e.kind = 13 := of_decide_eq_true ht
 unfold Xj at hm
 simp only [Bool.and_eq_true] at hm
 have hk := hm.2
 unfold Qc4 k6 k4 at hk
 rcases ht with h | h | h <;> simp [h] at hk
 · exact hk.1.1.1
 · exact hk.1.1.1
 · exact hk.1.1.1
theorem Qnj {e:Ev} (hm:Xj e = true) (hk:e.kind = 14) : Qi e.person = true := by
 unfold Xj at hm
 simp only [Bool.and_eq_true] at hm
 have h := hm.2
 unfold Qc4 k6 k4 at h
 simp [hk] at h
 exact h.1.1.1
theorem Qzu {l:List Ev} (hm:∀ x ∈ l,Xj x = true) : ∀ x ∈ l,x.kind = 14 → ∀ y ∈ l,thB y = true → x.person ≠ y.person := fun x hx hk y hy ht e => by
 have h1 := Qnj (hm x hx) hk
 rw [e,Q0l (hm y hy) ht,Qzh] at h1
 cases h1
theorem Qjj {l:List Ev} (hm:∀ x ∈ l,Xj x = true) (ha:Qfk l) (n k:Int) : Xn (Qbn l n k) = (Xn l).filter (Q04 (fun p => Qbf p n) k) := by
 unfold Qbn
 rw [Qy2]
 exact Q1d hm ha (Xad (Qzu hm))
theorem Qqk (n:Nat) (hn:1 ≤ n) (p:ByteArray) : 0 ≤ Qbf p n ∧ Qbf p n < n := by
 have h := Qfq (Qpm p) n (Qkt p)
 have := h.2 (by omega)
 unfold Qbf
 omega
def Qgu (l:List Ev) (n:Nat) (A:Nat → Option Addr) (c:Nat → Nat) : List Prt := (List.range n).map fun (k:Nat) => (Qbn l n k,(A k,c k))
theorem Qmi {β:Type} (F:List Ev → List β) (l:List Ev) (n:Nat) (A:Nat → Option Addr) (c:Nat → Nat) : ((Qgu l n A c).flatMap fun x => F (Xn x.1)) = (List.range n).flatMap fun (k:Nat) => F (Xn (Qbn l n k)) := by
 unfold Qgu
 rw [List.flatMap_map]
section
variable {l:List Ev} {n:Nat} {A:Nat → Option Addr} {c:Nat → Nat}
theorem Q4y (hm:∀ x ∈ l,Xj x = true) (ha:Qfk l) (hn:1 ≤ n) : (Q01 (Qgu l n A c)).Perm (Qto (Xn l)) := by
 have h := (Qya (fun p => Qbf p n) n (Xn l) fun p => Qqk n hn p).map fun e => ((e.item,e.at_,Qw e) : Ad)
 rw [List.map_flatMap] at h
 unfold Q01
 rw [Qmi Qto]
 simp only [Qjj hm ha]
 exact h
theorem Q4w (width:Int) (hm:∀ x ∈ l,Xj x = true) (ha:Qfk l) (hn:1 ≤ n) : (Q00 width (Qgu l n A c)).Perm (Q0z width (Xn l)) := by
 have h := (Qya (fun p => Qbf p n) n (Xn l) fun p => Qqk n hn p).map fun e => (((e.item,e.at_ / Qq width),Qw e) : PK × Int)
 rw [List.map_flatMap] at h
 unfold Q00
 rw [Qmi (Q0z width)]
 simp only [Qjj hm ha]
 exact h
theorem Q6l (cf:Cfg) (hm:∀ x ∈ l,Xj x = true) (ha:Qfk l) (hn:1 ≤ n) : (Q4t cf (Qgu l n A c)).Perm (Qas cf (Xn l)) := by
 have h := Q33 cf (fun p => Qbf p n) n (Xn l) fun p => Qqk n hn p
 unfold Q4t
 rw [Qmi (Qas cf)]
 simp only [Qjj hm ha]
 exact h
end
theorem Qyt {s s':Qch} {F F':List Ad} (h:Qfh s F) (h':Qfh s' F') (hp:F.Perm F') (half:Int) (key:ByteArray) (now:Int) : Xo s half key now = Xo s' half key now := by
 unfold Xo
 rw [h.sm,h'.sm,Qf9 hp]
theorem Q7t {z:List Ev} (hm:∀ e ∈ z,Xj e = true) (half now:Int) (key:ByteArray) : 0 ≤ adW half now key (Qto z) ∧ adW half now key (Qto z) ≤ z.length * 5242880 := by
 have h1 := (Q9z (z.filter wpB)).sm half now key
 rw [Q7a half key now _ fun e he => (List.mem_filter.1 he).2] at h1
 have h2 := Qsj (l := z.filter wpB) (fun e he => hm e (List.mem_filter.1 he).1) half key now
 rw [h1] at h2
 have h3 := List.length_filter_le wpB z
 unfold Qto
 omega
theorem Qws {s:Qch} {F:List Ad} (h:Qfh s F) (hF:∀ x ∈ F,0 ≤ x.2.1 ∧ x.2.1 ≤ 1099511627776) : ∀ key r,Qc s key = some r → ∀ x ∈ r,0 ≤ x.1 ∧ x.1 ≤ 1099511627776 := fun key r hr x hx => by
 obtain ⟨y,hy,_,e⟩ := h.of (key,r) (Qkl hr) x hx
 rw [← e]
 exact hF y hy
theorem Qwr {s:Qch} {F:List Ad} (h:Qfh s F) (hF:∀ x ∈ F,x.1.size ≤ 1000000) : ∀ x ∈ s,x.1.size ≤ 1000000 := fun x hx => by
 obtain ⟨y,hy,e⟩ := h.ne x hx
 rw [← e]
 exact hF y hy
theorem Q69 {s:Qch} {F:List Ad} (h:Qfh s F) : s.length ≤ F.length := by
 have := Qfb (V := s.map (·.1)) (E := F.map (·.1)) h.nd fun c hc => by
  obtain ⟨x,hx,rfl⟩ := List.mem_map.1 hc
  obtain ⟨y,hy,e⟩ := h.ne x hx
  exact List.mem_map.2 ⟨y,hy,e⟩
 simpa using this
theorem Q9u {z:List Ev} (hm:∀ e ∈ z,Xj e = true) : ∀ x ∈ Qto z,(0 ≤ x.2.1 ∧ x.2.1 ≤ 1099511627776) ∧ x.1.size ≤ 1000000 := fun x hx => by
 obtain ⟨e,he,rfl⟩ := List.mem_map.1 hx
 obtain ⟨h1,h2⟩ := List.mem_filter.1 he
 refine ⟨Qr7 (hm e h1),?_⟩
 have := Qab (Qee hm he).2
 simp only
 omega
end Go.Proofs.YteabekcdcphjpaaGreatDoor
