import Derived.Test.YtdahooejkjcjiaaGreatDoorHWf1
import Derived.Test.YtdahooejkjcjiaaGreatDoorHWr2
import Derived.Test.YtdahooejkjcjiaaGreatDoorHWn1
import Derived.Test.YtdahooejkjcjiaaGreatDoorGO
/- Who is forgotten,in plain words; what a world tells of them. -/
set_option linter.unusedVariables false
set_option linter.unusedSimpArgs false
namespace Go.Proofs.YtdahooejkjcjiaaGreatDoor
open Go.Se Go.RowKit
def Q5n (c:Cfg) (l:List Ev) (f:Ev) : Bool := (((((decide ((24:Int) < l.length) || l.any (Qzj 300)) || !l.all Xa) || !Qj2 c) || !decide (f.kind = 14)) || !Xa f) || Q2e l f
theorem Q3g {c:Cfg} {l:List Ev} {f:Ev} (h:Q5n c l f = false) : l.length ≤ 24 ∧ (∀ e ∈ l,Xa e = true) ∧ Qj2 c = true ∧ f.kind = 14 ∧ Xa f = true ∧ ∀ x ∈ l,idE x ≠ idE f := by
 unfold Q5n at h
 simp only [Bool.or_eq_false_iff,Bool.not_eq_false',decide_eq_false_iff_not,decide_eq_true_eq,List.all_eq_true] at h
 obtain ⟨⟨⟨⟨⟨⟨h1,h2⟩,h3⟩,h4⟩,h5⟩,h6⟩,h7⟩ := h
 refine ⟨by omega,h3,h4,h5,h6,fun x hx he => ?_⟩
 have := (List.any_eq_false.1 h7) x hx
 simp [he] at this
theorem Qnb {z:List Ev} {f:Ev} (hk:f.kind = 14) : ∀ x ∈ Qbn z f ++ [f],x.kind = 14 ∨ x.person ≠ f.person := fun x hx => by
 rcases List.mem_append.1 hx with hx | hx
 · have := (List.mem_filter.1 hx).2
   simp only [Bool.or_eq_true,Bool.not_eq_true',decide_eq_false_iff_not,decide_eq_true_eq] at this
   exact this.elim .inr .inl
 · rw [List.mem_singleton.1 hx]; exact .inl hk
theorem Qz0 {z:List Ev} {f:Ev} (hk:f.kind = 14) : Qxj (Qbn z f ++ [f]) f.person = [] := by
 unfold Qxj hist Qca
 rw [List.filter_filter,List.filter_eq_nil_iff]
 intro x hx h
 rw [Bool.and_eq_true,decide_eq_true_eq] at h
 obtain ⟨h1,h2⟩ := h
 unfold peB at h2
 rw [Bool.and_eq_true,Bool.not_eq_true' (decide _),decide_eq_false_iff_not] at h2
 exact (Qnb hk x hx).elim h2.2 fun h => h h1
theorem Q3h {gap:Int} {z:List Ev} {f:Ev} (hk:f.kind = 14) : Qc9 gap (Qe5 ((Qbn z f ++ [f]).filter wpB)) f.person = [] := by
 have h0 : Qd (Qe5 ((Qbn z f ++ [f]).filter wpB)) f.person = none := by
  cases h : Qd (Qe5 ((Qbn z f ++ [f]).filter wpB)) f.person with
  | none => rfl
  | some v =>
    obtain ⟨e,he,h⟩ := (Q7v ((Qbn z f ++ [f]).filter wpB)).1 (Qfe.2 (by rw [h]; rfl))
    obtain ⟨h1,h2⟩ := List.mem_filter.1 he
    have h3 := Q2k h2
    exact ((Qnb hk e h1).elim (fun h => by omega) fun h' => (h' h).elim)
 unfold Qc9
 rw [h0]
 simp [Q68,Qfa,Qie]
theorem Qz1 {z:List Ev} {f:Ev} (hr:Rise z) (h:∀ y,z.getLast? = some y → Qp y f = true) : ∀ x ∈ z,Qp x f = true := fun x hx => by
 cases hl : z.getLast? with
 | none => rw [List.getLast?_eq_none_iff] at hl; rw [hl] at hx; cases hx
 | some y =>
   have hy := h y hl
   obtain ⟨l,rfl⟩ := List.getLast?_eq_some_iff.1 hl
   unfold Rise at hr
   rw [List.pairwise_append] at hr
   rcases List.mem_append.1 hx with hx | hx
   · exact Qi9 (hr.2.2 x hx y (by simp)) hy
   · rw [List.mem_singleton.1 hx]; exact hy
theorem Qz2 {z:List Ev} {f:Ev} (hf:Xa f = true) (hk:f.kind = 14) (hid:∀ x ∈ z,idE x ≠ idE f) (hlast:∀ x ∈ z,Qp x f = true) : Quv z z f = 0 := by
 unfold Quv
 rw [if_neg (by rw [hf]; decide),if_neg,if_neg,if_neg]
 · simp [hk]
 · rw [List.any_eq_true]
   rintro ⟨y,hy,he⟩
   exact hid y hy (of_decide_eq_true he)
 · cases hq : z.getLast? with
   | none => simp [Q66]
   | some y =>
     have := hlast y (List.mem_of_getLast? hq)
     simp [this,Q66]
theorem Qvh (z:List Ev) (f:Ev) : (Qbn z f).length ≤ z.length := List.length_filter_le _ _
theorem Q8k {w:World} {T:Nat → Prop} {p:Nat} {c:Cfg} {z:List Ev} (h:WT w T p c z) (hz:z.length < 1000) (person:ByteArray) (h1:Qxj z person = []) (h2:Qc9 (Qvi c.gap) (Qe5 (z.filter wpB)) person = []) : ∃ q : WP,∀ w1,Ext w w1 →
 (Cal Tryz.prog 27 [.pointer (some ⟨p,0,none⟩)] w1 fun r w' => r = .pointer (some ⟨q.pw,0,none⟩) ∧ Ext w1 w') ∧
 (Cal Tryz.prog 28 [.pointer (some ⟨q.pw,0,none⟩),.string person] w1 fun r w' => ∃ i : Option Addr × Nat,r = .slice i.1 0 i.2 ∧ Ext w1 w') ∧
 (Cal Tryz.prog 29 [.pointer (some ⟨p,0,none⟩)] w1 fun r w' => r = .pointer (some ⟨q.ps,0,none⟩) ∧ Ext w1 w') ∧
 (Cal Tryz.prog 30 [.pointer (some ⟨q.ps,0,none⟩),.string person] w1 fun r w' => ∃ i : Option Addr × Nat,r = .slice i.1 0 i.2 ∧ Ext w1 w') := by
 obtain ⟨v,T0,hQ,_⟩ := h
 have hok := Q4s c z hQ.may hz
 obtain ⟨col,q,A,n,cap,any,last,hL⟩ := hQ.at_
 refine ⟨q,fun w1 hx => ?_⟩
 have hL1 := hL.keep fun k hk => hx.block k hk
 refine ⟨Q31 hL1,(Qx9 hL1 hz person).mono fun r w' ⟨i,k1,k2,k3⟩ => ⟨i,by rw [k1,h1]; rfl,k3⟩,Qtv hL1,(Q8d hL1 hok person).mono fun r w' ⟨A,c',U,k1,_,k3,k4⟩ => ⟨(A,c'),?_,k4⟩⟩
 have := k3.len
 rw [h2] at this
 rw [k1,this]; rfl
end Go.Proofs.YtdahooejkjcjiaaGreatDoor
