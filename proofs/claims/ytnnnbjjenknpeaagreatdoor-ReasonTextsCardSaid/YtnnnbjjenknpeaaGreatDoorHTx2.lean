import Derived.Test.YtnnnbjjenknpeaaGreatDoorHTx1
/- The reference's digits,and its text of a reason. -/
set_option linter.unusedVariables false
set_option linter.unusedSimpArgs false
namespace Go.Proofs.YtnnnbjjenknpeaaGreatDoor
open Go.Se Go.RowKit
def Qy9 : ByteArray := ⟨#[48,49,50,51,52,53,54,55,56,57]⟩
theorem Qg4 {u:Nat} (h:u < 10) : Qy9.extract u (u + 1) = bytesOf [UInt8.ofNat (48 + u)] := by
 rcases u with _ | _ | _ | _ | _ | _ | _ | _ | _ | _ | u
 all_goals first | rfl | omega
theorem Q3v {u:Nat} (h0:0 < u) (h:u < 10) : (⟨#[45]⟩ : ByteArray) ++ Qy9.extract u (u + 1) = Qdw (-(u:Int)) := by
 rw [Qg4 h]
 unfold Qdw
 rw [Lib.itoa_neg u (by omega),Lib.decDigits_one h]
 rfl
theorem Q3w {u:Nat} (h:u < 10) : Qy9.extract u (u + 1) = Qdw (u:Int) := by
 rw [Qg4 h]
 unfold Qdw
 rw [Lib.itoa_nonneg,Lib.decDigits_one h]
theorem Q6f {u:Nat} (h:10 ≤ u) : Qdw (-((u / 10 : Nat) : Int)) ++ Qy9.extract (u % 10) (u % 10 + 1) = Qdw (-(u:Int)) := by
 rw [Qg4 (by omega)]
 unfold Qdw
 rw [Qhl,Lib.itoa_neg u (by omega),Lib.itoa_neg (u / 10) (by omega),Qhp (m := u) (by omega)]
 rfl
theorem Q6g {u:Nat} (h:10 ≤ u) : Qdw ((u / 10 : Nat) : Int) ++ Qy9.extract (u % 10) (u % 10 + 1) = Qdw (u:Int) := by
 rw [Qg4 (by omega)]
 unfold Qdw
 rw [Qhl,Lib.itoa_nonneg,Lib.itoa_nonneg,Qhp (m := u) (by omega)]
theorem Qv5 (n:Int) (h0:-9223372036854775808 ≤ n) (h1:n ≤ 9223372036854775807) : (Qdw n).size ≤ 1000000000 := by
 have := Qdr h0 h1
 omega
theorem Qh8 : ∀ (m:Nat) (n:Int),n.natAbs ≤ m → -9223372036854775808 ≤ n → n ≤ 9223372036854775807 → ∀ w : World,
 Cal Tryz.prog 61 [.int .i64 n] w fun r w' => r = .string (Qdw n) ∧ Ext w w' := by
 intro m
 induction m using Nat.strongRecOn with
 | _ m ih =>
 intro n hm h0 h1 w
 have hD : Qy9.size = 10 := rfl
 rcases Int.lt_or_le n 0 with hn | hn
 · obtain ⟨u,rfl⟩ : ∃ u : Nat,n = -(u:Int) := ⟨n.natAbs,by omega⟩
   have e1 : (-(u:Int)).tdiv 10 = -((u / 10 : Nat) : Int) := by rw [Int.neg_tdiv]; rfl
   have e2 : (-(u:Int)).tmod 10 = -((u % 10 : Nat) : Int) := by rw [Int.neg_tmod]; rfl
   refine Fi Tryz.func61 rfl _ rfl rfl ?_;conv=>whnf
   constructor
   · intro _
     conv=>whnf
     constructor
     · intro hg
       have hg : -10 < -(u:Int) := by simpa using hg
       conv=>whnf
       refine ⟨(u:Int),wrap_eq (by omega) ⟨by omega,by omega⟩,?_⟩;conv=>whnf
       refine ⟨(u:Int),wrap_eq (by omega) ⟨by omega,by omega⟩,?_⟩;conv=>whnf
       refine ⟨((u + 1 : Nat) : Int),wrap_eq (by omega) ⟨by omega,by omega⟩,?_⟩;conv=>whnf
       refine ⟨⟨by omega,by omega,by show ((u + 1 : Nat) : Int) ≤ ((10:Nat) : Int); omega⟩,?_⟩;conv=>whnf
       have hsz : (Qy9.extract u (u + 1)).size ≤ 1 := by rw [Qg4 (by omega),Qaz]; exact Nat.le_refl _
       refine ⟨sz2 (a := ⟨#[45]⟩) (b := Qy9.extract u (u + 1)) (by decide) (by omega),?_⟩;conv=>whnf
       exact ⟨by rw [← Q3v (by omega) (by omega)]; rfl,Ext.refl _⟩
     · intro hg
       have hg : ¬ -10 < -(u:Int) := by simpa using hg
       have h10 : 10 ≤ u := by omega
       (conv=>whnf);repeat(refine Sg ?_;(conv=>whnf))
       refine Dr .ext [0,1,3,4,5,6,7,8,9,10,11,2,12,13] [] ?_;conv=>whnf
       have hx : Ext w w.drew := (Ext.refl w).drew
       generalize w.drew = w1 at hx ⊢
       refine ⟨-((u / 10 : Nat) : Int),⟨by decide,wrap_eq e1.symm ⟨by rw [e1]; omega,by rw [e1]; omega⟩⟩,?_⟩;conv=>whnf
       refine ⟨-((u % 10 : Nat) : Int),⟨by decide,e2.symm⟩,?_⟩;conv=>whnf
       refine ⟨((u % 10 : Nat) : Int),wrap_eq (by omega) ⟨by omega,by omega⟩,?_⟩;conv=>whnf
       refine ⟨-((u % 10 : Nat) : Int),⟨by decide,e2.symm⟩,?_⟩;conv=>whnf
       refine ⟨((u % 10 : Nat) : Int),wrap_eq (by omega) ⟨by omega,by omega⟩,?_⟩;conv=>whnf
       refine ⟨((u % 10 + 1 : Nat) : Int),wrap_eq (by omega) ⟨by omega,by omega⟩,?_⟩;conv=>whnf
       refine ⟨⟨by omega,by omega,by show ((u % 10 + 1 : Nat) : Int) ≤ ((10:Nat) : Int); omega⟩,?_⟩;conv=>whnf
       refine (ih (u / 10) (by omega) (-((u / 10 : Nat) : Int)) (by omega) (by omega) (by omega) w1).mono ?_
       rintro _ w2 ⟨rfl,hx2⟩
       have hsz : (Qy9.extract (u % 10) (u % 10 + 1)).size ≤ 1 := by rw [Qg4 (by omega),Qaz]; exact Nat.le_refl _
       refine ⟨hx2,?_⟩;conv=>whnf
       refine ⟨sz2 (a := Qdw (-((u / 10 : Nat) : Int))) (b := Qy9.extract (u % 10) (u % 10 + 1)) (Qv5 _ (by omega) (by omega)) (by omega),?_⟩;conv=>whnf
       exact ⟨by rw [← Q6f h10]; rfl,hx.trans hx2⟩
   · intro h
     have h : ¬ -(u:Int) < 0 := by simpa using h
     omega
 · obtain ⟨u,rfl⟩ : ∃ u : Nat,n = (u:Int) := ⟨n.toNat,by omega⟩
   have e1 : (u:Int).tdiv 10 = ((u / 10 : Nat) : Int) := rfl
   have e2 : (u:Int).tmod 10 = ((u % 10 : Nat) : Int) := rfl
   refine Fi Tryz.func61 rfl _ rfl rfl ?_;conv=>whnf
   constructor
   · intro h
     have h : (u:Int) < 0 := by simpa using h
     omega
   intro _
   conv=>whnf
   constructor
   · intro hg
     have hg : (u:Int) < 10 := by simpa using hg
     conv=>whnf
     refine ⟨((u + 1 : Nat) : Int),wrap_eq (by omega) ⟨by omega,by omega⟩,?_⟩;conv=>whnf
     refine ⟨⟨by omega,by omega,by show ((u + 1 : Nat) : Int) ≤ ((10:Nat) : Int); omega⟩,?_⟩;conv=>whnf
     exact ⟨by rw [← Q3w (by omega)]; rfl,Ext.refl _⟩
   · intro hg
     have hg : ¬ (u:Int) < 10 := by simpa using hg
     have h10 : 10 ≤ u := by omega
     (conv=>whnf);repeat(refine Sg ?_;(conv=>whnf))
     refine Dr .ext [0,1,3,4,5,6,7,8,9,2,10,11] [] ?_;conv=>whnf
     have hx : Ext w w.drew := (Ext.refl w).drew
     generalize w.drew = w1 at hx ⊢
     refine ⟨((u / 10 : Nat) : Int),⟨by decide,wrap_eq e1.symm ⟨by rw [e1]; omega,by rw [e1]; omega⟩⟩,?_⟩;conv=>whnf
     refine ⟨((u % 10 : Nat) : Int),⟨by decide,e2.symm⟩,?_⟩;conv=>whnf
     refine ⟨((u % 10 : Nat) : Int),⟨by decide,e2.symm⟩,?_⟩;conv=>whnf
     refine ⟨((u % 10 + 1 : Nat) : Int),wrap_eq (by omega) ⟨by omega,by omega⟩,?_⟩;conv=>whnf
     refine ⟨⟨by omega,by omega,by show ((u % 10 + 1 : Nat) : Int) ≤ ((10:Nat) : Int); omega⟩,?_⟩;conv=>whnf
     refine (ih (u / 10) (by omega) ((u / 10 : Nat) : Int) (by omega) (by omega) (by omega) w1).mono ?_
     rintro _ w2 ⟨rfl,hx2⟩
     have hsz : (Qy9.extract (u % 10) (u % 10 + 1)).size ≤ 1 := by rw [Qg4 (by omega),Qaz]; exact Nat.le_refl _
     refine ⟨hx2,?_⟩;conv=>whnf
     refine ⟨sz2 (a := Qdw ((u / 10 : Nat) : Int)) (b := Qy9.extract (u % 10) (u % 10 + 1)) (Qv5 _ (by omega) (by omega)) (by omega),?_⟩;conv=>whnf
     exact ⟨by rw [← Q6g h10]; rfl,hx.trans hx2⟩
end Go.Proofs.YtnnnbjjenknpeaaGreatDoor
