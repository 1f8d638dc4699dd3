import Derived.Test.YtnnnbjjenknpeaaGreatDoorGK
import Derived.Test.YtnnnbjjenknpeaaGreatDoorGR
/- Opening configs,and slices of parts. -/
set_option linter.unusedVariables false
set_option linter.unusedSimpArgs false
namespace Go.Proofs.YtnnnbjjenknpeaaGreatDoor
open Go.ChangeShapes Go.WideShapes Go.ChangeAt Go.RowKit Go.Deep Go.Se
set_option maxRecDepth 100000 in
theorem Qx2 {H:Type} {enc:TypeId × Value → H} {W:World} {b0:Nat} {r:Reach} {v:Value} {d:DataW H} {p:List MemPlace} (hval:Value.okWide Tryz.prog W r b0 34 v)
 (h:DataW.Trod enc Tryz.prog W 0 (fun _ => true) true 34 v d p) : ∃ (A:Option Addr) (c:Nat) (l:List Pt),v = .slice A l.length c ∧ l.length ≤ c ∧ c ≤ maxLen ∧ Sl ptC 3 W A l ∧ ∀ x ∈ l,Qgn x.1 ∧ Qgn x.2.1 ∧ Qgn x.2.2 := by
 have ht : Tryz.prog.underlying 34 = some (.slice 43) := by kernel_rfl
 have hs := st43
 obtain ⟨A0,n0,c0,rfl⟩ : ∃ A n c,v = .slice A n c := okWide_slice ht hval
 obtain ⟨fuel,hf⟩ := h
 have hsize : (Tryz.prog.fieldsOf 43).size = 3 := by
  have := congrArg List.length hs.fields
  simpa [Qpv] using this
 rcases Qcc ht hs.und (by kernel_rfl) (by rw [hsize]; kernel_rfl) hf with ⟨h0,_⟩ | ⟨a,len,cap,m,D,Pl,hcs,_,hlc,hcm,hm,_,hi⟩
 · have e1 : Value.slice A0 n0 c0 = .slice none 0 0 := by simpa [Value.cells] using h0
   injection e1 with e1 e2 e3
   subst e1; subst e2; subst e3
   exact ⟨none,0,[],rfl,by simp,by simp [maxLen],Sl.nil,by simp⟩
 · have e1 : Value.slice A0 n0 c0 = .slice (some a) len cap := by simpa [Value.cells] using hcs
   injection e1 with e1 e2 e3
   subst e1; subst e2; subst e3
   have hlm : n0 ≤ m := by rw [hm]; split <;> omega
   rw [hsize] at hi
   have hfield : ∀ j nm t off,nth (Qpv Tryz.prog 43) j = some (nm,t,off) → ∃ f,(Tryz.prog.fieldsOf 43)[j]? = some f ∧ f.type = t := by
    intro j nm t off hj
    rw [Xk] at hj
    unfold Qpv at hj
    rw [List.getElem?_map,Array.getElem?_toList] at hj
    cases hg : (Tryz.prog.fieldsOf 43)[j]? with
    | none => rw [hg] at hj; simp at hj
    | some f => rw [hg] at hj; simp at hj; exact ⟨f,rfl,hj.2.1⟩
   have hs3 : Tryz.prog.underlying 2 = some (.int .i64) := by kernel_rfl
   have hs31 : Tryz.prog.underlying 41 = some (.int .i64) := by kernel_rfl
   obtain ⟨l,hl,hp⟩ := Qtg (Φ := fun i (e:Pt) => Xn W (a.add (i * 3)) (ptC e) ∧ Qgn e.1 ∧ Qgn e.2.1 ∧ Qgn e.2.2) (n := n0) (fun i hin => by
    obtain ⟨ys,n,_,_,hyl,hc⟩ := hi i (by omega)
    have int : ∀ j nm t off,Tryz.prog.underlying t = some (.int .i64) → nth (Qpv Tryz.prog 43) j = some (nm,t,off) → ∃ q : Int,W.cell? (a.add (i * 3 + j)) = some (.int .i64 q) ∧ Qgn q := by
     intro j nm t off ht hj
     obtain ⟨f,hf1,hf2⟩ := hfield j nm _ off hj
     obtain ⟨v,y,hcell,_,hy⟩ := hc j f hf1
     rw [hf2] at hy
     obtain ⟨q,hv,_,hwf⟩ := DataW.trod_int ht hy
     obtain rfl : v = .int .i64 q := by simpa using hv
     exact ⟨q,hcell,Qkh hwf⟩
    obtain ⟨s0, c0, o0⟩ := int 0 "What" _ 0 hs31 (by rw [hs.fields]; rfl)
    obtain ⟨s1, c1, o1⟩ := int 1 "Raw" _ 1 hs3 (by rw [hs.fields]; rfl)
    obtain ⟨s2, c2, o2⟩ := int 2 "Points" _ 2 hs3 (by rw [hs.fields]; rfl)
    refine ⟨(s0,s1,s2),fun j v hj => ?_,⟨o0,o1,o2⟩⟩
    rw [Q5]
    match j,hj with
    | 0,hj => simp [ptC] at hj; rw [← hj]; exact c0
    | 1,hj => simp [ptC] at hj; rw [← hj]; exact c1
    | 2,hj => simp [ptC] at hj; rw [← hj]; exact c2
    | j + 3,hj => simp [ptC] at hj)
   refine ⟨some a,c0,l,by rw [hl],by omega,hcm,fun i x hix => ⟨a,rfl,(hp i x hix).1⟩,fun e he => ?_⟩
   obtain ⟨i,hi',rfl⟩ := List.getElem_of_mem he
   exact (hp i _ (List.getElem?_eq_getElem hi')).2
end Go.Proofs.YtnnnbjjenknpeaaGreatDoor
