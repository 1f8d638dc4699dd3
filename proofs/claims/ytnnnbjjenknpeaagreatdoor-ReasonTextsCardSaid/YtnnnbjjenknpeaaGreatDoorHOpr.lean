import Derived.Test.YtnnnbjjenknpeaaGreatDoorHOpc
import Derived.Test.YtnnnbjjenknpeaaGreatDoorHTx1
/- Opening a reason. -/
set_option linter.unusedVariables false
set_option linter.unusedSimpArgs false
namespace Go.Proofs.YtnnnbjjenknpeaaGreatDoor
open Go.ChangeShapes Go.WideShapes Go.ChangeAt Go.RowKit Go.Deep Go.Se
set_option maxRecDepth 100000 in
theorem Qtn {H:Type} {enc:TypeId × Value → H} {W:World} {b0:Nat} {r:Reach} {v:Value} {d:DataW H} {p:List MemPlace} (hval:Value.okWide Tryz.prog W r b0 36 v)
 (h:DataW.Trod enc Tryz.prog W 0 (fun _ => true) true 36 v d p) : ∃ (item:ByteArray) (A1:Option Addr) (c1:Nat) (Q:List Pt) (tot:Int) (A2:Option Addr) (c2:Nat) (O:List Ev) (f:Int),v = .agg (rsC item A1 Q.length c1 tot A2 O.length c2 f).toArray ∧ Sl ptC 3 W A1 Q ∧ SlE W A2 O ∧ Qgn tot ∧ Qgn f ∧ ∀ x ∈ Q,Q7f x := by
 have hu : Tryz.prog.underlying 36 = some (.struct (Tryz.prog.fieldsOf 36)) := by kernel_rfl
 have hfl : Qpv Tryz.prog 36 = [("Item", 9, 0), ("Parts", 34, 1), ("Total", 2, 2), ("Own", 24, 3), ("Fans", 3, 4)] := by kernel_rfl
 have hti : Tryz.prog.underlying 3 = some (.int .i64) := by kernel_rfl
 have htj : Tryz.prog.underlying 2 = some (.int .i64) := by kernel_rfl
 have hts : Tryz.prog.underlying 9 = some .string := by kernel_rfl
 have htl : Tryz.prog.underlying 24 = some (.slice 53) := by kernel_rfl
 have htp : Tryz.prog.underlying 34 = some (.slice 43) := by kernel_rfl
 have hct : Tryz.prog.cellTypes Tryz.prog.depth 36 = some [9,34,2,24,3] := by kernel_rfl
 have hcn : Tryz.prog.cellsOf 36 = 5 := by kernel_rfl
 simp only [Value.okWide,hu] at hval
 obtain ⟨cs,rfl,hsz,ts,h1,_,hc⟩ := hval
 obtain rfl := Option.some.inj (hct.symm.trans h1)
 rw [hcn] at hsz
 obtain ⟨cl⟩ := cs
 have hsz : cl.length = 5 := hsz
 have hst : ∀ v,nth cl 0 = some v → ∃ s,v = .string s := by
  intro v hv
  rw [Xk] at hv
  obtain ⟨u,hu1,hu2⟩ := hc 0 v (by simpa using hv)
  have hu3 : u = 9 := (Option.some.inj hu1).symm
  subst hu3
  exact okWide_string hts (by simp only [Value.okWide,hts]; exact hu2)
 have hsp : ∀ v,nth cl 1 = some v → Value.okWide Tryz.prog W r b0 34 v := by
  intro v hv
  rw [Xk] at hv
  obtain ⟨u,hu1,hu2⟩ := hc 1 v (by simpa using hv)
  have hu3 : u = 34 := (Option.some.inj hu1).symm
  subst hu3
  simp only [Value.okWide,htp]
  exact hu2
 have hsl : ∀ v,nth cl 3 = some v → Value.okWide Tryz.prog W r b0 24 v := by
  intro v hv
  rw [Xk] at hv
  obtain ⟨u,hu1,hu2⟩ := hc 3 v (by simpa using hv)
  have hu3 : u = 24 := (Option.some.inj hu1).symm
  subst hu3
  simp only [Value.okWide,htl]
  exact hu2
 clear hc
 obtain ⟨fuel,hf⟩ := h
 obtain ⟨xs,m,_,_,_,hlen,hff⟩ := DataW.trod_struct hu hf
 have hsize : (Tryz.prog.fieldsOf 36).size = 5 := by
  have := congrArg List.length hfl
  simpa [Qpv] using this
 have fld : ∀ j nm t off,nth (Qpv Tryz.prog 36) j = some (nm,t,off) → ∃ f,(Tryz.prog.fieldsOf 36)[j]? = some f ∧ f.type = t ∧ f.offset = off := by
  intro j nm t off hj
  rw [Xk] at hj
  unfold Qpv at hj
  rw [List.getElem?_map,Array.getElem?_toList] at hj
  cases hg : (Tryz.prog.fieldsOf 36)[j]? with
  | none => rw [hg] at hj; simp at hj
  | some f => rw [hg] at hj; simp at hj; exact ⟨f,rfl,hj.2.1,hj.2.2⟩
 have hce : Tryz.prog.cellsOf 24 = 1 := by kernel_rfl
 have hcp : Tryz.prog.cellsOf 34 = 1 := by kernel_rfl
 have hcj : Tryz.prog.cellsOf 2 = 1 := by kernel_rfl
 have hci : Tryz.prog.cellsOf 3 = 1 := by kernel_rfl
 have get : ∀ j t off,(∃ nm,nth (Qpv Tryz.prog 36) j = some (nm,t,off)) → j < 5 → Tryz.prog.cellsOf t = 1 → ∃ y,DataW.trod enc Tryz.prog W 0 (fun _ => true) true m t ((cl.drop off).take 1) = some y := by
  rintro j t off ⟨nm,hj⟩ h5 h1
  obtain ⟨f,hf1,hf2,hf3⟩ := fld j nm t off hj
  have h := hff j f hf1
  rw [hf2,hf3,h1] at h
  exact ⟨xs[j]'(by omega),by rw [← List.getElem?_eq_getElem (by omega)]; exact h⟩
 obtain ⟨y1,hy1⟩ := get 1 34 1 ⟨_,by rw [hfl]; rfl⟩ (by decide) hcp
 obtain ⟨y2,hy2⟩ := get 2 2 2 ⟨_,by rw [hfl]; rfl⟩ (by decide) hcj
 obtain ⟨y3,hy3⟩ := get 3 24 3 ⟨_,by rw [hfl]; rfl⟩ (by decide) hce
 obtain ⟨y4,hy4⟩ := get 4 3 4 ⟨_,by rw [hfl]; rfl⟩ (by decide) hci
 match cl,hsz with
 | [x0,x1,x2,x3,x4],_ =>
   obtain ⟨item,rfl⟩ := hst x0 rfl
   obtain ⟨tot,hv2,_,w2⟩ := DataW.trod_int htj hy2
   obtain rfl : x2 = .int .i64 tot := by simpa using hv2
   obtain ⟨f,hv4,_,w4⟩ := DataW.trod_int hti hy4
   obtain rfl : x4 = .int .i64 f := by simpa using hv4
   have h1 := hsp x1 rfl
   obtain ⟨A1,n1,c1,rfl⟩ : ∃ A n c,x1 = .slice A n c := okWide_slice htp h1
   obtain ⟨B1,d1,Q,he1,_,_,hq,hqi⟩ := Qx2 (d := y1.1) (p := y1.2) h1 ⟨m,hy1⟩
   injection he1 with e1 e2 e3
   subst e1; subst e2; subst e3
   have h3 := hsl x3 rfl
   obtain ⟨A2,n2,c2,rfl⟩ : ∃ A n c,x3 = .slice A n c := okWide_slice htl h3
   obtain ⟨B2,d2,O,he2,_,_,ho,_⟩ := Qlj (d := y3.1) (p := y3.2) h3 ⟨m,hy3⟩
   injection he2 with e4 e5 e6
   subst e4; subst e5; subst e6
   exact ⟨item,A1,c1,Q,tot,A2,c2,O,f,rfl,hq,ho,Qkh w2,Qkh w4,fun x hx => (hqi x hx).2⟩
end Go.Proofs.YtnnnbjjenknpeaaGreatDoor
