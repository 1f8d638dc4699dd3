import Derived.Test.YtnnnbjjenknpeaaGreatDoorHOpc
import Derived.Test.YtnnnbjjenknpeaaGreatDoorHLr1
/- Opening what is played: a config,events,weights,a person,a thing,a now. -/
set_option linter.unusedVariables false
set_option linter.unusedSimpArgs false
namespace Go.Proofs.YtnnnbjjenknpeaaGreatDoor
open Go.ChangeShapes Go.WideShapes Go.ChangeAt Go.RowKit Go.Deep Go.Se
set_option maxRecDepth 100000 in
theorem Qzw {H:Type} {enc:TypeId × Value → H} {W:World} {b0:Nat} {r:Reach} {v:Value} {d:DataW H} {p:List MemPlace} (hval:Value.okWide Tryz.prog W r b0 28 v)
 (h:DataW.Trod enc Tryz.prog W 0 (fun _ => true) true 28 v d p) : ∃ (c:Cfg) (A:Option Addr) (l:List Ev) (cap:Nat) (a:Nat → Int) (person item:ByteArray) (now:Int),v = .agg (plC c A l.length cap a person item now).toArray ∧ SlE W A l := by
 have hu : Tryz.prog.underlying 28 = some (.struct (Tryz.prog.fieldsOf 28)) := by kernel_rfl
 have hfl : Q2k Tryz.prog 28 = [("C", 23, 0), ("L", 24, 6), ("Ws", 26, 7), ("Person", 9, 13), ("Item", 9, 14), ("Now", 3, 15)] := by kernel_rfl
 have hti : Tryz.prog.underlying 3 = some (.int .i64) := by kernel_rfl
 have hts : Tryz.prog.underlying 9 = some .string := by kernel_rfl
 have htl : Tryz.prog.underlying 24 = some (.slice 53) := by kernel_rfl
 have hct : Tryz.prog.cellTypes Tryz.prog.depth 28 = some [3,3,3,3,3,3,24,3,3,3,3,3,3,9,9,3] := by kernel_rfl
 have hcn : Tryz.prog.cellsOf 28 = 16 := by kernel_rfl
 simp only [Value.okWide,hu] at hval
 obtain ⟨cs,rfl,hsz,ts,h1,_,hc⟩ := hval
 obtain rfl := Option.some.inj (hct.symm.trans h1)
 rw [hcn] at hsz
 obtain ⟨cl⟩ := cs
 have hsz : cl.length = 16 := hsz
 have hin : ∀ i v,nth cl i = some v → i % 16 ≠ 6 → i % 16 ≠ 13 → i % 16 ≠ 14 → ∃ q,v = .int .i64 q := by
  intro i v hv n1 n2 n3
  rw [X3] at hv
  obtain ⟨u,hu1,hu2⟩ := hc i v (by simpa using hv)
  have hlt : i % 16 < 16 := Nat.mod_lt _ (by decide)
  have hu3 : u = 3 := by
   have hl : ([3,3,3,3,3,3,24,3,3,3,3,3,3,9,9,3] : List Nat)[i % 16]? = some u := hu1
   generalize i % 16 = j at hl hlt n1 n2 n3
   rcases j with _ | _ | _ | _ | _ | _ | _ | _ | _ | _ | _ | _ | _ | _ | _ | _ | j <;> first | omega | (simp at hl; exact hl.symm)
  subst hu3
  exact okWide_int hti (by simp only [Value.okWide,hti]; exact hu2)
 have hst : ∀ i v,nth cl i = some v → i = 13 ∨ i = 14 → ∃ s,v = .string s := by
  intro i v hv hi
  rw [X3] at hv
  obtain ⟨u,hu1,hu2⟩ := hc i v (by simpa using hv)
  have hu3 : u = 9 := by rcases hi with rfl | rfl <;> exact (Option.some.inj hu1).symm
  subst hu3
  exact okWide_string hts (by simp only [Value.okWide,hts]; exact hu2)
 have hsl : ∀ v,nth cl 6 = some v → Value.okWide Tryz.prog W r b0 24 v := by
  intro v hv
  rw [X3] at hv
  obtain ⟨u,hu1,hu2⟩ := hc 6 v (by simpa using hv)
  have hu3 : u = 24 := (Option.some.inj hu1).symm
  subst hu3
  simp only [Value.okWide,htl]
  exact hu2
 clear hc
 obtain ⟨fuel,hf⟩ := h
 obtain ⟨xs,m,_,_,_,hlen,hff⟩ := DataW.trod_struct hu hf
 have hsize : (Tryz.prog.fieldsOf 28).size = 6 := by
  have := congrArg List.length hfl
  simpa [Q2k] using this
 obtain ⟨f1,hf1,hf2,hf3⟩ : ∃ f,(Tryz.prog.fieldsOf 28)[1]? = some f ∧ f.type = 24 ∧ f.offset = 6 := by
  have hj := congrArg (fun l => l[1]?) hfl
  unfold Q2k at hj
  simp only [List.getElem?_map,Array.getElem?_toList] at hj
  cases hg : (Tryz.prog.fieldsOf 28)[1]? with
  | none => rw [hg] at hj; simp at hj
  | some f => rw [hg] at hj; simp at hj; exact ⟨f,rfl,hj.2.1,hj.2.2⟩
 have hev := hff 1 f1 hf1
 rw [hf2,hf3] at hev
 match cl,hsz with
 | [x0,x1,x2,x3,x4,x5,x6,x7,x8,x9,x10,x11,x12,x13,x14,x15],_ =>
   obtain ⟨q0,rfl⟩ := hin 0 x0 rfl (by decide) (by decide) (by decide)
   obtain ⟨q1,rfl⟩ := hin 1 x1 rfl (by decide) (by decide) (by decide)
   obtain ⟨q2,rfl⟩ := hin 2 x2 rfl (by decide) (by decide) (by decide)
   obtain ⟨q3,rfl⟩ := hin 3 x3 rfl (by decide) (by decide) (by decide)
   obtain ⟨q4,rfl⟩ := hin 4 x4 rfl (by decide) (by decide) (by decide)
   obtain ⟨q5,rfl⟩ := hin 5 x5 rfl (by decide) (by decide) (by decide)
   obtain ⟨q7,rfl⟩ := hin 7 x7 rfl (by decide) (by decide) (by decide)
   obtain ⟨q8,rfl⟩ := hin 8 x8 rfl (by decide) (by decide) (by decide)
   obtain ⟨q9,rfl⟩ := hin 9 x9 rfl (by decide) (by decide) (by decide)
   obtain ⟨q10,rfl⟩ := hin 10 x10 rfl (by decide) (by decide) (by decide)
   obtain ⟨q11,rfl⟩ := hin 11 x11 rfl (by decide) (by decide) (by decide)
   obtain ⟨q12,rfl⟩ := hin 12 x12 rfl (by decide) (by decide) (by decide)
   obtain ⟨s13,rfl⟩ := hst 13 x13 rfl (.inl rfl)
   obtain ⟨s14,rfl⟩ := hst 14 x14 rfl (.inr rfl)
   obtain ⟨q15,rfl⟩ := hin 15 x15 rfl (by decide) (by decide) (by decide)
   have h6 := hsl x6 rfl
   obtain ⟨A0,n0,c0,rfl⟩ : ∃ A n c,x6 = .slice A n c := okWide_slice htl h6
   have hce : Tryz.prog.cellsOf 24 = 1 := by kernel_rfl
   rw [hce] at hev
   have hx1 : ∃ y,xs[1]? = some y := ⟨xs[1]'(by omega),List.getElem?_eq_getElem (by omega)⟩
   obtain ⟨y,hy⟩ := hx1
   rw [hy] at hev
   obtain ⟨A,c,l,he,_,_,hsl2,_⟩ := Qsr (d := y.1) (p := y.2) h6 ⟨m,hev⟩
   injection he with e1 e2 e3
   subst e1; subst e2; subst e3
   refine ⟨⟨q0,q1,q2,q3,q4,q5⟩,A0,l,c0,fun k => [q7,q8,q9,q10,q11,q12].getD k 0,s13,s14,q15,rfl,hsl2⟩
end Go.Proofs.YtnnnbjjenknpeaaGreatDoor
