/- Several texts in one: Lr1, Opp, Ope. -/
import Derived.Test.YtdahooejkjcjiaaGreatDoorGXE
import Derived.Test.YtdahooejkjcjiaaGreatDoorHSam
import Derived.Test.YtdahooejkjcjiaaGreatDoorHOpc
set_option linter.unusedVariables false
set_option linter.unusedSimpArgs false
namespace Go.Proofs.YtdahooejkjcjiaaGreatDoor
open Go.Se Go.RowKit
end Go.Proofs.YtdahooejkjcjiaaGreatDoor
namespace Go.Proofs.YtdahooejkjcjiaaGreatDoor
open Go.ChangeShapes Go.WideShapes Go.ChangeAt Go.RowKit Go.Deep Go.Se
set_option maxRecDepth 100000 in
theorem Q58 {W:World} {b0:Nat} {r:Reach} {v:Value} (hval:Value.okWide Tryz.prog W r b0 34 v) : ∃ e : Ev,v = evV e := by
 have hu : Tryz.prog.underlying 34 = some (.struct (Tryz.prog.fieldsOf 34)) := by kernel_rfl
 have hti : Tryz.prog.underlying 3 = some (.int .i64) := by kernel_rfl
 have htk : Tryz.prog.underlying 32 = some (.int .i64) := by kernel_rfl
 have hts : Tryz.prog.underlying 9 = some .string := by kernel_rfl
 have hct : Tryz.prog.cellTypes Tryz.prog.depth 34 = some [9,3,3,32,9,9,3,9] := by kernel_rfl
 have hcn : Tryz.prog.cellsOf 34 = 8 := by kernel_rfl
 simp only [Value.okWide,hu] at hval
 obtain ⟨cs,rfl,hsz,ts,h1,_,hc⟩ := hval
 obtain rfl := Option.some.inj (hct.symm.trans h1)
 rw [hcn] at hsz
 obtain ⟨cl⟩ := cs
 have hsz : cl.length = 8 := hsz
 have hin : ∀ i v,nth cl i = some v → i = 1 ∨ i = 2 ∨ i = 6 → ∃ q,v = .int .i64 q := by
  intro i v hv hi
  rw [Qaw] at hv
  obtain ⟨u,hu1,hu2⟩ := hc i v (by simpa using hv)
  have hu3 : u = 3 := by rcases hi with rfl | rfl | rfl <;> exact (Option.some.inj hu1).symm
  subst hu3
  exact okWide_int hti (by simp only [Value.okWide,hti]; exact hu2)
 have hki : ∀ v,nth cl 3 = some v → ∃ q,v = .int .i64 q := by
  intro v hv
  rw [Qaw] at hv
  obtain ⟨u,hu1,hu2⟩ := hc 3 v (by simpa using hv)
  have hu3 : u = 32 := (Option.some.inj hu1).symm
  subst hu3
  exact okWide_int htk (by simp only [Value.okWide,htk]; exact hu2)
 have hst : ∀ i v,nth cl i = some v → i = 0 ∨ i = 4 ∨ i = 5 ∨ i = 7 → ∃ s,v = .string s := by
  intro i v hv hi
  rw [Qaw] at hv
  obtain ⟨u,hu1,hu2⟩ := hc i v (by simpa using hv)
  have hu3 : u = 9 := by rcases hi with rfl | rfl | rfl | rfl <;> exact (Option.some.inj hu1).symm
  subst hu3
  exact okWide_string hts (by simp only [Value.okWide,hts]; exact hu2)
 clear hc
 match cl,hsz with
 | [x0,x1,x2,x3,x4,x5,x6,x7],_ =>
   obtain ⟨s0,rfl⟩ := hst 0 x0 rfl (by decide)
   obtain ⟨q1,rfl⟩ := hin 1 x1 rfl (by decide)
   obtain ⟨q2,rfl⟩ := hin 2 x2 rfl (by decide)
   obtain ⟨q3,rfl⟩ := hki x3 rfl
   obtain ⟨s4,rfl⟩ := hst 4 x4 rfl (by decide)
   obtain ⟨s5,rfl⟩ := hst 5 x5 rfl (by decide)
   obtain ⟨q6,rfl⟩ := hin 6 x6 rfl (by decide)
   obtain ⟨s7,rfl⟩ := hst 7 x7 rfl (by decide)
   exact ⟨⟨s0,q1,q2,q3,s4,s5,q6,s7⟩,rfl⟩
end Go.Proofs.YtdahooejkjcjiaaGreatDoor
