import GoSem.ClaimGoes
/- A program in which no function starts a goroutine: no claim of it goes,whatever its closure is. -/
set_option linter.unusedVariables false
set_option linter.unusedSimpArgs false
namespace Go.Proofs.YtohkipkjleldpaaGreatDoor
open Go
theorem Qr2 {P:Program} (h:P.funcs.any Func.goes=false) (f:FuncId):P.goes f=false:=by
 have hg:∀ g:FuncId,(P.funcs[g]?).any Func.goes=false:=fun g=>by
  cases hq:P.funcs[g]? with
  | none=>rfl
  | some fn =>
    rw[Array.any_eq_false'] at h;have:=h fn (Array.mem_of_getElem? hq)
    simpa using this
 unfold Program.goes;rw[h]
 simp[hg]
theorem Qzw {P:Program} (h:P.funcs.any Func.goes=false) (c:OpenClaim):false=c.goesBy P:=by
 unfold OpenClaim.goesBy Program.goesAt Program.goesFrom
 have h1:(P.funcNamed c.func).any P.goes=false:=by
  cases P.funcNamed c.func with
  | none=>rfl
  | some f=>exact Qr2 h f
 rw[h1]
 cases c.start <;> simp[Qr2 h]
theorem Q7q {P:Program} (h:P.funcs.toList.any Func.goes=false):P.funcs.any Func.goes=false:=by
 rw[← Array.any_toList];exact h
end Go.Proofs.YtohkipkjleldpaaGreatDoor
