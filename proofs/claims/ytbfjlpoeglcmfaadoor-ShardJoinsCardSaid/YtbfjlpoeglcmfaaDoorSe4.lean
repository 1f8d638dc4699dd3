
/- Operations that change memory; regions, in the text's order and in whatever order. -/
import Derived.Test.YtbfjlpoeglcmfaaDoorSe3
import Derived.Great.BuildSlice
set_option linter.unusedVariables false
set_option linter.unusedSimpArgs false
namespace Go.Se
open Go.RowKit

inductive RunE (P : Program) (s : Sem Value) (w : World) (R : Value → World → Prop) : Prop
  | mk (v : Value) (w' : World) (h : s.run P w = .ok v w') (r : R v w') : RunE P s w R
inductive RunU (P : Program) (s : Sem Unit) (w : World) (R : Value → World → Prop) : Prop
  | mk (w' : World) (h : s.run P w = .ok () w') (r : R undef w') : RunU P s w R
def FnOk (P : Program) (f : FuncId) : Prop := ∃ fn, P.funcs[f]? = some fn ∧ (fn.name == "runtime.NumGoroutine") = false ∧ fn.body.isNone = false
/-- The call of function f returns; R holds of what it returns, and of the world behind it. -/
structure Cal (P : Program) (f : FuncId) (args : List Value) (w : World) (R : Value → World → Prop) : Prop where
  ok : FnOk P f
  calls : Calls P f args.toArray w fun e w' => ∃ v, e = .returned v ∧ R v w'
theorem Cal.mono {P : Program} {f : FuncId} {args : List Value} {w : World} {R R' : Value → World → Prop} (h : Cal P f args w R) (hr : ∀ v w', R v w' → R' v w') : Cal P f args w R' :=
  ⟨h.ok, h.calls.mono fun _ _ ⟨v, he, hv⟩ => ⟨v, he, hr v _ hv⟩⟩

/-- A new block. -/
structure New (w w1 : World) (b : Nat) (o : Obj) : Prop where
  world : w1 = w.alloc o
  block : b = w.heap.size
theorem New.size {w w1 : World} {b : Nat} {o : Obj} (h : New w w1 b o) : w1.heap.size = w.heap.size + 1 := by rw [h.world]; simp
theorem New.ext {w w1 : World} {b : Nat} {o : Obj} (h : New w w1 b o) : Ext w w1 := by rw [h.world]; exact (Below.refl _ _).alloc (Nat.le_refl _) o
theorem New.at_ {w w1 : World} {b : Nat} {o : Obj} (h : New w w1 b o) : w1.heap[b]? = some o := by rw [h.world, h.block]; exact heap_alloc_new w o

/-- A block holds just these cells. -/
def At (w : World) (b : Nat) (t : TypeId) (l : List Value) : Prop := w.heap[b]? = some (.cells l.toArray t (0, 0))
theorem New.At {w w1 : World} {b : Nat} {t : TypeId} {l : List Value} (h : New w w1 b (.cells l.toArray t)) : At w1 b t l := h.at_
theorem At.lt {w : World} {b : Nat} {t : TypeId} {l : List Value} (h : At w b t l) : b < w.heap.size := by
  unfold At at h
  rcases Nat.lt_or_ge b w.heap.size with hlt | hge
  · exact hlt
  · rw [Array.getElem?_eq_none hge] at h; cases h
theorem At.ext {w w' : World} {b : Nat} {t : TypeId} {l : List Value} (h : At w b t l) (hx : Ext w w') : At w' b t l := (hx.block b h.lt).trans h
theorem At.mod {w w' : World} {b : Nat} {t : TypeId} {l : List Value} {S : Nat → Prop} (h : At w b t l) (hx : Mod S w w') (hs : ¬ S b) : At w' b t l := (hx.block b h.lt hs).trans h
theorem At.cell {w : World} {b : Nat} {t : TypeId} {l : List Value} (h : At w b t l) (k : Nat) : w.cell? ⟨b, k, none⟩ = l[k]? := by
  unfold At at h
  simp [World.cell?, h]
theorem add_zero_addr (b k : Nat) : (⟨b, 0, none⟩ : Addr).add k = ⟨b, k, none⟩ := by unfold Addr.add; split <;> simp_all
theorem add_off_addr (b o k : Nat) : (⟨b, o, none⟩ : Addr).add k = ⟨b, o + k, none⟩ := by unfold Addr.add; split <;> simp_all
theorem add_add_addr (a : Addr) (i j : Nat) : (a.add i).add j = a.add (i + j) := by
  unfold Addr.add
  by_cases hi : i = 0 <;> by_cases hj : j = 0 <;> simp [hi, hj, Nat.add_assoc]
theorem At.one {w : World} {b : Nat} {t : TypeId} {l : List Value} (h : At w b t l) {k : Nat} {v : Value} (hk : nth l k = some v) : w.cell? ((⟨b, 0, none⟩ : Addr).add k) = some v := by
  rw [add_zero_addr, h.cell k, ← nth_eq, hk]
theorem At.one0 {w : World} {b : Nat} {t : TypeId} {l : List Value} {v : Value} (h : At w b t (v :: l)) : w.cell? (⟨b, 0, none⟩ : Addr) = some v := by rw [h.cell 0]; rfl
theorem At.all {w : World} {b : Nat} {t : TypeId} {l : List Value} (h : At w b t l) : CellsAt w ⟨b, 0, none⟩ l := fun j v hj => by rw [add_zero_addr, h.cell j, hj]
theorem At.frozen {w : World} {b : Nat} {t : TypeId} {l : List Value} (h : At w b t l) (k : Nat) : w.frozen? ⟨b, k, none⟩ = false := by
  unfold At at h
  simp [World.frozen?, h]

/-- Cells of a literal []T{..}: each place in its turn. -/
def denseK (n : Nat) : Nat → List (Nat × Value) → (List Value → Prop) → Prop
  | _, [], K => K []
  | k, (i, v) :: ps, K => bif Nat.beq i k then (bif Nat.beq (cellsL v).length n then denseK n (k + 1) ps fun cs => appK (cellsL v) cs K else False) else False
where appK : List Value → List Value → (List Value → Prop) → Prop
  | [], cs, K => K cs
  | x :: xs, cs, K => appK xs cs fun r => K (x :: r)
theorem appK_iff : ∀ {xs cs : List Value} {K : List Value → Prop}, denseK.appK xs cs K → K (xs ++ cs)
  | [], _, _, h => h
  | x :: xs, cs, K, h => appK_iff (xs := xs) (K := fun r => K (x :: r)) h
theorem denseK_iff {n : Nat} : ∀ {ps : List (Nat × Value)} {k : Nat} {K : List Value → Prop}, denseK n k ps K →
    ∃ cs, K cs ∧ cs.length = ps.length * n ∧ ∀ (pre zs : List Value), pre.length = k * n → zs.length = ps.length * n → (n ≠ 0) →
      Instr.fill (fun i => some (i * n, n)) (pre ++ zs).toArray ps = some (pre ++ cs).toArray
  | [], k, K, h => ⟨[], h, by simp, fun pre zs _ hz _ => by
      have : zs = [] := List.eq_nil_of_length_eq_zero (by simpa using hz)
      subst this; rfl⟩
  | (i, v) :: ps, k, K, h => by
    simp only [denseK] at h
    cases h1 : Nat.beq i k <;> simp only [h1, cond_true, cond_false] at h
    cases h2 : Nat.beq (cellsL v).length n <;> simp only [h2, cond_true, cond_false] at h
    have e1 := Nat.eq_of_beq_eq_true h1
    have e2 := Nat.eq_of_beq_eq_true h2
    subst e1
    obtain ⟨cs, hK, hl, hf⟩ := denseK_iff h
    refine ⟨cellsL v ++ cs, appK_iff hK, by simp [hl, e2, Nat.succ_mul, Nat.add_comm], fun pre zs hp hz hn => ?_⟩
    have hvs : v.cells.size = n := by rw [← e2, ← cellsL_eq]; simp
    have hzl : zs.length = n + ps.length * n := by rw [hz]; simp [Nat.succ_mul, Nat.add_comm]
    simp only [Instr.fill]
    rw [if_neg (by simp [hvs, hp]; omega)]
    have : v.cells = (cellsL v).toArray := by rw [← cellsL_eq]
    rw [this, ← Array.foldl_toList]
    simp only [Array.toList_zipIdx]
    rw [foldl_setsL (cellsL v) (pre ++ zs) (i * n) 0]
    have hset : ∀ (vs pre zs : List Value) (k : Nat), pre.length = k → vs.length ≤ zs.length → setsL (pre ++ zs) k vs = (pre ++ vs) ++ zs.drop vs.length := by
      intro vs
      induction vs with
      | nil => intro pre zs k _ _; simp [setsL]
      | cons x vs ih =>
        intro pre zs k hk hle
        cases zs with
        | nil => simp at hle
        | cons z zs =>
          simp only [setsL]
          have : (pre ++ z :: zs).set k x = (pre ++ [x]) ++ zs := by
            rw [List.set_append_right _ _ (by omega)]
            simp [hk]
          rw [this, ih (pre ++ [x]) zs (k + 1) (by simp [hk]) (by simpa using hle)]
          simp
    rw [hset (cellsL v) pre zs (i * n + 0) (by rw [hp]; simp) (by rw [e2, hzl]; omega)]
    have := hf (pre ++ cellsL v) (zs.drop (cellsL v).length) (by simp [hp, e2, Nat.succ_mul]) (by simp [hzl, e2]) hn
    rw [this]
    simp

def effVC (P : Program) (T : Tab) (ev : Operand → Option Value) (o : Oper) (w : World) (R : Value → World → Prop) : Prop :=
  match o.op with
  | .box t x => match ev x with
    | some v => ∀ b w1, New w w1 b (.cells (cellsL v).toArray t) → R (.pointer (some ⟨b, 0, none⟩)) w1
    | none => False
  | .alloc t => match tget T t with
    | some ⟨_, _, _, z⟩ => ∀ b w1, New w w1 b (.cells (cellsL z).toArray t) → R (.pointer (some ⟨b, 0, none⟩)) w1
    | none => False
  | .buildSlice t len parts => match tget T t with
    | some ⟨.slice e n, _, _, _⟩ => bif Nat.beq n 0 then False else match tget T e with
      | some ⟨_, n', _, z⟩ => bif Nat.beq n' n then bif Nat.ble (len * n) 16777216 then match evP ev parts.toList with
        | some ps => bif Nat.beq ps.length len then denseK n 0 ps fun cs => ∀ b w1, New w w1 b (.cells cs.toArray e) → R (.slice (some ⟨b, 0, none⟩) len len) w1 else False
        | none => False else False else False
      | none => False
    | _ => False
  | .makeMap t r => match r with
    | none => ∀ b w1, New w w1 b (.map #[] 0) → R (.map (some b)) w1
    | some x => match tget T t with
      | some ⟨.map _ _, _, _, _⟩ => match ev x with
        | some (.int _ _) => ∀ b w1, New w w1 b (.map #[] 0) → R (.map (some b)) w1
        | _ => False
      | _ => False
  | .makeSlice t l c => match ev l with
    | some vl => match ev c with
      | some vc => RunE P (Instr.makeSlice t vl vc) w R
      | none => False
    | none => False
  | .store t x y => match ev x with
    | some va => match ev y with
      | some v => RunU P (Instr.storeAt t va v) w R
      | none => False
    | none => False
  | .mapUpdate t m k x | .insert t m k x => match ev m with
    | some vm => match ev k with
      | some vk => match ev x with
        | some vx => RunU P (Instr.mapUpdate t vm vk vx) w R
        | none => False
      | none => False
    | none => False
  | .mapEntry t m k => match ev m with
    | some vm => match ev k with
      | some vk => RunE P (Instr.mapEntry t vm vk) w R
      | none => False
    | none => False
  | .entryStore t m k x => match ev m with
    | some vm => match ev k with
      | some vk => match ev x with
        | some vx => RunU P (Instr.entryStore t vm vk vx) w R
        | none => False
      | none => False
    | none => False
  | .range t x => match ev x with
    | some v => RunE P (Instr.range t v) w R
    | none => False
  | .next x s => match ev x with
    | some v => RunE P (Instr.next v s o.type) w R
    | none => False
  | .entry x => match ev x with
    | some v => RunE P (Instr.entry v) w R
    | none => False
  | .convert s d x => match ev x with
    | some v => RunE P (convert s d v) w R
    | none => False
  | .call { callee := .builtin .append, args, argTypes } => match evL ev args.toList with
    | some vs => RunE P (Builtin.append_ argTypes o.type vs.toArray) w R
    | none => False
  | .call { callee := .builtin .copy, args, argTypes } => match evL ev args.toList with
    | some vs => RunE P (Builtin.copy_ argTypes o.type vs.toArray) w R
    | none => False
  | .call { callee := .builtin .delete, args, argTypes } => match evL ev args.toList with
    | some vs => RunE P (Builtin.delete_ argTypes o.type vs.toArray) w R
    | none => False
  | .call { callee := .builtin .clear, args, argTypes } => match evL ev args.toList with
    | some vs => RunE P (Builtin.clear_ argTypes o.type vs.toArray) w R
    | none => False
  | .call { callee := .value f, args, argTypes := _ } => match ev f with
    | some (.func (.func g) xs ys) => match evL ev args.toList with
      | some vs => match xs.toList with
        | [] => match ys.toList with
          | [] => Cal P g vs w R
          | y :: l => Cal P g (vs ++ y :: l) w R
        | x :: l => Cal P g ((x :: l) ++ vs ++ ys.toList) w R
      | none => False
    | _ => False
  | _ => False

section
variable {P : Program} {T : Tab} {ev : Operand → Option Value} {w : World} {R : Value → World → Prop} {a : Act}

theorem wp_runE {o : Oper} {K : Act → World → Prop} {Q : Exit → Act → World → Prop} (s : Sem Value) (hop : execOp a.eval o = (do pure (Next.value (← s)))) (h : RunE P s w R) (hR : ∀ v w', R v w' → K (a.put o.dst v) w') : o.wp P a w K Q := by
  obtain ⟨v, w', hr, hv⟩ := h
  unfold Oper.wp
  rw [hop]
  simp only [Sem.run_bind, hr, Result.andThen_ok, Sem.run_pure, Oper.upon]
  exact hR v w' hv
theorem wp_runU {o : Oper} {K : Act → World → Prop} {Q : Exit → Act → World → Prop} (s : Sem Unit) (hop : execOp a.eval o = (do s; pure Next.skip)) (h : RunU P s w R) (hR : ∀ v w', R v w' → K (a.put o.dst v) w') : o.wp P a w K Q := by
  obtain ⟨w', hr, hv⟩ := h
  unfold Oper.wp
  rw [hop]
  simp only [Sem.run_bind, hr, Result.andThen_ok, Sem.run_pure, Oper.upon]
  exact hR _ w' hv

theorem wp_fn {o : Oper} {K : Act → World → Prop} {Q : Exit → Act → World → Prop} (g : FuncId) (args : List Value) (hop : execOp a.eval o = callFunc g args.toArray) (h : Cal P g args w R) (hR : ∀ v w', R v w' → K (a.put o.dst v) w') : o.wp P a w K Q := by
  obtain ⟨⟨fn, hf, hn, hb⟩, hc⟩ := h
  unfold Oper.wp
  rw [hop]
  have hrun : (callFunc g args.toArray).run P w = .ok (.enter g args.toArray) w := by
    have hn' : fn.name ≠ "runtime.NumGoroutine" := by simpa using hn
    have hb' : fn.body ≠ none := fun e => by rw [e] at hb; simp at hb
    simp [callFunc, hf, hn', hb']
  rw [hrun]
  simp only [Oper.upon]
  exact hc.mono fun e w' ⟨v, he, hv⟩ => by subst he; exact hR v w' hv

theorem effVC_sound (hT : TabOk P T) (hev : ∀ x v, ev x = some v → a.eval x = v) {o : Oper} (h : effVC P T ev o w R) {K : Act → World → Prop} {Q : Exit → Act → World → Prop} (hR : ∀ v w', R v w' → K (a.put o.dst v) w') :
    o.wp P a w K Q := by
  unfold effVC at h
  split at h
  · rename_i t x hop
    split at h
    · rename_i v hx
      refine wp_runE (R := R) (Instr.box t v) (by simp [execOp, hop, hev _ _ hx]) ⟨_, _, ?_, h _ _ ⟨rfl, rfl⟩⟩ hR
      have : v.cells = (cellsL v).toArray := by rw [← cellsL_eq]
      simp [Instr.box, newVar, newRow, this]
    · exact h.elim
  · rename_i t hop
    split at h
    · rename_i s1 s2 s3 z ht
      refine wp_runE (R := R) (Instr.alloc t true (.tuple #[])) (by simp [execOp, hop]) ⟨_, _, ?_, h _ _ ⟨rfl, rfl⟩⟩ hR
      have : z.cells = (cellsL z).toArray := by rw [← cellsL_eq]
      simp [Instr.alloc, ty_zero (hT.get ht), newVar, newRow, this]
    · exact h.elim
  · rename_i t len parts hop
    split at h
    · rename_i e n s1 s2 s3 ht
      obtain ⟨_, d, _, hd, _, hsh, _⟩ := ty_parts (hT.get ht)
      obtain ⟨rfl, hcs⟩ := sh_slice hsh
      cases hz : Nat.beq n 0 <;> simp only [hz, cond_true, cond_false] at h
      have hz' := Nat.ne_of_beq_eq_false hz
      split at h
      · rename_i sh n' ag z he
        cases hnn : Nat.beq n' n <;> simp only [hnn, cond_true, cond_false] at h
        have hnn' := Nat.eq_of_beq_eq_true hnn
        subst hnn'
        cases hle : Nat.ble (len * n') 16777216 <;> simp only [hle, cond_true, cond_false] at h
        have hle' := Nat.le_of_ble_eq_true hle
        obtain ⟨ie, _, hie, hde, hze, _, hsz, _⟩ := ty_parts (hT.get he)
        split at h
        · rename_i ps hps
          cases hpl : Nat.beq ps.length len <;> simp only [hpl, cond_true, cond_false] at h
          have hpl' := Nat.eq_of_beq_eq_true hpl
          obtain ⟨cs, hK, hl, hf⟩ := denseK_iff h
          refine wp_runE (R := R) (Instr.buildSlice t len (parts.map fun (i, x) => (i, a.eval x))) (by simp [execOp, hop]) ⟨_, _, ?_, hK _ _ ⟨rfl, rfl⟩⟩ hR
          have hparts : (parts.map fun (i, x) => (i, a.eval x)).toList = ps := by
            rw [Array.toList_map]; exact evP_ok (ρ := a.eval) hev hps
          simp only at hsz hze
          by_cases h0 : len = 0
          · subst h0
            have hps0 : ps = [] := List.eq_nil_of_length_eq_zero hpl'
            subst hps0
            have hcs0 : cs = [] := List.eq_nil_of_length_eq_zero (by simpa using hl)
            subst hcs0
            obtain rfl : parts = #[] := by simpa using hparts
            simp [Instr.buildSlice, run_underlying hd, sizeOf, typeInfo, hie, Instr.fill, newRow]
            rw [show (Array.map (fun (_ : Nat) => (default : Value)) (Array.range 0)) = #[] from by apply Array.ext'; simp]
          · have hpos : ¬ len * ie.size = 0 := by
              rw [hsz]; simp only [Nat.mul_eq_zero, not_or]; exact ⟨h0, hz'⟩
            refine run_buildSlice w t e len _ cs.toArray ie z hd hie hze (by rw [hsz]; omega) hpos ?_
            rw [hparts, hsz]
            have hff := hf [] ((Array.range (len * n')).map (z.cells[· % z.cells.size]!)).toList (by simp) (by simp [hpl']) hz'
            rw [arr_map]
            simpa using hff
        · exact h.elim
      · exact h.elim
    · exact h.elim
  · rename_i t r hop
    split at h
    · refine wp_runE (R := R) (Instr.makeMap t none) (by simp [execOp, hop]) ⟨_, _, ?_, h _ _ ⟨rfl, rfl⟩⟩ hR
      simp [Instr.makeMap]
    · rename_i x
      split at h
      · rename_i k e s1 s2 s3 ht
        obtain ⟨_, d, _, hd, _, hsh, _⟩ := ty_parts (hT.get ht)
        obtain rfl := sh_map hsh
        split at h
        · rename_i kk n hx
          refine wp_runE (R := R) (Instr.makeMap t (some (.int kk n))) (by simp [execOp, hop, hev _ _ hx]) ⟨_, _, ?_, h _ _ ⟨rfl, rfl⟩⟩ hR
          simp [Instr.makeMap, run_underlying hd, asInt, asIntOf]
        · exact h.elim
      · exact h.elim
  · rename_i t l c hop
    split at h
    · rename_i vl hl
      split at h
      · rename_i vc hc
        exact wp_runE (R := R) _ (by simp [execOp, hop, hev _ _ hl, hev _ _ hc]) h hR
      · exact h.elim
    · exact h.elim
  · rename_i t x y hop
    split at h
    · rename_i va ha
      split at h
      · rename_i v hv
        exact wp_runU (R := R) _ (by simp [execOp, hop, hev _ _ ha, hev _ _ hv]) h hR
      · exact h.elim
    · exact h.elim
  · rename_i t m k x hop
    split at h
    · rename_i vm hm
      split at h
      · rename_i vk hk
        split at h
        · rename_i vx hx
          exact wp_runU (R := R) _ (by simp [execOp, hop, hev _ _ hm, hev _ _ hk, hev _ _ hx]) h hR
        · exact h.elim
      · exact h.elim
    · exact h.elim
  · rename_i t m k x hop
    split at h
    · rename_i vm hm
      split at h
      · rename_i vk hk
        split at h
        · rename_i vx hx
          exact wp_runU (R := R) _ (by simp [execOp, hop, hev _ _ hm, hev _ _ hk, hev _ _ hx]) h hR
        · exact h.elim
      · exact h.elim
    · exact h.elim
  · rename_i t m k hop
    split at h
    · rename_i vm hm
      split at h
      · rename_i vk hk
        exact wp_runE (R := R) _ (by simp [execOp, hop, hev _ _ hm, hev _ _ hk]) h hR
      · exact h.elim
    · exact h.elim
  · rename_i t m k x hop
    split at h
    · rename_i vm hm
      split at h
      · rename_i vk hk
        split at h
        · rename_i vx hx
          exact wp_runU (R := R) _ (by simp [execOp, hop, hev _ _ hm, hev _ _ hk, hev _ _ hx]) h hR
        · exact h.elim
      · exact h.elim
    · exact h.elim
  · rename_i t x hop
    split at h
    · rename_i v hx; exact wp_runE (R := R) _ (by simp [execOp, hop, hev _ _ hx]) h hR
    · exact h.elim
  · rename_i x s hop
    split at h
    · rename_i v hx; exact wp_runE (R := R) _ (by simp [execOp, hop, hev _ _ hx]) h hR
    · exact h.elim
  · rename_i x hop
    split at h
    · rename_i v hx; exact wp_runE (R := R) _ (by simp [execOp, hop, hev _ _ hx]) h hR
    · exact h.elim
  · rename_i s d x hop
    split at h
    · rename_i v hx; exact wp_runE (R := R) _ (by simp [execOp, hop, hev _ _ hx]) h hR
    · exact h.elim
  · rename_i args argTypes hop
    split at h
    · rename_i vs hvs
      have e1 : args.map a.eval = vs.toArray := by rw [arr_map, evL_ok (ρ := a.eval) hev hvs]
      exact wp_runE (R := R) _ (by simp [execOp, hop, resolve, invoke, builtin, e1]) h hR
    · exact h.elim
  · rename_i args argTypes hop
    split at h
    · rename_i vs hvs
      have e1 : args.map a.eval = vs.toArray := by rw [arr_map, evL_ok (ρ := a.eval) hev hvs]
      exact wp_runE (R := R) _ (by simp [execOp, hop, resolve, invoke, builtin, e1]) h hR
    · exact h.elim
  · rename_i args argTypes hop
    split at h
    · rename_i vs hvs
      have e1 : args.map a.eval = vs.toArray := by rw [arr_map, evL_ok (ρ := a.eval) hev hvs]
      exact wp_runE (R := R) _ (by simp [execOp, hop, resolve, invoke, builtin, e1]) h hR
    · exact h.elim
  · rename_i args argTypes hop
    split at h
    · rename_i vs hvs
      have e1 : args.map a.eval = vs.toArray := by rw [arr_map, evL_ok (ρ := a.eval) hev hvs]
      exact wp_runE (R := R) _ (by simp [execOp, hop, resolve, invoke, builtin, e1]) h hR
    · exact h.elim
  · rename_i f args argTypes hop
    split at h
    · rename_i g xs ys hf
      split at h
      · rename_i vs hvs
        have e1 : args.map a.eval = vs.toArray := by rw [arr_map, evL_ok (ρ := a.eval) hev hvs]
        split at h
        · rename_i hxs
          have exs : xs = #[] := by apply Array.ext'; simpa using hxs
          split at h
          · rename_i hys
            have eys : ys = #[] := by apply Array.ext'; simpa using hys
            exact wp_fn (R := R) g vs (by simp [execOp, hop, resolve, invoke, hev _ _ hf, Deferred.ofValue, e1, exs, eys]) h hR
          · rename_i y l hys
            have eys : ys = (y :: l).toArray := by apply Array.ext'; simpa using hys
            exact wp_fn (R := R) g (vs ++ y :: l) (by simp [execOp, hop, resolve, invoke, hev _ _ hf, Deferred.ofValue, e1, exs, eys]) h hR
        · rename_i x l hxs
          have exs : xs = (x :: l).toArray := by apply Array.ext'; simpa using hxs
          obtain ⟨yl⟩ := ys
          exact wp_fn (R := R) g ((x :: l) ++ vs ++ yl) (by simp [execOp, hop, resolve, invoke, hev _ _ hf, Deferred.ofValue, e1, exs]) h hR
      · exact h.elim
    · exact h.elim
  · exact h.elim
end

/-! ### A region -/
def pathK (ops : List Oper) (Γ : Env) (Δ : Loc) (g : Option (Nat × Bool)) (K : SP → Prop) : Prop :=
  match g with
  | none => K []
  | some (j, b) => match nth ops j with
    | some oj => match oj.dst with
      | some t => match look Γ Δ t with
        | some (q, .bool _) => K ((t, b) :: q)
        | _ => False
      | none => False
    | none => False

/-- In a region that is carried out in an open order what changes memory keeps what the others read. -/
def keepK (cl : Cl) (w w' : World) (Φ : Prop) : Prop :=
  match cl with
  | .same => Φ
  | .ext => Ext w w' ∧ Φ
  | .mods S => Mod S w w' ∧ Φ
  | .gen R _ => R w w' ∧ Φ

def effK (P : Program) (T : Tab) (N : Nat) (cl : Cl) (p : SP) (o : Oper) (Γ : Env) (Δ : Loc) (G : List Nat) (w : World) (K : World → Env → Loc → List Nat → Prop) : Prop :=
  match p with
  | [] => effVC P T (evO Γ Δ []) o w fun v w' => keepK cl w w' (putK N [] o.dst v Γ Δ G (K w'))
  | x :: q => ∃ (ι : Type) (f : ι → Value) (R : ι → World → Prop) (_ : ι), Und Γ Δ (x :: q) (effVC P T (evO Γ Δ (x :: q)) o w fun v w' => ∃ i, v = f i ∧ R i w') ∧
      ∀ i w', ((Hol Γ Δ (x :: q) ∧ R i w') ∨ (¬ Hol Γ Δ (x :: q) ∧ w' = w)) → keepK cl w w' (putK N (x :: q) o.dst (f i) Γ Δ G (K w'))

def opsVC (P : Program) (T : Tab) (N : Nat) (cl : Cl) (ops : List Oper) : List Oper → Env → Loc → List Nat → World → (Env → Loc → List Nat → World → Prop) → Prop
  | [], Γ, Δ, G, w, K => K Γ Δ G w
  | o :: rest, Γ, Δ, G, w, K => pathK ops Γ Δ o.guard fun p =>
      bif still T o.op then
        opVC P T cl (fun e x => evO Γ Δ (e ++ p) x) (Und Γ Δ p) o.op w fun v => putK N p o.dst v Γ Δ G fun Γ' Δ' G' => opsVC P T N cl ops rest Γ' Δ' G' w K
      else effK P T N cl p o Γ Δ G w fun w' Γ' Δ' G' => opsVC P T N cl ops rest Γ' Δ' G' w' K

section region
variable {P : Program} {T : Tab} {N : Nat} {cl : Cl} {ops : List Oper}

theorem pathK_sound {Γ : Env} {Δ : Loc} {G : List Nat} {a : Act} (ha : Ag N a Γ Δ G) {o : Oper} {K : SP → Prop} (h : pathK ops Γ Δ o.guard K) :
    ∃ p, K p ∧ Region.wanted o (yielded ops.toArray a.tmps) = cnd Γ Δ p := by
  unfold pathK at h
  split at h
  · rename_i hg
    exact ⟨[], h, by simp [Region.wanted, hg, cnd]⟩
  · rename_i j b hg
    split at h
    · rename_i oj hj
      rw [nth_eq] at hj
      split at h
      · rename_i t ht
        split at h
        · rename_i q c hl
          refine ⟨_, h, ?_⟩
          have hlk := ha.look hl
          simp only [Region.wanted, hg, yielded, List.getElem?_toArray, hj, Option.bind_some, ht, hlk, cnd, hl]
          by_cases hq : cnd Γ Δ q = true
          · simp [hq]
          · simp [hq, undef]
        · exact h.elim
      · exact h.elim
    · exact h.elim

theorem Ag.done {a : Act} {Γ : Env} {Δ : Loc} {G : List Nat} (h : Ag N a Γ Δ G) : Ag N a Γ [] [] :=
  ⟨h.defers, h.size, h.env, fun t q v hl => by simp [lget] at hl, fun t q v hl => by simp [lget] at hl⟩

theorem cnd_ext {Γ : Env} {Δ : Loc} {p : SP} {t : Nat} {b : Bool} {d : Bool} (hl : evO Γ Δ p (.tmp t) = some (.bool d)) (hd : d = b) (hc : cnd Γ Δ p = true) : cnd Γ Δ ((t, b) :: p) = true := by
  simp only [evO] at hl
  simp only [cnd]
  split at hl
  · rename_i q v hlk
    cases hs : suf q p <;> simp [hs] at hl
    subst hl
    simp [hlk, hd, hc]
  · cases hl

/-- One operation that changes no memory. -/
theorem still_step (hT : TabOk P T) {Γ : Env} {Δ : Loc} {G : List Nat} {a : Act} {w : World} (ha : Ag N a Γ Δ G) {p : SP} {o : Oper} (hw : Region.wanted o (yielded ops.toArray a.tmps) = cnd Γ Δ p)
    {K : Env → Loc → List Nat → Prop} (h : opVC P T cl (fun e x => evO Γ Δ (e ++ p) x) (Und Γ Δ p) o.op w fun v => putK N p o.dst v Γ Δ G K) :
    ∃ v Γ' Δ' G', YieldsIf P ops.toArray (cl.rel w) o v a ∧ Ag N (a.put o.dst v) Γ' Δ' G' ∧ K Γ' Δ' G' := by
  obtain ⟨v, hK, hr⟩ := opVC_sound (a := a) (ev := fun e x => evO Γ Δ (e ++ p) x) (c := cnd Γ Δ p = true) hT (fun hc x v hx => ha.ev (p := p) hx hc)
    (fun hc t b d x v ht hx hd => ha.ev (p := (t, b) :: p) hx (cnd_ext (p := p) ht hd hc)) (fun Φ hu hc => (und_iff Γ Δ Φ p).1 hu hc) h
  obtain ⟨Γ', Δ', G', hk, hag⟩ := putK_sound hK ha
  by_cases hc : cnd Γ Δ p = true
  · rw [if_pos hc] at hag
    exact ⟨v, Γ', Δ', G', .inl ⟨hw.trans hc, hr hc⟩, hag, hk⟩
  · rw [if_neg hc] at hag
    exact ⟨undef, Γ', Δ', G', .inr ⟨by rw [hw]; simpa using hc, rfl⟩, hag, hk⟩

theorem keepK_iff {w w' : World} {Φ : Prop} (h : keepK cl w w' Φ) : (cl = .same ∨ cl.rel w w') ∧ Φ := by
  cases cl with
  | same => exact ⟨.inl rfl, h⟩
  | ext => exact ⟨.inr h.1, h.2⟩
  | mods S => exact ⟨.inr h.1, h.2⟩
  | gen R hh => exact ⟨.inr h.1, h.2⟩

/-- One operation that changes memory. -/
theorem eff_step (hT : TabOk P T) {Γ : Env} {Δ : Loc} {G : List Nat} {a : Act} {w : World} (ha : Ag N a Γ Δ G) {p : SP} {o : Oper} (hw : Region.wanted o (yielded ops.toArray a.tmps) = cnd Γ Δ p)
    {K : World → Env → Loc → List Nat → Prop} {Q : Exit → Act → World → Prop}
    (h : effK P T N cl p o Γ Δ G w K)
    {M : Act → World → Prop} (hM : ∀ a' w' Γ' Δ' G', (cl = .same ∨ cl.rel w w') → Ag N a' Γ' Δ' G' → K w' Γ' Δ' G' → M a' w') :
    if Region.wanted o (yielded ops.toArray a.tmps) then o.wp P a w M Q ∨ (o.asks P a w ∧ LetsOut Q) else M (a.put o.dst undef) w := by
  rw [hw]
  unfold effK at h
  cases p with
  | nil =>
    rw [if_pos (by simp [cnd])]
    refine .inl (effVC_sound hT (fun x v hx => ha.ev hx (by simp [cnd])) h fun v w' hv => ?_)
    obtain ⟨h1, h2⟩ := keepK_iff hv
    obtain ⟨Γ', Δ', G', hk, hag⟩ := putK_sound h2 ha
    rw [if_pos (by simp [cnd])] at hag
    exact hM _ _ _ _ _ h1 hag hk
  | cons x q =>
    obtain ⟨ι, f, R, i0, hu, hK⟩ := h
    by_cases hc : cnd Γ Δ (x :: q) = true
    · rw [if_pos hc]
      refine .inl (effVC_sound hT (fun x v hx => ha.ev hx hc) ((und_iff _ _ _ _).1 hu hc) fun v w' hv => ?_)
      obtain ⟨i, rfl, hv⟩ := hv
      obtain ⟨h1, h2⟩ := keepK_iff (hK i w' (.inl ⟨(hol_iff _ _ _).2 hc, hv⟩))
      obtain ⟨Γ', Δ', G', hk, hag⟩ := putK_sound h2 ha
      rw [if_pos hc] at hag
      exact hM _ _ _ _ _ h1 hag hk
    · rw [if_neg hc]
      obtain ⟨h1, h2⟩ := keepK_iff (hK i0 w (.inr ⟨fun hh => hc ((hol_iff _ _ _).1 hh), rfl⟩))
      obtain ⟨Γ', Δ', G', hk, hag⟩ := putK_sound h2 ha
      rw [if_neg hc] at hag
      exact hM _ _ _ _ _ h1 hag hk

/-- In the text's order. -/
theorem opsVC_seq (hT : TabOk P T) {K : Env → Loc → List Nat → World → Prop} {Q : Exit → Act → World → Prop} (hQ : ∀ a Γ Δ G w, Ag N a Γ Δ G → K Γ Δ G w → Q .normal a w) :
    ∀ (rest : List Oper) (k : Nat), (∀ j, rest[j]? = ops[k + j]?) → ∀ (Γ : Env) (Δ : Loc) (G : List Nat) (a : Act) (w : World), Ag N a Γ Δ G → opsVC P T N .same ops rest Γ Δ G w K →
      wpOps P ops.toArray Q (List.range' k rest.length) a w
  | [], k, _, Γ, Δ, G, a, w, ha, h => by
    simp only [List.length_nil, List.range'_zero, wpOps]
    exact hQ a Γ Δ G w ha h
  | o :: rest, k, hr, Γ, Δ, G, a, w, ha, h => by
    have ho : ops[k]? = some o := by have := hr 0; simpa using this.symm
    have hr' : ∀ j, rest[j]? = ops[k + 1 + j]? := fun j => by
      have := hr (j + 1)
      rw [show k + 1 + j = k + (j + 1) by omega, ← this]; rfl
    simp only [List.length_cons, List.range'_succ]
    rw [wpOps_cons]
    simp only [opsVC] at h
    obtain ⟨p, hp, hw⟩ := pathK_sound ha h
    unfold wpOp
    simp only [List.getElem?_toArray, ho]
    cases hs : still T o.op <;> simp only [hs, cond_true, cond_false] at hp
    · exact eff_step (cl := .same) hT ha hw hp fun a' w' Γ' Δ' G' _ hag hk => opsVC_seq hT hQ rest (k + 1) hr' Γ' Δ' G' a' w' hag hk
    · obtain ⟨v, Γ', Δ', G', hy, hag, hk⟩ := still_step hT ha hw hp
      have hgo := opsVC_seq hT hQ rest (k + 1) hr' Γ' Δ' G' _ w hag hk
      have := YieldsIf.wpOp (Q := Q) (i := k) (ops := ops.toArray) (by simpa using ho) hy (w := w) (Cl.refl _ _) hgo
      unfold wpOp at this
      simpa only [List.getElem?_toArray, ho] using this
end region
end Go.Se
