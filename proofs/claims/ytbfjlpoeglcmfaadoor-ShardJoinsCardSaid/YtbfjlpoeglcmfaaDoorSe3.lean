
/- What each operation that changes no memory asks and gives: 'opVC', and that it is sound. -/
import Derived.Test.YtbfjlpoeglcmfaaDoorSe2
import Derived.Laws.Slices
import Derived.WideShapes
import Derived.WalkLawsBesides
set_option linter.unusedVariables false
set_option linter.unusedSimpArgs false
namespace Go.Se
open Go.RowKit

def evL (ev : Operand → Option Value) : List Operand → Option (List Value)
  | [] => some []
  | x :: l => match ev x with
    | some v => match evL ev l with
      | some vs => some (v :: vs)
      | none => none
    | none => none
def evP (ev : Operand → Option Value) : List (Nat × Operand) → Option (List (Nat × Value))
  | [] => some []
  | (i, x) :: l => match ev x with
    | some v => match evP ev l with
      | some vs => some ((i, v) :: vs)
      | none => none
    | none => none

/-- '==' at a type that is neither an integer's nor a string's. -/
def EqRun (P : Program) (t : TypeId) (ox oy : Operand) (x y : Value) (b : Bool) : Prop :=
  ∀ w, (do eqGuard .eql t ox oy x y; binOp .eql t x y).run P w = .ok (.bool b) w ∧ (do eqGuard .neq t ox oy x y; binOp .neq t x y).run P w = .ok (.bool !b) w

def intVC (op : BinOp) (k : IntKind) (a b : Int) (und : Prop → Prop) (K : Value → Prop) : Prop :=
  match op with
  | .add => ∃ z, und (z = k.wrap (a + b)) ∧ K (.int k z)
  | .sub => ∃ z, und (z = k.wrap (a - b)) ∧ K (.int k z)
  | .mul => ∃ z, und (z = k.wrap (a * b)) ∧ K (.int k z)
  | .quo => ∃ z, und (b ≠ 0 ∧ z = k.wrap (a.tdiv b)) ∧ K (.int k z)
  | .rem => ∃ z, und (b ≠ 0 ∧ z = a.tmod b) ∧ K (.int k z)
  | .and => ∃ z, und (z = k.wrap (BitVec.ofInt k.bits a &&& BitVec.ofInt k.bits b).toNat) ∧ K (.int k z)
  | .or => ∃ z, und (z = k.wrap (BitVec.ofInt k.bits a ||| BitVec.ofInt k.bits b).toNat) ∧ K (.int k z)
  | .xor => ∃ z, und (z = k.wrap (BitVec.ofInt k.bits a ^^^ BitVec.ofInt k.bits b).toNat) ∧ K (.int k z)
  | .eql => K (.bool (decide (a = b)))
  | .neq => K (.bool (!decide (a = b)))
  | .lss => K (.bool (decide (a < b)))
  | .leq => K (.bool (decide (a ≤ b)))
  | .gtr => K (.bool (decide (b < a)))
  | .geq => K (.bool (decide (b ≤ a)))
  | .shl => ∃ z, und (0 ≤ b ∧ z = k.wrap (a * 2 ^ (min b.toNat k.bits))) ∧ K (.int k z)
  | .shr => ∃ z, und (0 ≤ b ∧ z = a.fdiv (2 ^ (min b.toNat k.bits))) ∧ K (.int k z)
  | .andNot => False

def strVC (op : BinOp) (a b : ByteArray) (und : Prop → Prop) (K : Value → Prop) : Prop :=
  match op with
  | .add => und (a.size + b.size ≤ 9223372036854775807) ∧ K (.string (a ++ b))
  | .eql => K (.bool (decide (a = b)))
  | .neq => K (.bool (!decide (a = b)))
  | .lss => K (.bool (Op.bytesLess a.toList b.toList))
  | .gtr => K (.bool (!(Op.bytesLess a.toList b.toList || decide (a = b))))
  | .leq => K (.bool (Op.bytesLess a.toList b.toList || decide (a = b)))
  | .geq => K (.bool (!Op.bytesLess a.toList b.toList))
  | _ => False

/-- An operand that may be left out. -/
def optE (ev : SP → Operand → Option Value) (x : Option Operand) (d : Nat) : Option Int :=
  match x with
  | none => some (d : Int)
  | some y => match ev [] y with
    | some (.int _ n) => some n
    | _ => none

def opVC (P : Program) (T : Tab) (cl : Cl) (ev : SP → Operand → Option Value) (und : Prop → Prop) (o : Op) (w : World) (K : Value → Prop) : Prop :=
  match o with
  | .move x | .assign x => match ev [] x with
    | some v => K v
    | none => False
  | .pick (.tmp c) x y => match ev [] (.tmp c) with
    | some (.bool b) => match x, y with
      | .const (.bool true), y => match ev [(c, false)] y with
        | some (.bool d) => K (.bool (b || d))
        | _ => False
      | x, .const (.bool false) => match ev [(c, true)] x with
        | some (.bool d) => K (.bool (b && d))
        | _ => False
      | x, y => match ev [(c, true)] x with
        | some v => match ev [(c, false)] y with
          | some u => K (bif b then v else u)
          | none => False
        | none => False
    | _ => False
  | .nilCheck x => match ev [] x with
    | some (.pointer (some a)) => K (.pointer (some a))
    | some (.func (.func f) xs ys) => K (.func (.func f) xs ys)
    | _ => False
  | .binOp op t x y _ => match ev [] x with
    | some (.int k a) => match ev [] y with
      | some (.int k' b) => match op with
        | .shl | .shr => intVC op k a b und K
        | _ => bif decide (k = k') then intVC op k a b und K else False
      | _ => False
    | some (.string a) => match ev [] y with
      | some (.string b) => strVC op a b und K
      | _ => False
    | some v => match ev [] y with
      | some u => match op with
        | .eql => ∃ b, und (EqRun P t x y v u b) ∧ K (.bool b)
        | .neq => ∃ b, und (EqRun P t x y v u b) ∧ K (.bool !b)
        | _ => False
      | none => False
    | none => False
  | .unOp op _ x => match op, ev [] x with
    | .not, some (.bool b) => K (.bool !b)
    | .neg, some (.int k a) => ∃ z, und (z = k.wrap (0 - a)) ∧ K (.int k z)
    | _, _ => False
  | .convert src dst x => match tget T src with
    | some _ => match tget T dst with
      | some ⟨.int k, _, _, _⟩ => match ev [] x with
        | some (.int _ n) => ∃ z, und (z = k.wrap n) ∧ K (.int k z)
        | _ => False
      | some ⟨.str, _, _, _⟩ => match ev [] x with
        | some (.string s) => K (.string s)
        | _ => False
      | _ => False
    | none => False
  | .fieldAddr s x f => match tget T s with
    | some ⟨.strct fs, _, _, _⟩ => match ev [] x with
      | some (.pointer (some a)) => match nth fs f with
        | some (off, size, _) => bif Nat.beq size 0 then False else K (.pointer (some (a.add off)))
        | none => False
      | _ => False
    | _ => False
  | .field s x f => match tget T s with
    | some ⟨.strct fs, _, _, _⟩ => match ev [] x with
      | some (.agg cs) => match nth fs f with
        | some (off, size, 0) => match nth cs.toList off with
          | some v => K v
          | none => False
        | some (off, size, 1) => bif Nat.beq size 0 then False else K (.agg (cs.extract off (off + size)))
        | _ => False
      | _ => False
    | _ => False
  | .indexAddr t x i => match tget T t with
    | some ⟨.slice _ n, _, _, _⟩ => bif Nat.beq n 0 then False else match ev [] x with
      | some (.slice A len _) => match ev [] i with
        | some (.int _ j) => ∃ a, und (A = some a ∧ 0 ≤ j ∧ j < len) ∧ K (.pointer (some (a.add (j.toNat * n))))
        | _ => False
      | _ => False
    | some ⟨.arr len n, _, _, _⟩ => bif Nat.beq n 0 then False else match ev [] x with
      | some (.pointer (some a)) => match ev [] i with
        | some (.int _ j) => und (0 ≤ j ∧ j < len) ∧ K (.pointer (some (a.add (j.toNat * n))))
        | _ => False
      | _ => False
    | _ => False
  | .index t x i => match tget T t with
    | some ⟨.str, _, _, _⟩ => match ev [] x with
      | some (.string s) => match ev [] i with
        | some (.int _ j) => ∃ c : UInt8, und (0 ≤ j ∧ s[j.toNat]? = some c) ∧ K (.int .u8 c.toNat)
        | _ => False
      | _ => False
    | _ => False
  | .extract x i => match ev [] x with
    | some (.tuple vs) => match nth vs.toList i with
      | some v => K v
      | none => False
    | _ => False
  | .build t parts => match tget T t with
    | some ⟨.strct fs, _, _, z⟩ => bif fs.all (fun x => !Nat.beq x.2.1 0) then match evP (ev []) parts.toList with
      | some ps => fillK fs (cellsL z) ps fun cells => K (.agg cells.toArray)
      | none => False else False
    | _ => False
  | .makeFunc fn first captured => match evL (ev []) first.toList with
    | some xs => match evL (ev []) captured.toList with
      | some ys => K (.func fn xs.toArray ys.toArray)
      | none => False
    | none => False
  | .makeInterface t x => match ev [] x with
    | some v => RdS P cl w (Instr.makeInterface t v) (.iface t v) ∧ K (.iface t v)
    | none => False
  | .load t x => match tget T t with
    | some ⟨_, n, true, _⟩ => match ev [] x with
      | some (.pointer (some a)) => ∃ cs, und (cs.length = n ∧ RdN cl w a cs) ∧ K (.agg cs.toArray)
      | _ => False
    | some ⟨_, _, false, _⟩ => match ev [] x with
      | some (.pointer (some a)) => ∃ v, und (Rd1 cl w a v) ∧ K v
      | _ => False
    | none => False
  | .lookup t m k ok => match ev [] m with
    | some vm => match ev [] k with
      | some vk => ∃ v, und (RdS P cl w (Instr.lookup t vm vk ok) v) ∧ K v
      | none => False
    | none => False
  | .slice t x lo hi mx => match ev [] x with
    | some (.string s) => match tget T t with
      | some ⟨.str, _, _, _⟩ => match mx with
        | none => match lo, hi with
          | none, some h => match ev [] h with
            | some (.int _ j) => und (0 ≤ j ∧ j ≤ s.size) ∧ K (.string (s.extract 0 j.toNat))
            | _ => False
          | some l, none => match ev [] l with
            | some (.int _ i) => und (0 ≤ i ∧ i ≤ s.size) ∧ K (.string (s.extract i.toNat s.size))
            | _ => False
          | some l, some h => match ev [] l with
            | some (.int _ i) => match ev [] h with
              | some (.int _ j) => und (0 ≤ i ∧ i ≤ j ∧ j ≤ s.size) ∧ K (.string (s.extract i.toNat j.toNat))
              | _ => False
            | _ => False
          | none, none => K (.string (s.extract 0 s.size))
        | some _ => False
      | _ => False
    | some (.slice A n c) => match tget T t with
      | some ⟨.slice _ sz, _, _, _⟩ => bif Nat.beq sz 0 then False else match optE ev lo 0 with
        | some l => match optE ev hi n with
          | some h => match mx, hi with
            | some _, none => False
            | _, _ => match optE ev mx c with
              | some m => und (0 ≤ l ∧ l ≤ h ∧ h ≤ m ∧ m ≤ c) ∧ K (.slice (if m.toNat = l.toNat then A else A.map (·.add (l.toNat * sz))) (h.toNat - l.toNat) (m.toNat - l.toNat))
              | none => False
          | none => False
        | none => False
      | _ => False
    | _ => False
  | .call { callee := .builtin .len, args, argTypes } => match evL (ev []) args.toList with
    | some [.slice A n c] => match argTypes.toList with
      | [t] => match tget T t with
        | some ⟨.slice _ _, _, _, _⟩ => K (.int .i64 n)
        | _ => False
      | _ => False
    | some [.string s] => match argTypes.toList with
      | [t] => match tget T t with
        | some ⟨.str, _, _, _⟩ => K (.int .i64 s.size)
        | _ => False
      | _ => False
    | some [.map r] => ∃ v, und (RdS P cl w (Builtin.len_ argTypes 0 #[.map r]) v) ∧ K v
    | _ => False
  | .call { callee := .builtin .min, args, argTypes := _ } => match evL (ev []) args.toList with
    | some [.int k x, .int _ y] => K (.int k (min x y))
    | some [.int k x, .int _ y, .int _ z] => K (.int k (min (min x y) z))
    | _ => False
  | .call { callee := .builtin .max, args, argTypes := _ } => match evL (ev []) args.toList with
    | some [.int k x, .int _ y] => K (.int k (max x y))
    | some [.int k x, .int _ y, .int _ z] => K (.int k (max (max x y) z))
    | _ => False
  | _ => False

/-- Which operations 'opVC' treats. -/
def still (T : Tab) : Op → Bool
  | .move _ | .assign _ | .pick .. | .nilCheck _ | .binOp .. | .unOp .. | .fieldAddr .. | .field .. | .indexAddr .. | .index .. | .extract .. | .build .. | .makeFunc .. | .makeInterface .. | .load .. | .lookup .. | .slice .. => true
  | .convert s d _ => match tget T d with
    | some ⟨.int _, _, _, _⟩ => true
    | some ⟨.str, _, _, _⟩ => match tget T s with
      | some ⟨.str, _, _, _⟩ => true
      | _ => false
    | _ => false
  | .call { callee := .builtin .len, .. } | .call { callee := .builtin .min, .. } | .call { callee := .builtin .max, .. } => true
  | _ => false

section sound
variable {P : Program} {T : Tab} {cl : Cl} {ev : SP → Operand → Option Value} {und : Prop → Prop} {w : World} {K : Value → Prop} {a : Act} {c : Prop}

theorem evL_ok {e : Operand → Option Value} {ρ : Operand → Value} (h : ∀ x v, e x = some v → ρ x = v) : ∀ {l : List Operand} {vs : List Value}, evL e l = some vs → l.map ρ = vs
  | [], vs, hv => by simp only [evL, Option.some.injEq] at hv; simp [← hv]
  | x :: l, vs, hv => by
    simp only [evL] at hv
    split at hv
    · rename_i v hx
      split at hv
      · rename_i us hl
        simp only [Option.some.injEq] at hv
        subst hv
        simp [h x v hx, evL_ok h hl]
      · cases hv
    · cases hv
theorem evP_ok {e : Operand → Option Value} {ρ : Operand → Value} (h : ∀ x v, e x = some v → ρ x = v) : ∀ {l : List (Nat × Operand)} {vs : List (Nat × Value)}, evP e l = some vs → l.map (fun x => (x.1, ρ x.2)) = vs
  | [], vs, hv => by simp only [evP, Option.some.injEq] at hv; simp [← hv]
  | (i, x) :: l, vs, hv => by
    simp only [evP] at hv
    split at hv
    · rename_i v hx
      split at hv
      · rename_i us hl
        simp only [Option.some.injEq] at hv
        subst hv
        simp [h x v hx, evP_ok h hl]
      · cases hv
    · cases hv

theorem str_eq (a b : ByteArray) : (a.toList == b.toList) = decide (a = b) := by
  by_cases h : a = b
  · subst h; simp
  · have : a.toList ≠ b.toList := by
      intro e
      apply h
      rw [ByteArray.toList_eq, ByteArray.toList_eq] at e
      exact WideShapes.bytes_inj e
    simp [h, this]

theorem intVC_sound (hund : ∀ Φ, und Φ → c → Φ) {op : BinOp} {k k' : IntKind} {x y : Int} {t : TypeId} (hk : k = k' ∨ op = .shl ∨ op = .shr) (h : intVC op k x y und K) :
    ∃ v, K v ∧ (c → ∀ (ox oy : Operand) (w' : World), (do eqGuard op t ox oy (.int k x) (.int k' y); binOp op t (.int k x) (.int k' y)).run P w' = .ok v w') := by
  have hg : ∀ (ox oy : Operand) (w' : World), (eqGuard op t ox oy (.int k x) (.int k' y)).run P w' = .ok () w' := by
    intro ox oy w'
    unfold eqGuard
    split <;> simp
  cases op <;> simp only [intVC] at h
  case eql | neq | lss | leq | gtr | geq =>
    obtain rfl : k = k' := by simpa using hk
    refine ⟨_, h, fun _ ox oy w' => ?_⟩
    simp only [Sem.run_bind, hg, Result.andThen_ok]
    simp [binOp, Op.intCmp, Bool.beq_eq_decide_eq, bne]
  case shl | shr =>
    obtain ⟨z, hz, hK⟩ := h
    refine ⟨_, hK, fun hc ox oy w' => ?_⟩
    obtain ⟨h0, rfl⟩ := hund _ hz hc
    simp only [Sem.run_bind, hg, Result.andThen_ok]
    simp [binOp, Op.shift, Int.not_lt.2 h0]
  case quo | rem =>
    obtain rfl : k = k' := by simpa using hk
    obtain ⟨z, hz, hK⟩ := h
    refine ⟨_, hK, fun hc ox oy w' => ?_⟩
    obtain ⟨h0, rfl⟩ := hund _ hz hc
    simp only [Sem.run_bind, hg, Result.andThen_ok]
    simp [binOp, Op.intDiv, h0]
  all_goals
    obtain rfl : k = k' := by simpa using hk
    obtain ⟨z, hz, hK⟩ := h
    refine ⟨_, hK, fun hc ox oy w' => ?_⟩
    obtain rfl := hund _ hz hc
    simp only [Sem.run_bind, hg, Result.andThen_ok]
    simp [binOp, Op.intArith, Op.intBits]

theorem strVC_sound (hund : ∀ Φ, und Φ → c → Φ) {op : BinOp} {x y : ByteArray} {t : TypeId} (h : strVC op x y und K) :
    ∃ v, K v ∧ (c → ∀ (ox oy : Operand) (w' : World), (do eqGuard op t ox oy (.string x) (.string y); binOp op t (.string x) (.string y)).run P w' = .ok v w') := by
  have hg : ∀ (ox oy : Operand) (w' : World), (eqGuard op t ox oy (.string x) (.string y)).run P w' = .ok () w' := by
    intro ox oy w'
    unfold eqGuard
    split <;> simp
  cases op <;> simp only [strVC] at h
  case add =>
    refine ⟨_, h.2, fun hc ox oy w' => ?_⟩
    have h1 := hund _ h.1 hc
    simp only [Sem.run_bind, hg, Result.andThen_ok]
    have : ¬ ((x.size + y.size : Nat) : Int) > IntKind.i64.max := by simp [IntKind.max, IntKind.signed, IntKind.bits]; omega
    simp only [binOp, Op.stringOp, if_neg this]
    simp
  case eql | neq | lss | leq | gtr | geq =>
    refine ⟨_, h, fun _ ox oy w' => ?_⟩
    simp only [Sem.run_bind, hg, Result.andThen_ok]
    simp [binOp, Op.stringOp, str_eq]
  all_goals exact h.elim

theorem sh_int {d : TypeDesc} {k : IntKind} (h : shOf P d = .int k) : d = .int k := by cases d <;> simp [shOf] at h; rw [h]
theorem sh_str {d : TypeDesc} (h : shOf P d = .str) : d = .string := by cases d <;> simp [shOf] at h; rfl
theorem sh_slice {d : TypeDesc} {e n : Nat} (h : shOf P d = .slice e n) : d = .slice e ∧ P.cellsOf e = n := by cases d <;> simp [shOf] at h; exact ⟨by rw [h.1], by rw [← h.1]; exact h.2⟩
theorem sh_arr {d : TypeDesc} {l n : Nat} (h : shOf P d = .arr l n) : ∃ e, d = .array l e ∧ P.cellsOf e = n := by cases d <;> simp [shOf] at h; exact ⟨_, by rw [h.1], h.2⟩
theorem sh_map {d : TypeDesc} {k e : Nat} (h : shOf P d = .map k e) : d = .map k e := by cases d <;> simp [shOf] at h; rw [h.1, h.2]
theorem sh_strct {d : TypeDesc} {fs : List (Nat × Nat × Nat)} (h : shOf P d = .strct fs) : ∃ gs : Array Field, d = .struct gs ∧ gs.toList.map (fun f => (f.offset, P.cellsOf f.type, aggN P f.type)) = fs := by
  cases d <;> simp only [shOf, Ty.strct.injEq, reduceCtorEq] at h; exact ⟨_, rfl, h⟩
theorem field_of {gs : Array Field} {fs : List (Nat × Nat × Nat)} (h : gs.toList.map (fun f => (f.offset, P.cellsOf f.type, aggN P f.type)) = fs) {i off size k : Nat} (hn : nth fs i = some (off, size, k)) :
    ∃ f, gs[i]? = some f ∧ f.offset = off ∧ P.cellsOf f.type = size ∧ aggN P f.type = k := by
  rw [nth_eq, ← h, List.getElem?_map, Array.getElem?_toList] at hn
  cases hg : gs[i]? with
  | none => rw [hg] at hn; simp at hn
  | some f =>
    rw [hg] at hn
    simp only [Option.map_some, Option.some.injEq, Prod.mk.injEq] at hn
    exact ⟨f, rfl, hn.1, hn.2.1, hn.2.2⟩

theorem arr_map {α β : Type} (f : α → β) (l : Array α) : l.map f = (l.toList.map f).toArray := by apply Array.ext'; simp
theorem places_of : ∀ {gs : List Field} {fs : List (Nat × Nat × Nat)}, gs.map (fun f => (f.offset, P.cellsOf f.type, aggN P f.type)) = fs → (∀ x ∈ fs, x.2.1 ≠ 0) →
    gs.mapM (fun f => (P.info? f.type).map fun i => (f.offset, i.size)) = some (fs.map fun x => (x.1, x.2.1))
  | [], fs, h, _ => by simp at h; subst h; simp
  | g :: gs, fs, h, hz => by
    cases fs with
    | nil => simp at h
    | cons x fs =>
      simp only [List.map_cons, List.cons.injEq] at h
      obtain ⟨rfl, h2⟩ := h
      have ih := places_of h2 (fun y hy => hz y (by simp [hy]))
      have h0 : P.cellsOf g.type ≠ 0 := hz (g.offset, P.cellsOf g.type, aggN P g.type) (by simp)
      cases hi : P.info? g.type with
      | none => simp [Program.cellsOf, hi] at h0
      | some i => simp [List.mapM_cons, hi, ih, Program.cellsOf]
theorem struct_build (hT : TabOk P T) {t : TypeId} {fs : List (Nat × Nat × Nat)} {n : Nat} {g : Bool} {z : Value} (ht : tget T t = some ⟨.strct fs, n, g, z⟩)
    (hall : fs.all (fun x => !Nat.beq x.2.1 0) = true) {ps : List (Nat × Value)} {K : List Value → Prop} (h : fillK fs (cellsL z) ps K) :
    ∃ cells, K cells ∧ ∀ (parts : Array (Nat × Value)), parts.toList = ps → ∀ w, (Instr.build t parts).run P w = .ok (.agg cells.toArray) w := by
  obtain ⟨it, d, hit, hd, hz, hsh, _⟩ := ty_parts (hT.get ht)
  obtain ⟨gs, rfl, hgs⟩ := sh_strct hsh
  have hnz' : ∀ x ∈ fs, x.2.1 ≠ 0 := fun x hx => by
    have h1 := List.all_eq_true.1 hall _ hx
    exact Nat.ne_of_beq_eq_false (by simpa using h1)
  have hnz : ∀ i off size k, nth fs i = some (off, size, k) → size ≠ 0 := fun i off size k hn => by
    rw [nth_eq] at hn
    exact hnz' _ (List.mem_of_getElem? hn)
  have hpl := places_of hgs hnz'
  obtain ⟨r, hr, hK⟩ := fillK_sound (place := ((fs.map fun x => (x.1, x.2.1)).toArray[·]?)) (fun i off size k hn => by
    rw [nth_eq] at hn
    simp [hn]) hnz h
  refine ⟨r, hK, fun parts hparts w => run_build w t parts r.toArray ?_⟩
  unfold Program.built
  simp only [hit, hd, hz, hpl, hparts]
  have : z.cells = (cellsL z).toArray := by rw [← cellsL_eq]
  rw [this]
  exact hr

theorem run_v (s : Sem Value) (v : Value) (w : World) (h : s.run P w = .ok v w) : (do let x ← s; pure (Next.value x) : Sem Next).run P w = .ok (.value v) w := by
  simp [h]

theorem opVC_sound (hT : TabOk P T) (hev : c → ∀ x v, ev [] x = some v → a.eval x = v)
    (hpk : c → ∀ t b d x v, ev [] (.tmp t) = some (.bool d) → ev [(t, b)] x = some v → d = b → a.eval x = v)
    (hund : ∀ Φ, und Φ → c → Φ) {o : Oper} (h : opVC P T cl ev und o.op w K) :
    ∃ v, K v ∧ (c → ∀ w', cl.rel w w' → (execOp a.eval o).run P w' = .ok (.value v) w') := by
  unfold opVC at h
  unfold execOp
  split at h
  · -- move
    rename_i x hop
    split at h
    · rename_i v hx; exact ⟨v, h, fun hc w' _ => by simp [hop, hev hc _ _ hx]⟩
    · exact h.elim
  · rename_i x hop
    split at h
    · rename_i v hx; exact ⟨v, h, fun hc w' _ => by simp [hop, hev hc _ _ hx]⟩
    · exact h.elim
  · -- pick
    rename_i t x y hop
    split at h
    · rename_i b hb
      have hb' : c → a.eval (.tmp t) = .bool b := fun hc => hev hc _ _ hb
      split at h
      · split at h
        · rename_i d hd
          refine ⟨_, h, fun hc w' _ => ?_⟩
          simp only [hop, hb' hc, asBool]
          cases hbb : b
          · subst hbb; simp [hpk hc t false false _ _ hb hd rfl]
          · simp [Act.eval]
        · exact h.elim
      · split at h
        · rename_i d hd
          refine ⟨_, h, fun hc w' _ => ?_⟩
          simp only [hop, hb' hc, asBool]
          cases hbb : b
          · simp [Act.eval]
          · subst hbb; simp [hpk hc t true true _ _ hb hd rfl]
        · exact h.elim
      · split at h
        · rename_i v hv
          split at h
          · rename_i u hu
            refine ⟨_, h, fun hc w' _ => ?_⟩
            simp only [hop, hb' hc, asBool]
            cases hbb : b
            · subst hbb; simp [hpk hc t false false _ _ hb hu rfl]
            · subst hbb; simp [hpk hc t true true _ _ hb hv rfl]
          · exact h.elim
        · exact h.elim
    · exact h.elim
  · -- nilCheck
    rename_i x hop
    split at h
    · rename_i b hx; exact ⟨_, h, fun hc w' _ => by simp [hop, hev hc _ _ hx]⟩
    · rename_i f xs ys hx; exact ⟨_, h, fun hc w' _ => by simp [hop, hev hc _ _ hx]⟩
    · exact h.elim
  · -- binOp
    rename_i op t x y yt hop
    split at h
    · rename_i k n hx
      split at h
      · rename_i k' m hy
        have key : (k = k' ∨ op = .shl ∨ op = .shr) ∧ intVC op k n m und K := by
          split at h
          · exact ⟨.inr (.inl rfl), h⟩
          · exact ⟨.inr (.inr rfl), h⟩
          · by_cases hk : k = k'
            · exact ⟨.inl hk, by simpa [hk] using h⟩
            · simp [hk] at h
        obtain ⟨v, hK, hr⟩ := intVC_sound (P := P) (t := t) hund key.1 key.2
        exact ⟨v, hK, fun hc w' _ => by simp only [hop, hev hc _ _ hx, hev hc _ _ hy]; exact run_v _ _ _ (hr hc x y w')⟩
      · exact h.elim
    · rename_i s hx
      split at h
      · rename_i r hy
        obtain ⟨v, hK, hr⟩ := strVC_sound (P := P) (t := t) hund h
        exact ⟨v, hK, fun hc w' _ => by simp only [hop, hev hc _ _ hx, hev hc _ _ hy]; exact run_v _ _ _ (hr hc x y w')⟩
      · exact h.elim
    · rename_i v _ _ hx
      split at h
      · rename_i u hy
        split at h
        · obtain ⟨b, hb, hK⟩ := h
          exact ⟨_, hK, fun hc w' _ => by simp only [hop, hev hc _ _ hx, hev hc _ _ hy]; exact run_v _ _ _ ((hund _ hb hc) w').1⟩
        · obtain ⟨b, hb, hK⟩ := h
          exact ⟨_, hK, fun hc w' _ => by simp only [hop, hev hc _ _ hx, hev hc _ _ hy]; exact run_v _ _ _ ((hund _ hb hc) w').2⟩
        · exact h.elim
      · exact h.elim
    · exact h.elim
  · -- unOp
    rename_i op t x hop
    split at h
    · rename_i b hx; exact ⟨_, h, fun hc w' _ => by simp [hop, hev hc _ _ hx, Op.unary]⟩
    · rename_i k n hx
      obtain ⟨z, hz, hK⟩ := h
      exact ⟨_, hK, fun hc w' _ => by simp [hop, hev hc _ _ hx, Op.unary, Op.intArith, hund _ hz hc]⟩
    · exact h.elim
  · -- convert
    rename_i src dst x hop
    split at h
    · rename_i es hs
      obtain ⟨_, ds, _, hds, _⟩ := ty_parts (hT.get hs)
      split at h
      · rename_i k s1 s2 s3 hd
        obtain ⟨_, dd, _, hdd, _, hsh, _⟩ := ty_parts (hT.get hd)
        obtain rfl := sh_int hsh
        split at h
        · rename_i k' n hx
          obtain ⟨z, hz, hK⟩ := h
          refine ⟨_, hK, fun hc w' _ => ?_⟩
          simp [hop, hev hc _ _ hx, convert, run_underlying hds, run_underlying hdd, Conv.intToInt, hund _ hz hc]
        · exact h.elim
      · rename_i s1 s2 s3 hd
        obtain ⟨_, dd, _, hdd, _, hsh, _⟩ := ty_parts (hT.get hd)
        obtain rfl := sh_str hsh
        split at h
        · rename_i s hx
          refine ⟨_, h, fun hc w' _ => ?_⟩
          simp [hop, hev hc _ _ hx, convert, run_underlying hds, run_underlying hdd]
        · exact h.elim
      · exact h.elim
    · exact h.elim
  · -- fieldAddr
    rename_i t x f hop
    split at h
    · rename_i fs s1 s2 s3 ht
      obtain ⟨_, d, _, hd, _, hsh, _⟩ := ty_parts (hT.get ht)
      obtain ⟨gs, rfl, hgs⟩ := sh_strct hsh
      split at h
      · rename_i p hx
        split at h
        · rename_i off size k hn
          obtain ⟨fl, hf, rfl, hcs, _⟩ := field_of hgs hn
          cases hz : Nat.beq size 0 <;> simp only [hz, cond_true, cond_false] at h
          have hz' := Nat.ne_of_beq_eq_false hz
          refine ⟨_, h, fun hc w' _ => ?_⟩
          simp [hop, hev hc _ _ hx, Instr.fieldAt, run_underlying hd, hf, Instr.sureAddr, fieldPlace, cells_sizeOf hcs hz', hz']
        · exact h.elim
      · exact h.elim
    · exact h.elim
  · -- field
    rename_i t x f hop
    split at h
    · rename_i fs s1 s2 s3 ht
      obtain ⟨_, d, _, hd, _, hsh, _⟩ := ty_parts (hT.get ht)
      obtain ⟨gs, rfl, hgs⟩ := sh_strct hsh
      split at h
      · rename_i cs hx
        split at h
        · rename_i off size hn
          obtain ⟨fl, hf, rfl, hcs, hag⟩ := field_of hgs hn
          split at h
          · rename_i v hv
            rw [nth_eq, Array.getElem?_toList] at hv
            refine ⟨_, h, fun hc w' _ => ?_⟩
            simp [hop, hev hc _ _ hx, Instr.field, run_underlying hd, hf, asAgg, part, agg0_isAgg hag, hv]
          · exact h.elim
        · rename_i off size hn
          obtain ⟨fl, hf, rfl, hcs, hag⟩ := field_of hgs hn
          cases hz : Nat.beq size 0 <;> simp only [hz, cond_true, cond_false] at h
          have hz' := Nat.ne_of_beq_eq_false hz
          refine ⟨_, h, fun hc w' _ => ?_⟩
          simp [hop, hev hc _ _ hx, Instr.field, run_underlying hd, hf, asAgg, part, agg1_isAgg hag, cells_sizeOf hcs hz']
        · exact h.elim
      · exact h.elim
    · exact h.elim
  · -- indexAddr
    rename_i t x i hop
    split at h
    · rename_i e n s1 s2 s3 ht
      obtain ⟨_, d, _, hd, _, hsh, _⟩ := ty_parts (hT.get ht)
      obtain ⟨rfl, hcs⟩ := sh_slice hsh
      cases hz : Nat.beq n 0 <;> simp only [hz, cond_true, cond_false] at h
      have hz' := Nat.ne_of_beq_eq_false hz
      split at h
      · rename_i A len cap hx
        split at h
        · rename_i k j hj
          obtain ⟨p, hp, hK⟩ := h
          refine ⟨_, hK, fun hc w' _ => ?_⟩
          obtain ⟨rfl, h0, hlt⟩ := hund _ hp hc
          simp [hop, hev hc _ _ hx, hev hc _ _ hj, Instr.indexAt, asIntOf, run_underlying hd, cells_sizeOf hcs hz', h0, hlt]
        · exact h.elim
      · exact h.elim
    · rename_i len n s1 s2 s3 ht
      obtain ⟨_, d, _, hd, _, hsh, _⟩ := ty_parts (hT.get ht)
      obtain ⟨e, rfl, hcs⟩ := sh_arr hsh
      cases hz : Nat.beq n 0 <;> simp only [hz, cond_true, cond_false] at h
      have hz' := Nat.ne_of_beq_eq_false hz
      split at h
      · rename_i p hx
        split at h
        · rename_i k j hj
          refine ⟨_, h.2, fun hc w' _ => ?_⟩
          obtain ⟨h0, hlt⟩ := hund _ h.1 hc
          simp [hop, hev hc _ _ hx, hev hc _ _ hj, Instr.indexAt, asIntOf, Instr.sureAddr, run_underlying hd, cells_sizeOf hcs hz', h0, hlt]
        · exact h.elim
      · exact h.elim
    · exact h.elim
  · -- index
    rename_i t x i hop
    split at h
    · rename_i s1 s2 s3 ht
      obtain ⟨_, d, _, hd, _, hsh, _⟩ := ty_parts (hT.get ht)
      obtain rfl := sh_str hsh
      split at h
      · rename_i s hx
        split at h
        · rename_i k j hj
          obtain ⟨b, hb, hK⟩ := h
          refine ⟨_, hK, fun hc w' _ => ?_⟩
          obtain ⟨h0, hb'⟩ := hund _ hb hc
          simp [hop, hev hc _ _ hx, hev hc _ _ hj, Instr.index, asIntOf, run_underlying hd, h0, hb']
        · exact h.elim
      · exact h.elim
    · exact h.elim
  · -- extract
    rename_i x i hop
    split at h
    · rename_i vs hx
      split at h
      · rename_i v hv
        rw [nth_eq, Array.getElem?_toList] at hv
        exact ⟨_, h, fun hc w' _ => by simp [hop, hev hc _ _ hx, Instr.extract, hv]⟩
      · exact h.elim
    · exact h.elim
  · -- build
    rename_i t parts hop
    split at h
    · rename_i fs s1 s2 z ht
      cases hall : fs.all (fun x => !Nat.beq x.2.1 0) <;> simp only [hall, cond_true, cond_false] at h
      split at h
      · rename_i ps hps
        obtain ⟨cells, hK, hr⟩ := struct_build hT ht hall h
        refine ⟨_, hK, fun hc w' _ => ?_⟩
        simp only [hop]
        refine run_v _ _ _ (hr _ ?_ w')
        rw [Array.toList_map]
        exact evP_ok (ρ := a.eval) (hev hc) hps
      · exact h.elim
    · exact h.elim
  · -- makeFunc
    rename_i fn first captured hop
    split at h
    · rename_i xs hxs
      split at h
      · rename_i ys hys
        refine ⟨_, h, fun hc w' _ => ?_⟩
        have e1 := evL_ok (ρ := a.eval) (hev hc) hxs
        have e2 := evL_ok (ρ := a.eval) (hev hc) hys
        simp only [hop, Instr.makeFunc, ← e1, ← e2, ← arr_map]
        simp
      · exact h.elim
    · exact h.elim
  · -- makeInterface
    rename_i t x hop
    split at h
    · rename_i v hx
      exact ⟨_, h.2, fun hc w' hw => by simp only [hop, hev hc _ _ hx]; exact run_v _ _ _ (h.1 w' hw)⟩
    · exact h.elim
  · -- load
    rename_i t x hop
    split at h
    · rename_i sh n z ht
      split at h
      · rename_i p hx
        obtain ⟨cs, hcs, hK⟩ := h
        refine ⟨_, hK, fun hc w' hw => ?_⟩
        obtain ⟨hl, hr⟩ := hund _ hcs hc
        have hlc := run_loadCells_list (P := P) (w := w') p cs (hr.run hw)
        rw [hl] at hlc
        simp only [hop, hev hc _ _ hx]
        refine run_v _ _ _ ?_
        simp [Instr.loadAt, Instr.sureAddr, loadVar, ty_isAgg (hT.get ht), ty_sizeOf (hT.get ht), hlc]
      · exact h.elim
    · rename_i sh n z ht
      split at h
      · rename_i p hx
        obtain ⟨v, hv, hK⟩ := h
        refine ⟨_, hK, fun hc w' hw => ?_⟩
        have hr := (hund _ hv hc).run hw
        simp only [hop, hev hc _ _ hx]
        refine run_v _ _ _ ?_
        simp [Instr.loadAt, Instr.sureAddr, loadVar, ty_isAgg (hT.get ht), hr]
      · exact h.elim
    · exact h.elim
  · -- lookup
    rename_i t m k ok hop
    split at h
    · rename_i vm hm
      split at h
      · rename_i vk hk
        obtain ⟨v, hv, hK⟩ := h
        exact ⟨_, hK, fun hc w' hw => by simp only [hop, hev hc _ _ hm, hev hc _ _ hk]; exact run_v _ _ _ (hund _ hv hc w' hw)⟩
      · exact h.elim
    · exact h.elim
  · -- slice
    rename_i t x lo hi mx hop
    split at h
    · rename_i s hx
      split at h
      · rename_i s1 s2 s3 ht
        obtain ⟨_, d, _, hd, _, hsh, _⟩ := ty_parts (hT.get ht)
        obtain rfl := sh_str hsh
        split at h
        · split at h
          · rename_i y
            split at h
            · rename_i k j hy
              refine ⟨_, h.2, fun hc w' _ => ?_⟩
              obtain ⟨h0, h1⟩ := hund _ h.1 hc
              simp [hop, hev hc _ _ hx, hev hc _ _ hy, Instr.sliceAt, Instr.slice, run_underlying hd, Instr.sliceBounds, Instr.sliceBound, asIntOf, h0, h1]
            · exact h.elim
          · rename_i y
            split at h
            · rename_i k j hy
              refine ⟨_, h.2, fun hc w' _ => ?_⟩
              obtain ⟨h0, h1⟩ := hund _ h.1 hc
              simp [hop, hev hc _ _ hx, hev hc _ _ hy, Instr.sliceAt, Instr.slice, run_underlying hd, Instr.sliceBounds, Instr.sliceBound, asIntOf, h0, h1]
            · exact h.elim
          · rename_i y y'
            split at h
            · rename_i k j hy
              split at h
              · rename_i k' j' hy'
                refine ⟨_, h.2, fun hc w' _ => ?_⟩
                obtain ⟨h0, h1, h2⟩ := hund _ h.1 hc
                have h3 : (0 : Int) ≤ j' := by omega
                have h4 : j ≤ (j'.toNat : Int) := by omega
                simp [hop, hev hc _ _ hx, hev hc _ _ hy, hev hc _ _ hy', Instr.sliceAt, Instr.slice, run_underlying hd, Instr.sliceBounds, Instr.sliceBound, asIntOf, h0, h3, h2]
                intro h7
                omega
              · exact h.elim
            · exact h.elim
          · refine ⟨_, h, fun hc w' _ => ?_⟩
            simp [hop, hev hc _ _ hx, Instr.sliceAt, Instr.slice, run_underlying hd, Instr.sliceBounds]
        · exact h.elim
      · exact h.elim
    · rename_i A n cp hx
      split at h
      · rename_i e sz s1 s2 s3 ht
        obtain ⟨_, d, _, hd, _, hsh, _⟩ := ty_parts (hT.get ht)
        obtain ⟨rfl, hcs⟩ := sh_slice hsh
        cases hz : Nat.beq sz 0 <;> simp only [hz, cond_true, cond_false] at h
        have hz' := Nat.ne_of_beq_eq_false hz
        split at h
        · rename_i l hl
          split at h
          · rename_i g hg
            split at h
            · exact h.elim
            · rename_i hno
              split at h
              · rename_i m hm
                refine ⟨_, h.2, fun hc w' _ => ?_⟩
                obtain ⟨h0, h1, h2, h3⟩ := hund _ h.1 hc
                have hopt : ∀ (y : Option Operand) (d : Nat) (r : Int), optE ev y d = some r → (y = none ∧ r = d) ∨ ∃ z k, y = some z ∧ a.eval z = .int k r := by
                  intro y d r hy
                  cases y with
                  | none => simp only [optE, Option.some.injEq] at hy; exact .inl ⟨rfl, hy.symm⟩
                  | some z =>
                    simp only [optE] at hy
                    split at hy
                    · rename_i k q hq
                      simp only [Option.some.injEq] at hy
                      subst hy
                      exact .inr ⟨z, k, rfl, hev hc _ _ hq⟩
                    · cases hy
                have h5 : (0 : Int) ≤ g := by omega
                have h6 : (0 : Int) ≤ m := by omega
                have hlg : l ≤ (g.toNat : Int) := by omega
                have hgm : g ≤ (m.toNat : Int) := by omega
                have h8 : g ≤ max m 0 := by omega
                have h9 : l ≤ max g 0 := by omega
                have hbounds : (Instr.sliceBounds true n cp (lo.map a.eval) (hi.map a.eval) (mx.map a.eval)).run P w' = .ok (l.toNat, g.toNat, m.toNat) w' := by
                  rcases hopt _ _ _ hl with ⟨rfl, rfl⟩ | ⟨zl, kl, rfl, el⟩ <;> rcases hopt _ _ _ hg with ⟨rfl, rfl⟩ | ⟨zg, kg, rfl, eg⟩ <;> rcases hopt _ _ _ hm with ⟨rfl, rfl⟩ | ⟨zm, km, rfl, em⟩ <;>
                    first
                    | exact absurd rfl (hno _ rfl)
                    | (simp [Instr.sliceBounds, Instr.sliceBound, asIntOf, *]; done)
                    | (simp [Instr.sliceBounds, Instr.sliceBound, asIntOf, *]; omega)
                    | (simp [Instr.sliceBounds, Instr.sliceBound, asIntOf, *]; intros; omega)
                    | (try simp only [Int.toNat_natCast] at hlg hgm
                       simp [Instr.sliceBounds, Instr.sliceBound, asIntOf, *])
                simp only [hop, hev hc _ _ hx]
                refine run_v _ _ _ ?_
                simp [Instr.sliceAt, Instr.slice, run_underlying hd, hbounds, cells_sizeOf hcs hz']
              · exact h.elim
          · exact h.elim
        · exact h.elim
      · exact h.elim
    · exact h.elim
  · -- len
    rename_i args argTypes hop
    split at h
    · rename_i A n cp hargs
      split at h
      · rename_i t ht1
        split at h
        · rename_i e sz s1 s2 s3 ht
          obtain ⟨_, d, _, hd, _, hsh, _⟩ := ty_parts (hT.get ht)
          obtain ⟨rfl, _⟩ := sh_slice hsh
          refine ⟨_, h, fun hc w' _ => ?_⟩
          have e1 := evL_ok (ρ := a.eval) (hev hc) hargs
          have e2 : args.map a.eval = #[.slice A n cp] := by rw [arr_map, e1]
          have e3 : argTypes = #[t] := by apply Array.ext'; simpa using ht1
          simp [hop, resolve, invoke, builtin, Builtin.len_, e2, e3, run_underlying hd, goInt]
        · exact h.elim
      · exact h.elim
    · rename_i s hargs
      split at h
      · rename_i t ht1
        split at h
        · rename_i s1 s2 s3 ht
          obtain ⟨_, d, _, hd, _, hsh, _⟩ := ty_parts (hT.get ht)
          obtain rfl := sh_str hsh
          refine ⟨_, h, fun hc w' _ => ?_⟩
          have e1 := evL_ok (ρ := a.eval) (hev hc) hargs
          have e2 : args.map a.eval = #[.string s] := by rw [arr_map, e1]
          have e3 : argTypes = #[t] := by apply Array.ext'; simpa using ht1
          simp [hop, resolve, invoke, builtin, Builtin.len_, e2, e3, run_underlying hd, goInt]
        · exact h.elim
      · exact h.elim
    · rename_i r hargs
      obtain ⟨v, hv, hK⟩ := h
      refine ⟨_, hK, fun hc w' hw => ?_⟩
      have e1 := evL_ok (ρ := a.eval) (hev hc) hargs
      have e2 : args.map a.eval = #[.map r] := by rw [arr_map, e1]
      have hr := hund _ hv hc w' hw
      have hr' : (Builtin.len_ argTypes o.type #[.map r]).run P w' = .ok v w' := hr
      simp [hop, resolve, invoke, builtin, e2, hr']
    · exact h.elim
  · -- min
    rename_i args argTypes hop
    split at h
    · rename_i k x k' y hargs
      refine ⟨_, h, fun hc w' _ => ?_⟩
      have e1 := evL_ok (ρ := a.eval) (hev hc) hargs
      have e2 : args.map a.eval = #[.int k x, .int k' y] := by rw [arr_map, e1]
      have : (if y < x then y else x) = min x y := by split <;> omega
      simp [hop, resolve, invoke, builtin, e2, Builtin.min_, Builtin.min2, this]
    · rename_i k x k' y k'' z hargs
      refine ⟨_, h, fun hc w' _ => ?_⟩
      have e1 := evL_ok (ρ := a.eval) (hev hc) hargs
      have e2 : args.map a.eval = #[.int k x, .int k' y, .int k'' z] := by rw [arr_map, e1]
      have e3 : (if y < x then y else x) = min x y := by split <;> omega
      have e4 : (if z < min x y then z else min x y) = min (min x y) z := by split <;> omega
      simp [hop, resolve, invoke, builtin, e2, Builtin.min_, Builtin.min2, e3, e4]
    · exact h.elim
  · -- max
    rename_i args argTypes hop
    split at h
    · rename_i k x k' y hargs
      refine ⟨_, h, fun hc w' _ => ?_⟩
      have e1 := evL_ok (ρ := a.eval) (hev hc) hargs
      have e2 : args.map a.eval = #[.int k x, .int k' y] := by rw [arr_map, e1]
      have : (if x < y then y else x) = max x y := by split <;> omega
      simp [hop, resolve, invoke, builtin, e2, Builtin.max_, Builtin.max2, this]
    · rename_i k x k' y k'' z hargs
      refine ⟨_, h, fun hc w' _ => ?_⟩
      have e1 := evL_ok (ρ := a.eval) (hev hc) hargs
      have e2 : args.map a.eval = #[.int k x, .int k' y, .int k'' z] := by rw [arr_map, e1]
      have e3 : (if x < y then y else x) = max x y := by split <;> omega
      have e4 : (if max x y < z then z else max x y) = max (max x y) z := by split <;> omega
      simp [hop, resolve, invoke, builtin, e2, Builtin.max_, Builtin.max2, e3, e4]
    · exact h.elim
  · exact h.elim
end sound
end Go.Se
