
/- The table of types; what each operation that changes no memory asks and gives. -/
import Derived.Test.YtbfjlpoeglcmfaaDoorSe1
import Derived.Laws.Cells
import Derived.Laws.Tables
import Derived.Laws.Entries
set_option linter.unusedVariables false
set_option linter.unusedSimpArgs false
namespace Go.Se
open Go.RowKit

inductive Ty where
  | int (k : IntKind)
  | bool
  | str
  | slice (e n : Nat)
  | strct (fs : List (Nat × Nat × Nat))
  | arr (len n : Nat)
  | map (k e : Nat)
  | other

structure TyE where
  sh : Ty
  size : Nat
  agg : Bool
  zero : Value

abbrev Tab := List (Nat × TyE)
def tget : Tab → Nat → Option TyE
  | [], _ => none
  | (t, e) :: T, s => bif Nat.beq t s then some e else tget T s

def aggT (P : Program) (t : TypeId) : Bool := match P.underlying t with | some (.struct _) | some (.array _ _) => true | _ => false
/-- 0: a plain cell; 1: a struct or an array; 2: no such type. -/
def aggN (P : Program) (t : TypeId) : Nat := match P.underlying t with | some (.struct _) | some (.array _ _) => 1 | some _ => 0 | none => 2
def shOf (P : Program) : TypeDesc → Ty
  | .int k => .int k
  | .bool => .bool
  | .string => .str
  | .slice e => .slice e (P.cellsOf e)
  | .struct fs => .strct (fs.toList.map fun f => (f.offset, P.cellsOf f.type, aggN P f.type))
  | .array n e => .arr n (P.cellsOf e)
  | .map k e => .map k e
  | _ => .other
def tyOf (P : Program) (t : TypeId) : Option TyE :=
  match P.info? t with
  | some i => match P.underlying t with
    | some d => match i.zero with
      | some z => some ⟨shOf P d, i.size, aggT P t, z⟩
      | none => none
    | none => none
  | none => none

def TabOk (P : Program) : Tab → Prop
  | [] => True
  | (t, e) :: T => tyOf P t = some e ∧ TabOk P T
theorem TabOk.get {P : Program} : ∀ {T : Tab}, TabOk P T → ∀ {t : Nat} {e : TyE}, tget T t = some e → tyOf P t = some e
  | [], _, t, e, h => by simp [tget] at h
  | (s, f) :: T, hT, t, e, h => by
    simp only [tget] at h
    cases hb : Nat.beq s t <;> simp only [hb, cond_true, cond_false] at h
    · exact TabOk.get hT.2 h
    · rw [← Nat.eq_of_beq_eq_true hb, ← h]; exact hT.1

section types
variable {P : Program} {t : TypeId} {e : TyE}
theorem ty_parts (h : tyOf P t = some e) : ∃ i d, P.info? t = some i ∧ P.underlying t = some d ∧ i.zero = some e.zero ∧ shOf P d = e.sh ∧ i.size = e.size ∧ aggT P t = e.agg := by
  unfold tyOf at h
  split at h
  · rename_i i hi
    split at h
    · rename_i d hd
      split at h
      · rename_i z hz
        simp only [Option.some.injEq] at h
        subst h
        exact ⟨i, d, hi, hd, hz, rfl, rfl, rfl⟩
      · cases h
    · cases h
  · cases h
theorem ty_isAgg (h : tyOf P t = some e) (w : World) : (isAgg t).run P w = .ok e.agg w := by
  obtain ⟨i, d, _, hd, _, _, _, ha⟩ := ty_parts h
  rw [← ha]
  unfold isAgg aggT
  simp only [Sem.run_bind, run_underlying hd, Result.andThen_ok, hd]
  cases d <;> rfl
theorem ty_typeInfo (h : tyOf P t = some e) (w : World) : ∃ i, P.info? t = some i ∧ (typeInfo t).run P w = .ok i w ∧ i.size = e.size ∧ i.zero = some e.zero := by
  obtain ⟨i, d, hi, _, hz, _, hs, _⟩ := ty_parts h
  exact ⟨i, hi, by simp [typeInfo, hi], hs, hz⟩
theorem ty_sizeOf (h : tyOf P t = some e) (w : World) : (sizeOf t).run P w = .ok e.size w := by
  obtain ⟨i, _, hr, hs, _⟩ := ty_typeInfo h w
  simp [sizeOf, hr, hs]
theorem ty_zero (h : tyOf P t = some e) (w : World) : (zeroValue t).run P w = .ok e.zero w := by
  obtain ⟨i, _, hr, _, hz⟩ := ty_typeInfo h w
  simp [zeroValue, hr, hz]
theorem cells_sizeOf {n : Nat} (h : P.cellsOf t = n) (hn : n ≠ 0) (w : World) : (sizeOf t).run P w = .ok n w := by
  unfold Program.cellsOf at h
  cases hi : P.info? t with
  | none => rw [hi] at h; simp at h; omega
  | some i => rw [hi] at h; simp at h; simp [sizeOf, typeInfo, hi, h]
theorem agg0_isAgg (h : aggN P t = 0) (w : World) : (isAgg t).run P w = .ok false w := by
  unfold aggN at h
  split at h <;> simp at h
  rename_i d hn1 hn2 hd
  unfold isAgg
  simp only [Sem.run_bind, run_underlying hd, Result.andThen_ok]
  cases d <;> first | rfl | exact absurd hd (hn1 _) | exact absurd hd (hn2 _ _)
theorem agg1_isAgg (h : aggN P t = 1) (w : World) : (isAgg t).run P w = .ok true w := by
  unfold aggN at h
  split at h <;> simp at h
  · rename_i hd; unfold isAgg; simp only [Sem.run_bind, run_underlying hd, Result.andThen_ok]; rfl
  · rename_i hd; unfold isAgg; simp only [Sem.run_bind, run_underlying hd, Result.andThen_ok]; rfl
end types


/-! ### Cells -/
def CellsAt (w : World) (a : Addr) (cs : List Value) : Prop := ∀ j v, cs[j]? = some v → w.cell? (a.add j) = some v

/-- Whatever was there is as it was; the rest is new. -/
def Ext (w w' : World) : Prop := Below w.heap.size w w'
theorem Ext.refl (w : World) : Ext w w := Below.refl _ _
theorem Ext.trans {a b c : World} (h : Ext a b) (k : Ext b c) : Ext a c := Below.trans h (Below.mono k h.size)
theorem Ext.drew {a w : World} (h : Ext a w) : Ext a w.drew := ⟨h.os, h.tape, h.output, h.size, h.block⟩
theorem Ext.cell {w w' : World} (h : Ext w w') {p : Addr} {v : Value} (hc : w.cell? p = some v) : w'.cell? p = some v := by
  have hb : p.block < w.heap.size := by
    rcases Nat.lt_or_ge p.block w.heap.size with hlt | hge
    · exact hlt
    · unfold World.cell? at hc; rw [Array.getElem?_eq_none hge] at hc; cases hc
  rw [Below.cell h hb]; exact hc
theorem Ext.cells {w w' : World} (h : Ext w w') {p : Addr} {cs : List Value} (hc : CellsAt w p cs) : CellsAt w' p cs :=
  fun j v hj => h.cell (hc j v hj)

/-- Blocks outside S are as they were. -/
structure Mod (S : Nat → Prop) (w w' : World) : Prop where
  os : w'.os = w.os
  tape : w'.tape = w.tape
  output : w'.output = w.output
  size : w.heap.size ≤ w'.heap.size
  block : ∀ k, k < w.heap.size → ¬ S k → w'.heap[k]? = w.heap[k]?
theorem Mod.refl (S : Nat → Prop) (w : World) : Mod S w w := ⟨rfl, rfl, rfl, Nat.le_refl _, fun _ _ _ => rfl⟩
theorem Mod.trans {S : Nat → Prop} {a b c : World} (h : Mod S a b) (k : Mod S b c) : Mod S a c :=
  ⟨k.os.trans h.os, k.tape.trans h.tape, k.output.trans h.output, Nat.le_trans h.size k.size,
    fun i hi hs => (k.block i (Nat.lt_of_lt_of_le hi h.size) hs).trans (h.block i hi hs)⟩
theorem Mod.of_ext {S : Nat → Prop} {a b : World} (h : Ext a b) : Mod S a b := ⟨h.os, h.tape, h.output, h.size, fun i hi _ => h.block i hi⟩
theorem Mod.ext {a b : World} {S : Nat → Prop} (h : Mod S a b) (hS : ∀ k, k < a.heap.size → ¬ S k) : Ext a b := ⟨h.os, h.tape, h.output, h.size, fun i hi => h.block i hi (hS i hi)⟩
theorem Mod.mono {a b : World} {S S' : Nat → Prop} (h : Mod S a b) (hS : ∀ k, k < a.heap.size → S k → S' k) : Mod S' a b :=
  ⟨h.os, h.tape, h.output, h.size, fun i hi hn => h.block i hi (fun hs => hn (hS i hi hs))⟩

inductive Cl where
  | same
  | ext
  | mods (S : Nat → Prop)
  | gen (R : World → World → Prop) (h : (∀ w, R w w) ∧ ∀ a b c, R a b → R b c → R a c)
def Cl.rel : Cl → World → World → Prop
  | .same => fun w w' => w' = w
  | .ext => Ext
  | .mods S => Mod S
  | .gen R _ => R
theorem Cl.refl : ∀ (c : Cl) (w : World), c.rel w w
  | .same, _ => rfl
  | .ext, w => Ext.refl w
  | .mods S, w => Mod.refl S w
  | .gen _ h, w => h.1 w
theorem Cl.trans : ∀ (c : Cl) {a b d : World}, c.rel a b → c.rel b d → c.rel a d
  | .same, _, _, _, h, k => k.trans h
  | .ext, _, _, _, h, k => Ext.trans h k
  | .mods _, _, _, _, h, k => Mod.trans h k
  | .gen _ hh, _, _, _, h, k => hh.2 _ _ _ h k
/-- A cell is read, and holds the same in every world of the class. -/
def Rd1 (cl : Cl) (w : World) (a : Addr) (v : Value) : Prop :=
  match cl with
  | .same | .ext => w.cell? a = some v
  | .mods S => w.cell? a = some v ∧ ¬ S a.block
  | .gen R _ => ∀ w', R w w' → w'.cell? a = some v
def RdN (cl : Cl) (w : World) (a : Addr) (cs : List Value) : Prop :=
  match cl with
  | .same | .ext => CellsAt w a cs
  | .mods S => CellsAt w a cs ∧ ¬ S a.block
  | .gen R _ => ∀ w', R w w' → CellsAt w' a cs
/-- Something is read by a whole operation. -/
def RdS (P : Program) (cl : Cl) (w : World) (s : Sem Value) (v : Value) : Prop := ∀ w', cl.rel w w' → s.run P w' = .ok v w'

theorem cell_lt {w : World} {a : Addr} {v : Value} (h : w.cell? a = some v) : a.block < w.heap.size := by
  rcases Nat.lt_or_ge a.block w.heap.size with hlt | hge
  · exact hlt
  · unfold World.cell? at h; rw [Array.getElem?_eq_none hge] at h; cases h
theorem add_block (a : Addr) (n : Nat) : (a.add n).block = a.block := by unfold Addr.add; split <;> rfl
theorem Mod.cell {S : Nat → Prop} {w w' : World} (h : Mod S w w') {p : Addr} {v : Value} (hc : w.cell? p = some v) (hs : ¬ S p.block) : w'.cell? p = some v := by
  rw [World.cell?_of_block (w := w) (h.block p.block (cell_lt hc) hs)]; exact hc
theorem Rd1.run {cl : Cl} {w : World} {a : Addr} {v : Value} (h : Rd1 cl w a v) {w' : World} (hw : cl.rel w w') : w'.cell? a = some v := by
  cases cl with
  | same => cases hw; exact h
  | ext => exact Ext.cell hw h
  | mods S => exact Mod.cell hw h.1 h.2
  | gen R hh => exact h w' hw
theorem RdN.run {cl : Cl} {w : World} {a : Addr} {cs : List Value} (h : RdN cl w a cs) {w' : World} (hw : cl.rel w w') : CellsAt w' a cs := by
  cases cl with
  | same => cases hw; exact h
  | ext => exact Ext.cells hw h
  | mods S => exact fun j v hj => Mod.cell hw (h.1 j v hj) (by rw [add_block]; exact h.2)
  | gen R hh => exact h w' hw

/-! ### Lists that are filled in -/
def cellsL : Value → List Value
  | .agg cs => cs.toList
  | v => [v]
theorem cellsL_eq (v : Value) : v.cells.toList = cellsL v := by cases v <;> rfl

def setK : List Value → Nat → Value → (List Value → Prop) → Prop
  | [], _, _, _ => False
  | _ :: l, 0, v, K => K (v :: l)
  | x :: l, n + 1, v, K => setK l n v fun l' => K (x :: l')
theorem setK_iff : ∀ {l : List Value} {n : Nat} {v : Value} {K : List Value → Prop}, setK l n v K → n < l.length ∧ K (l.set n v)
  | [], _, _, _, h => h.elim
  | _ :: l, 0, v, K, h => ⟨by simp, h⟩
  | x :: l, n + 1, v, K, h => by
    obtain ⟨h1, h2⟩ := setK_iff (l := l) (n := n) (v := v) h
    exact ⟨by simp; omega, h2⟩
def setsK : List Value → Nat → List Value → (List Value → Prop) → Prop
  | l, _, [], K => K l
  | l, n, v :: vs, K => setK l n v fun l' => setsK l' (n + 1) vs K
def setsL : List Value → Nat → List Value → List Value
  | l, _, [] => l
  | l, n, v :: vs => setsL (l.set n v) (n + 1) vs
theorem setsK_iff : ∀ {vs l : List Value} {n : Nat} {K : List Value → Prop}, setsK l n vs K → (vs = [] ∨ n + vs.length ≤ l.length) ∧ K (setsL l n vs)
  | [], _, _, _, h => ⟨.inl rfl, h⟩
  | v :: vs, l, n, K, h => by
    obtain ⟨h1, h2⟩ := setK_iff h
    obtain ⟨h3, h4⟩ := setsK_iff h2
    refine ⟨.inr ?_, h4⟩
    rcases h3 with rfl | h3
    · simp; omega
    · simp at h3 ⊢; omega
theorem setsL_length : ∀ (vs l : List Value) (n : Nat), (setsL l n vs).length = l.length
  | [], _, _ => rfl
  | v :: vs, l, n => by rw [setsL, setsL_length]; simp
theorem foldl_setsL : ∀ (vs l : List Value) (off k : Nat),
    (vs.zipIdx k).foldl (fun (cs : Array Value) (x : Value × Nat) => cs.setIfInBounds (off + x.2) x.1) l.toArray = (setsL l (off + k) vs).toArray
  | [], _, _, _ => rfl
  | v :: vs, l, off, k => by
    simp only [List.zipIdx_cons, List.foldl_cons, setsL]
    rw [List.setIfInBounds_toArray, foldl_setsL vs _ off (k + 1)]
    rfl

/-- The fields of a struct. -/
def fillK (fs : List (Nat × Nat × Nat)) : List Value → List (Nat × Value) → (List Value → Prop) → Prop
  | cells, [], K => K cells
  | cells, (i, v) :: rest, K => match nth fs i with
    | some (off, size, _) => bif Nat.beq (cellsL v).length size then setsK cells off (cellsL v) fun cells' => fillK fs cells' rest K else False
    | none => False
theorem fillK_sound {fs : List (Nat × Nat × Nat)} {place : Nat → Option (Nat × Nat)} (hp : ∀ i off size k, nth fs i = some (off, size, k) → place i = some (off, size)) (hs : ∀ i off size k, nth fs i = some (off, size, k) → size ≠ 0) :
    ∀ {parts : List (Nat × Value)} {cells : List Value} {K : List Value → Prop}, fillK fs cells parts K → ∃ r, Instr.fill place cells.toArray parts = some r.toArray ∧ K r
  | [], cells, K, h => ⟨cells, rfl, h⟩
  | (i, v) :: rest, cells, K, h => by
    simp only [fillK] at h
    cases hn : nth fs i with
    | none => rw [hn] at h; exact h.elim
    | some x =>
      obtain ⟨off, size, k⟩ := x
      rw [hn] at h
      simp only at h
      cases hb : Nat.beq (cellsL v).length size <;> simp only [hb, cond_true, cond_false] at h
      have hlen := Nat.eq_of_beq_eq_true hb
      obtain ⟨h1, h2⟩ := setsK_iff h
      obtain ⟨r, hr, hk⟩ := fillK_sound hp hs h2
      refine ⟨r, ?_, hk⟩
      have hcs : v.cells.size = size := by rw [← hlen, ← cellsL_eq]; simp
      have hle : off + size ≤ cells.length := by
        rcases h1 with h1 | h1
        · rw [h1] at hlen; exact absurd hlen.symm (hs i off size k hn)
        · rw [hlen] at h1; exact h1
      simp only [Instr.fill, hp i off size k hn]
      rw [if_neg (by simp [hcs]; omega)]
      have : v.cells = (cellsL v).toArray := by rw [← cellsL_eq]
      rw [this, ← Array.foldl_toList]
      simp only [Array.toList_zipIdx]
      rw [foldl_setsL (cellsL v) cells off 0]
      exact hr
end Go.Se
