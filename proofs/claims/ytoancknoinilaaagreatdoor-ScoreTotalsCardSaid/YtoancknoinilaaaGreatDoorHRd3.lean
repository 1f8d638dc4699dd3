import Derived.Test.YtoancknoinilaaaGreatDoorGF
import Derived.Laws.IdiomRangeMap

/- The decaying counter: the weight of an age, a key's count at a now. -/
set_option linter.unusedVariables false
set_option linter.unusedSimpArgs false
namespace Go.Proofs.YtoancknoinilaaaGreatDoor
open Go.Se Go.RowKit

theorem wrap_add_l (a b : Int) : IntKind.i64.wrap (IntKind.i64.wrap a + b) = IntKind.i64.wrap (a + b) := by
  simp only [IntKind.wrap, IntKind.bits, IntKind.signed]
  simp
  split <;> split <;> split <;> omega
theorem wrap_add_r (a b : Int) : IntKind.i64.wrap (a + IntKind.i64.wrap b) = IntKind.i64.wrap (a + b) := by
  rw [Int.add_comm, wrap_add_l, Int.add_comm]
theorem wrap_0 : IntKind.i64.wrap 0 = 0 := by decide

/-- The weight of an age. -/
def weightF (age half : Int) : Int := if age < 0 then 0 else if 20 < age / max half 1 then 0 else (1048576 : Int).fdiv (2 ^ (age / max half 1).toNat)
theorem weight_spec (age half : Int) (ha : -4611686018427387904 ≤ age ∧ age ≤ 4611686018427387904) (w : World) :
    Cal Tryz.prog 166 [.int .i64 age, .int .i64 half] w fun r w' => r = .int .i64 (weightF age half) ∧ w' = w := by
  have hm : max half 1 ≠ 0 := by omega
  refine fn_intro Tt_ok Tryz.func166 (by rfl) rfl _ rfl rfl (by rfl) ?_; (conv => whnf)
  constructor
  · intro hc
    have hc : age < 0 := by simpa using hc
    (conv => whnf)
    exact ⟨by rw [weightF, if_pos hc], rfl⟩
  · intro hc
    have hc : ¬ age < 0 := by simpa using hc
    have h1 : age.tdiv (max half 1) = age / max half 1 := Int.tdiv_eq_ediv_of_nonneg (by omega)
    have h2 : 0 ≤ age / max half 1 := Int.ediv_nonneg (by omega) (by omega)
    have h3 : age / max half 1 ≤ age := Int.ediv_le_self _ (by omega)
    have hw : weightF age half = if 20 < age / max half 1 then 0 else (1048576 : Int).fdiv (2 ^ (age / max half 1).toNat) := by rw [weightF, if_neg hc]
    rw [hw]
    clear hw
    (conv => whnf)
    refine ⟨age / max half 1, ⟨hm, wrap_eq h1.symm ⟨by omega, by omega⟩⟩, ?_⟩; (conv => whnf)
    generalize age / max half 1 = n at h2 h3 ⊢
    constructor
    · intro hn
      have hn : 20 < n := by simpa using hn
      (conv => whnf)
      exact ⟨by rw [if_pos hn], rfl⟩
    · intro hn
      have hn : ¬ 20 < n := by simpa using hn
      have hmin : min n.toNat IntKind.i64.bits = n.toNat := by simp only [IntKind.bits]; omega
      (conv => whnf)
      refine ⟨(1048576 : Int).fdiv (2 ^ n.toNat), ⟨h2, by rw [hmin]⟩, ?_⟩; (conv => whnf)
      exact ⟨by rw [if_neg hn], rfl⟩

/-- A key's count. -/
def sumAt (half now : Int) (r : List (Int × Int)) : Int := (r.map fun x => x.2 * weightF (now - x.1) half).sum
theorem perm_sum {l m : List Int} (h : l.Perm m) : l.sum = m.sum := by
  induction h with
  | nil => rfl
  | cons a _ ih => simp [ih]
  | swap a b l => simp only [List.sum_cons]; omega
  | trans _ _ h1 h2 => exact h1.trans h2
theorem sumAt_perm {half now : Int} {r s : List (Int × Int)} (h : r.Perm s) : sumAt half now r = sumAt half now s := perm_sum (h.map _)
def countAt (s : Sums) (half : Int) (key : ByteArray) (now : Int) : Int := IntKind.i64.wrap (sumAt half now ((alook s key).getD []))
theorem range_nil {P : Program} {w : World} {mt kt et : TypeId} (ht : P.underlying mt = some (.map kt et)) {R : Value → World → Prop}
    (h : ∀ w', Ext w w' → w'.heap[w.heap.size]? = some (.mapIter none 0 #[] 0) → R (.pointer (some ⟨w.heap.size, 0, none⟩)) w') : RunE P (Instr.range mt (.map none)) w R := by
  refine ⟨_, _, Go.run_range_nilMap w mt kt et ht, h _ ((Below.refl _ _).alloc (Nat.le_refl _) _) (heap_alloc_new w _)⟩
theorem next_nil {P : Program} {w : World} {r : Nat} {a b : Nat} {s : Array Nat} {ty : TypeId} (hr : w.heap[r]? = some (.mapIter none a s b)) {R : Value → World → Prop} (h : R (.tuple #[.bool false]) w) : RunE P (Instr.next (.pointer (some ⟨r, 0, none⟩)) false ty) w R := by
  refine ⟨_, _, ?_, h⟩
  simp only [Instr.next, getObj, Sem.run_bind, Sem.run, hr, Result.andThen]
  rfl
theorem vencI_perm {vs L : List (Int × Int)} (h : (venc vi vs).Perm (venc vi L)) : vs.Perm L := by
  have h1 := h.map (fun x : Int × Value => (x.1, match x.2 with | .int _ n => n | _ => 0))
  simpa [venc, List.map_map, Function.comp_def, vi] using h1
theorem decAt_spec (w : World) (S : Nat → Prop) (p : Nat) (half n : Int) (s : Sums) (h : CtAt w S p half n s) (key : ByteArray) (now : Int) (hnow : 0 ≤ now ∧ now ≤ 1099511627776) (ht : ∀ r, alook s key = some r → ∀ x ∈ r, 0 ≤ x.1 ∧ x.1 ≤ 1099511627776) :
    Cal Tryz.prog 158 [.pointer (some ⟨p, 0, none⟩), .string key, .int .i64 now] w fun r w' => r = .int .i64 (countAt s half key now) ∧ Ext w w' := by
  obtain ⟨bm, h⟩ := h
  have hplt := h.head.lt
  have hhead := h.head
  refine fn_intro Tt_ok Tryz.func158 (by rfl) rfl _ rfl rfl (by rfl) ?_; (conv => whnf)
  constructor
  · intro hc
    have hc : now < 0 := by simpa using hc
    omega
  intro _
  (conv => whnf)
  refine ⟨.map (some bm), h.head.one rfl, ?_⟩; (conv => whnf)
  rcases h.sums.look intMap_local undSM (key_string undStr) (e := ty281) ty281_ok rfl key with ⟨hno, hrd⟩ | ⟨b, m, Sk, hsome, hrd, hIv, hSk, _⟩
  · have hres : countAt s half key now = 0 := by unfold countAt; rw [hno]; exact wrap_0
    rw [hres]
    refine ⟨_, hrd .same kept_same, ?_⟩; (conv => whnf)
    refine range_nil undIM fun w2 hx2 hr2 => ?_
    generalize w.heap.size = r at hr2 ⊢
    (conv => whnf)
    refine loop_rule Tt_ok (fun (_ : Unit) w' => w' = w2) (fun _ => [(19, .pointer (some ⟨r, 0, none⟩)), (7, .int .i64 0)]) (fun _ => 0) () rfl ⟨rfl, rfl, trivial⟩ ?_
    rintro _ w3 rfl
    (conv => whnf)
    refine next_nil hr2 ?_
    (conv => whnf)
    constructor
    · intro hh; cases hh
    intro _
    (conv => whnf)
    exact ⟨rfl, hx2⟩
  · have hm := hIv.2
    have ht := ht m hsome
    have hres : countAt s half key now = IntKind.i64.wrap (sumAt half now m) := by unfold countAt; rw [hsome]; rfl
    rw [hres]
    refine ⟨_, hrd .same kept_same, ?_⟩; (conv => whnf)
    refine map_range undIM hm fun w3 hi3 hx3 => ?_
    have hrw : w.heap.size ≤ w.heap.size := Nat.le_refl _
    generalize hr : w.heap.size = r at hi3 ⊢
    (conv => whnf)
    refine loop_rule Tt_ok (fun (q : List (Int × Int) × Int) w' => Ext w w' ∧ Iter w' r b vi (venc vi m) (venc vi q.1) ∧ q.2 = IntKind.i64.wrap (sumAt half now q.1))
      (fun | (vs, z) => [(0, .pointer (some ⟨p, 0, none⟩)), (2, .int .i64 now), (19, .pointer (some ⟨r, 0, none⟩)), (7, .int .i64 z)]) (fun q => m.length - q.1.length) ([], 0) ⟨hx3, hi3, wrap_0.symm⟩ ⟨rfl, rfl, rfl, rfl, trivial⟩ ?_
    clear hi3 hx3
    rintro ⟨vs, z⟩ w4 ⟨hx4, hi4, hz⟩
    simp only at hi4 hz
    (conv => whnf)
    refine map_step hi4 (fun hp => ?_) (fun x w5 hin hnew hlt hi5 ho5 hen => ?_)
    · have hp := vencI_perm hp
      (conv => whnf)
      constructor
      · intro hh; cases hh
      intro _
      (conv => whnf)
      exact ⟨by rw [hz, sumAt_perm hp], hx4⟩
    · obtain ⟨y, hy, rfl⟩ := List.mem_map.1 hin
      have hlt : vs.length < m.length := by simpa [venc] using hlt
      have hvs : venc vi vs ++ [(y.1, vi y.2)] = venc vi (vs ++ [y]) := by simp [venc]
      rw [hvs] at hi5
      have hx5 := ho5.ext hx4 (by omega)
      have hty := ht y hy
      have hsn : IntKind.i64.wrap (sumAt half now (vs ++ [y])) = IntKind.i64.wrap (z + IntKind.i64.wrap (y.2 * weightF (now - y.1) half)) := by
        rw [hz, wrap_add_l, wrap_add_r]
        simp [sumAt]
      (conv => whnf)
      constructor
      · intro _
        (conv => whnf)
        refine map_entryRun (hen w5 rfl rfl) ?_
        (conv => whnf)
        refine ⟨now - y.1, wrap_eq rfl ⟨by omega, by omega⟩, ?_⟩; (conv => whnf)
        refine ⟨_, (hhead.ext hx5).one rfl, ?_⟩; (conv => whnf)
        refine (weight_spec (now - y.1) half ⟨by omega, by omega⟩ w5).mono ?_
        rintro _ _ ⟨rfl, rfl⟩
        (conv => whnf)
        refine ⟨_, rfl, ?_⟩; (conv => whnf)
        refine ⟨_, rfl, ?_⟩; (conv => whnf)
        exact ⟨(vs ++ [y], _), by simp; omega, ⟨hx5, hi5, hsn.symm⟩, ⟨rfl, rfl, rfl, rfl, trivial⟩⟩
      · intro hh; cases hh
end Go.Proofs.YtoancknoinilaaaGreatDoor
