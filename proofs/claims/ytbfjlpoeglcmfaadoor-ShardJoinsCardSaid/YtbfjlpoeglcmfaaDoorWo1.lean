
/- Parts of the heap that belong to something; a map of rows. -/
import Derived.Test.YtbfjlpoeglcmfaaDoorEw3
set_option linter.unusedVariables false
set_option linter.unusedSimpArgs false
namespace Go.Proofs.YtbfjlpoeglcmfaaDoor
open Go.Se Go.RowKit

/-- The blocks of something, and whatever is new. -/
def Grow (S : Nat → Prop) (w : World) (k : Nat) : Prop := S k ∨ w.heap.size ≤ k
theorem mod_grown {S : Nat → Prop} {w w' : World} {row : Option Nat} (hg : w.grownBy w' row) (hr : ∀ k, row = some k → S k) : Mod S w w' :=
  ⟨hg.os, hg.tape, hg.output, hg.size, fun k hk hs => hg.block k hk (fun e => hs (hr k e.symm))⟩
theorem mod_only {S : Nat → Prop} {w w' : World} {b : Nat} (ho : Only w w' b) (hb : S b) : Mod S w w' := ho.mod.mono fun k _ e => by rw [e]; exact hb
theorem mod_new {S : Nat → Prop} {w w1 : World} {b : Nat} {o : Obj} (h : New w w1 b o) : Mod S w w1 := Mod.of_ext h.ext
/-- What changed among what is new does not count. -/
theorem mod_trans_grow {S : Nat → Prop} {w w1 w2 : World} (h : Mod S w w1) (k : Mod (Grow S w) w1 w2) : Mod S w w2 :=
  ⟨k.os.trans h.os, k.tape.trans h.tape, k.output.trans h.output, Nat.le_trans h.size k.size, fun i hi hs =>
    (k.block i (Nat.lt_of_lt_of_le hi h.size) (fun hg => hg.elim hs (fun hh => by omega))).trans (h.block i hi hs)⟩
theorem store_ptr {P : Program} {T : Tab} (hT : TabOk P T) {t : TypeId} {e : TyE} (ht : tget T t = some e) {w : World} {R : Value → World → Prop} {b tb off : Nat} {l : List Value} {v : Value} {p : Addr} (h : At w b tb l) (hp : p = ⟨b, off, none⟩) (hn : (cellsL v).length = e.size) (hle : Nat.ble (off + e.size) l.length = true) (hone : ∀ u ∈ cellsL v, u.oneCell' = true)
    (hk : ∀ w', At w' b tb (spl l off (cellsL v)) → Only w w' b → R undef w') : RunU P (Instr.storeAt t (.pointer (some p)) v) w R := by
  subst hp; exact store_at hT ht h hn (Nat.le_of_ble_eq_true hle) hone hk

section
variable {α : Type} {enc : α → List Value} {sz : Nat} {te : TypeId} {w w1 w2 w3 : World} {S S' : Nat → Prop} {bm : Nat} {rows : ByteArray → List α} {L : List (ByteArray × (Option Addr × Nat))} {P : Program} {mt kt et : TypeId}
def toV (rows : ByteArray → List α) (L : List (ByteArray × (Option Addr × Nat))) : List (ByteArray × Value) := L.map fun x => (x.1, Value.slice x.2.1 (rows x.1).length x.2.2)
/-- A map of texts to rows. -/
structure RowsL (enc : α → List Value) (sz : Nat) (te : TypeId) (w : World) (S : Nat → Prop) (bm : Nat) (rows : ByteArray → List α) (L : List (ByteArray × (Option Addr × Nat))) : Prop where
  mine : S bm
  map : MapAt w bm Value.string (toV rows L)
  row : ∀ x ∈ L, Own enc sz te 0 w x.2.1 x.2.2 (rows x.1) ∧ ∀ a, x.2.1 = some a → S a.block ∧ a.block ≠ bm
  ne : ∀ x ∈ L, rows x.1 ≠ []
  apart : L.Pairwise (fun x y => ∀ a a', x.2.1 = some a → y.2.1 = some a' → a.block ≠ a'.block)
  all : ∀ k, alook L k = none → rows k = []
theorem RowsL.keys (h : RowsL enc sz te w S bm rows L) : L.Pairwise (fun x y => x.1 ≠ y.1) := by
  have := h.map.keys
  unfold toV at this
  rw [List.pairwise_map] at this
  exact this
theorem look_toV (k : ByteArray) : ∀ L : List (ByteArray × (Option Addr × Nat)), alook (toV rows L) k = (alook L k).map fun p => Value.slice p.1 (rows k).length p.2
  | [] => rfl
  | x :: L => by
    simp only [toV, List.map_cons, alook]
    by_cases e : k = x.1
    · subst e; simp
    · rw [if_neg e, if_neg e]; exact look_toV k L
theorem RowsL.keep (h : RowsL enc sz te w S bm rows L) (hk : ∀ k, k < w.heap.size → S k → w1.heap[k]? = w.heap[k]? ∧ S' k) : RowsL enc sz te w1 S' bm rows L where
  mine := (hk bm h.map.lt h.mine).2
  map := h.map.keep (hk bm h.map.lt h.mine).1
  row x hx := by
    obtain ⟨h1, h2⟩ := h.row x hx
    exact ⟨h1.keep fun a ha => (hk a.block (h1.block ha).2 (h2 a ha).1).1, fun a ha => ⟨(hk a.block (h1.block ha).2 (h2 a ha).1).2, (h2 a ha).2⟩⟩
  ne := h.ne
  apart := h.apart
  all := h.all
/-- The row of a key. -/
def rowAt (L : List (ByteArray × (Option Addr × Nat))) (k : ByteArray) : Option Addr × Nat := (alook L k).getD (none, 0)
theorem RowsL.own (h : RowsL enc sz te w S bm rows L) (k : ByteArray) : Own enc sz te 0 w (rowAt L k).1 (rowAt L k).2 (rows k) ∧ ∀ a, (rowAt L k).1 = some a → S a.block ∧ a.block ≠ bm := by
  unfold rowAt
  cases hk : alook L k with
  | none => rw [h.all k hk]; exact ⟨Own.nil, fun a ha => by simp at ha⟩
  | some p =>
    have := h.row _ (alook_mem hk)
    exact this
theorem RowsL.look (h : RowsL enc sz te w S bm rows L) (ht : P.underlying mt = some (.map kt et)) (hkt : P.underlying kt = some .string) {e : TyE} (he : tyOf P et = some e) (hz : e.zero = .slice none 0 0) (k : ByteArray) {cl : Cl} (hc : Kept cl w bm) :
    RdS P cl w (Instr.lookup mt (.map (some bm)) (.string k) false) (.slice (rowAt L k).1 (rows k).length (rowAt L k).2) := by
  have := map_look ht (key_string hkt) he hc h.map k
  rw [look_toV, hz] at this
  unfold rowAt
  cases hk : alook L k with
  | none => rw [hk] at this; rw [h.all k hk]; exact this
  | some p => rw [hk] at this; exact this
def updR (rows : ByteArray → List α) (k : ByteArray) (r : List α) (x : ByteArray) : List α := if x = k then r else rows x
theorem toV_aset {k : ByteArray} {p : Option Addr × Nat} {r : List α} : ∀ {L : List (ByteArray × (Option Addr × Nat))}, L.Pairwise (fun x y => x.1 ≠ y.1) → toV (updR rows k r) (aset L k p) = aset (toV rows L) k (.slice p.1 r.length p.2)
  | [], _ => by simp [toV, aset, updR]
  | x :: L, hp => by
    rw [List.pairwise_cons] at hp
    simp only [toV, List.map_cons, aset]
    by_cases e : k = x.1
    · subst e
      simp only [if_true, List.map_cons, updR]
      congr 1
      apply List.map_congr_left
      intro y hy
      simp only [if_neg (fun e : y.1 = x.1 => hp.1 y hy e.symm)]
    · simp only [if_neg e, List.map_cons, updR, if_neg (fun q : x.1 = k => e q.symm)]
      congr 1
      exact toV_aset hp.2
theorem alook_pw {β : Type} {R : ByteArray × β → ByteArray × β → Prop} {k : ByteArray} {p : β} : ∀ {L : List (ByteArray × β)}, L.Pairwise R → (∀ y ∈ L, y.1 ≠ k → R (k, p) y) → (∀ y ∈ L, y.1 ≠ k → R y (k, p)) → L.Pairwise (fun x y => x.1 ≠ y.1) → (aset L k p).Pairwise R
  | [], _, _, _, _ => by simp [aset]
  | x :: L, hp, h1, h2, hk => by
    rw [List.pairwise_cons] at hp hk
    simp only [aset]
    by_cases e : k = x.1
    · subst e
      rw [if_pos rfl, List.pairwise_cons]
      exact ⟨fun y hy => h1 y (by simp [hy]) (fun q => hk.1 y hy q.symm), hp.2⟩
    · rw [if_neg e, List.pairwise_cons]
      refine ⟨fun y hy => ?_, alook_pw hp.2 (fun y hy => h1 y (by simp [hy])) (fun y hy => h2 y (by simp [hy])) hk.2⟩
      rcases aset_mem hy with rfl | hy
      · exact h2 x (by simp) (fun q => e q.symm)
      · exact hp.1 y hy
/-- 'm[k] = append(m[k], ..)'. -/
theorem RowsL.push (h : RowsL enc sz te w S bm rows L) {k : ByteArray} {r : List α} (hr : r ≠ []) {A' : Option Addr} {c' : Nat} (hx : Ext w w1) (hg : w1.grownBy w2 ((rowAt L k).1.map (·.block))) (hA : A' = (rowAt L k).1 ∨ A'.map (·.block) = (rowAt L k).1.map (·.block) ∨ A'.map (·.block) = some w1.heap.size)
    (hown : Own enc sz te 0 w2 A' c' r) (hm : MapAt w3 bm Value.string (aset (toV rows L) k (.slice A' r.length c'))) (ho : Only w2 w3 bm) : RowsL enc sz te w3 (Grow S w) bm (updR rows k r) (aset L k (A', c')) := by
  have hbm := h.map.lt
  have hblk : ∀ a, A' = some a → a.block ≠ bm ∧ Grow S w a.block ∧ ((∃ a0, (rowAt L k).1 = some a0 ∧ a0.block = a.block) ∨ a.block = w1.heap.size) := by
    intro a ha
    subst ha
    have h2 := (h.own k).2
    have hs := hx.size
    rcases hA with hA | hA | hA
    · obtain ⟨q1, q2⟩ := h2 a hA.symm
      exact ⟨q2, .inl q1, .inl ⟨a, hA.symm, rfl⟩⟩
    · cases hr0 : (rowAt L k).1 with
      | none => rw [hr0] at hA; simp at hA
      | some a0 =>
        rw [hr0] at hA
        obtain ⟨q1, q2⟩ := h2 a0 hr0
        have e : a.block = a0.block := by simpa using hA
        rw [e]
        exact ⟨q2, .inl q1, .inl ⟨a0, rfl, rfl⟩⟩
    · have e : a.block = w1.heap.size := by simpa using hA
      rw [e]
      exact ⟨by omega, .inr hs, .inr rfl⟩
  have hoth : ∀ x ∈ L, x.1 ≠ k → Own enc sz te 0 w3 x.2.1 x.2.2 (rows x.1) ∧ (∀ a, x.2.1 = some a → S a.block ∧ a.block ≠ bm) ∧ ∀ a a', x.2.1 = some a → A' = some a' → a.block ≠ a'.block := by
    intro x hxL hne
    obtain ⟨h1, h2⟩ := h.row x hxL
    have hap : ∀ a a0, x.2.1 = some a → (rowAt L k).1 = some a0 → a.block ≠ a0.block := by
      intro a a0 ha ha0
      unfold rowAt at ha0
      cases hk : alook L k with
      | none => rw [hk] at ha0; simp at ha0
      | some p =>
        rw [hk] at ha0
        have hin := alook_mem hk
        have hpw := h.apart
        have : ∀ {L : List (ByteArray × (Option Addr × Nat))}, L.Pairwise (fun x y => ∀ a a', x.2.1 = some a → y.2.1 = some a' → a.block ≠ a'.block) → x ∈ L → (k, p) ∈ L → a.block ≠ a0.block := by
          intro L
          induction L with
          | nil => intro _ h; simp at h
          | cons y L ih =>
            intro hp m1 m2
            rw [List.pairwise_cons] at hp
            rcases List.mem_cons.1 m1 with e1 | n1 <;> rcases List.mem_cons.1 m2 with e2 | n2
            · exact absurd (by rw [e1, ← e2]) hne
            · subst e1; exact hp.1 _ n2 a a0 ha (by simpa using ha0)
            · subst e2; exact fun q => hp.1 _ n1 a0 a (by simpa using ha0) ha q.symm
            · exact ih hp.2 n1 n2
        exact this hpw hxL hin
    refine ⟨h1.keep fun a ha => ?_, h2, fun a a' ha ha' => ?_⟩
    · have hlt := (h1.block ha).2
      have hs := hx.size
      rw [ho.block _ (h2 a ha).2, hg.block _ (by omega) ?_, hx.block _ hlt]
      intro e
      cases hr0 : (rowAt L k).1 with
      | none => rw [hr0] at e; simp at e
      | some a0 => rw [hr0] at e; exact hap a a0 ha hr0 (by simpa using e)
    · have hlt := (h1.block ha).2
      have hs := hx.size
      rcases (hblk a' ha').2.2 with ⟨a0, q1, q2⟩ | q
      · rw [← q2]; exact hap a a0 ha q1
      · rw [q]; omega
  refine ⟨.inl h.mine, ?_, ?_, ?_, ?_, ?_⟩
  · rw [toV_aset h.keys]; exact hm
  · intro x hx'
    rcases aset_mem hx' with rfl | hxL
    · refine ⟨?_, fun a ha => ⟨(hblk a ha).2.1, (hblk a ha).1⟩⟩
      simp only [updR, if_true]
      exact hown.keep fun a ha => ho.block _ (hblk a ha).1
    · by_cases e : x.1 = k
      · have hin : ∀ {L : List (ByteArray × (Option Addr × Nat))}, L.Pairwise (fun x y => x.1 ≠ y.1) → x ∈ aset L k (A', c') → x.1 = k → x = (k, (A', c')) := by
          intro L hp hm' he
          have h1 := mem_alook (aset_pairwise hp) (k := x.1) (v := x.2) (by simpa using hm')
          rw [he, alook_aset_self] at h1
          have : (A', c') = x.2 := by simpa using h1
          rw [this, ← he]
        have := hin h.keys hx' e
        subst this
        refine ⟨?_, fun a ha => ⟨(hblk a ha).2.1, (hblk a ha).1⟩⟩
        simp only [updR, if_true]
        exact hown.keep fun a ha => ho.block _ (hblk a ha).1
      · obtain ⟨q1, q2, _⟩ := hoth x hxL e
        simp only [updR, if_neg e]
        exact ⟨q1, fun a ha => ⟨.inl (q2 a ha).1, (q2 a ha).2⟩⟩
  · intro x hx'
    by_cases e : x.1 = k
    · simp only [updR, if_pos e]; exact hr
    · rcases aset_mem hx' with rfl | hxL
      · exact absurd rfl e
      · simp only [updR, if_neg e]; exact h.ne x hxL
  · refine alook_pw h.apart (fun y hy hne a a' ha ha' => ?_) (fun y hy hne a a' ha ha' => ?_) h.keys
    · exact fun q => (hoth y hy hne).2.2 a' a ha' ha q.symm
    · exact (hoth y hy hne).2.2 a a' ha ha'
  · intro k' hk'
    rw [alook_aset] at hk'
    by_cases e : k' = k
    · rw [if_pos e] at hk'; cases hk'
    · rw [if_neg e] at hk'
      simp only [updR, if_neg e]
      exact h.all k' hk'
theorem RowsL.new {b : Nat} (hn : New w w1 b (.map #[] 0)) (hb : S b) : RowsL enc sz te w1 S b (fun _ => []) [] :=
  ⟨hb, MapAt.new hn, by simp, by simp, by simp, fun _ _ => rfl⟩
end
end Go.Proofs.YtbfjlpoeglcmfaaDoor
