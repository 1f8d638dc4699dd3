
/- Sorting events: slices.SortStableFunc. -/
import Derived.Test.YtbfjlpoeglcmfaaDoorSo4
set_option linter.unusedVariables false
set_option linter.unusedSimpArgs false
namespace Go.Proofs.YtbfjlpoeglcmfaaDoor
open Go.Se Go.RowKit

section
variable {α : Type} {lt : α → α → Bool}
/-- Sorted stretches of one length, the last one of at most that. -/
inductive Runs (lt : α → α → Bool) (bs : Nat) : List α → Prop
  | last (r : List α) : r.length ≤ bs → Srt lt r → Runs lt bs r
  | cons (r t : List α) : r.length = bs → Srt lt r → Runs lt bs t → Runs lt bs (r ++ t)
def Full (lt : α → α → Bool) (bs : Nat) (z : List α) : Prop := ∃ L : List (List α), z = L.flatten ∧ ∀ r ∈ L, r.length = bs ∧ Srt lt r
theorem Full.nil (bs : Nat) : Full lt bs ([] : List α) := ⟨[], rfl, by simp⟩
theorem Full.snoc {bs : Nat} {z r : List α} (h : Full lt bs z) (hr : r.length = bs) (hs : Srt lt r) : Full lt bs (z ++ r) := by
  obtain ⟨L, rfl, hL⟩ := h
  refine ⟨L ++ [r], by simp, fun x hx => ?_⟩
  rcases List.mem_append.1 hx with hx | hx
  · exact hL x hx
  · simp at hx; subst hx; exact ⟨hr, hs⟩
theorem Full.runs {bs : Nat} {z t : List α} (h : Full lt bs z) (ht : Runs lt bs t) : Runs lt bs (z ++ t) := by
  obtain ⟨L, rfl, hL⟩ := h
  induction L with
  | nil => simpa using ht
  | cons r L ih =>
    simp only [List.flatten_cons, List.append_assoc]
    exact .cons _ _ (hL r (by simp)).1 (hL r (by simp)).2 (ih fun x hx => hL x (by simp [hx]))
theorem runs_le {bs : Nat} {d : List α} (h : Runs lt bs d) (hl : d.length ≤ bs) : Srt lt d := by
  induction h with
  | last r _ hs => exact hs
  | cons r t hr hs ht ih =>
    have : t = [] := by rw [← List.length_eq_zero_iff]; simp at hl; omega
    subst this; simpa using hs
theorem runs_cut {bs : Nat} {d : List α} (h : Runs lt bs d) (hl : bs < d.length) : ∃ r t, d = r ++ t ∧ r.length = bs ∧ Srt lt r ∧ Runs lt bs t := by
  cases h with
  | last _ h1 _ => omega
  | cons r t hr hs ht => exact ⟨r, t, rfl, hr, hs, ht⟩
theorem runs_cut' {bs : Nat} {d : List α} (h : Runs lt bs d) (hl : bs ≤ d.length) : ∃ r t, d = r ++ t ∧ r.length = bs ∧ Srt lt r ∧ Runs lt bs t := by
  rcases Nat.lt_or_eq_of_le hl with hl | hl
  · exact runs_cut h hl
  · exact ⟨d, [], by simp, hl.symm, runs_le h (by omega), .last _ (by simp) Srt.nil⟩
end

set_option maxHeartbeats 4000000 in
theorem stable_spec (x : List Ev) (A : Option Addr) (c base : Nat) (w : World) (n : Nat) (hn : x.length = n) (hLs : n < 100000000000)
    (hown : Own evC 8 34 base w A c x) :
    Cal Tryd.prog 41 [.slice A n c, .int .i64 n, cmpV] w fun r w' => r = .tuple #[] ∧ ∃ z, z.Perm x ∧ Srt lessB z ∧ Own evC 8 34 base w' A c z ∧ Mod (Blk A) w w' := by
  have hd : ∀ {m n : Nat}, decide ((m : Int) < (n : Int)) = true → m < n := fun h => by simpa using h
  have hd' : ∀ {m n : Nat}, decide ((m : Int) < (n : Int)) = false → n ≤ m := fun h => by simpa using h
  have hl : ∀ {m n : Nat}, decide ((m : Int) ≤ (n : Int)) = true → m ≤ n := fun h => by simpa using h
  have hl' : ∀ {m n : Nat}, decide ((m : Int) ≤ (n : Int)) = false → n < m := fun h => by simpa using h
  refine fn_intro Tt_ok Tryd.func41 (by rfl) rfl _ rfl rfl (by rfl) ?_; (conv => whnf)
  refine loop_rule Tt_ok (fun (q : List Ev × List Ev) w' => Full lessB 20 q.1 ∧ (q.1 ++ q.2).Perm x ∧ q.1.length + q.2.length = n ∧ Own evC 8 34 base w' A c (q.1 ++ q.2) ∧ Mod (Blk A) w w')
    (fun | (z, _) => [(0, .slice A n c), (1, .int .i64 n), (2, cmpV), (6, .int .i64 20), (7, .int .i64 (z.length : Nat)), (8, .int .i64 ((z.length + 20 : Nat) : Int))]) (fun q => q.2.length) ([], x)
    ⟨Full.nil _, List.Perm.refl _, by simpa using hn, by simpa using hown, Mod.refl _ _⟩ ⟨rfl, rfl, rfl, rfl, rfl, rfl, trivial⟩ ?_
  rintro ⟨z, t⟩ w1 ⟨hf, hp, hlen, hown1, hm1⟩
  simp only at hp hlen hown1
  (conv => whnf)
  constructor
  · intro hle
    have hle := hl hle
    obtain ⟨r, t', ht, hr⟩ : ∃ r t', t = r ++ t' ∧ r.length = 20 := ⟨t.take 20, t.drop 20, by simp, by simp; omega⟩
    have hlt : t.length = r.length + t'.length := by rw [ht]; simp
    (conv => whnf)
    refine (insertion_spec z r t' z.length (z.length + 20) A c base w1 rfl (by omega) n (by omega) (by omega) (by rw [ht] at hown1; simpa using hown1)).mono ?_
    rintro _ w2 ⟨rfl, r', hrp, hrs, hown2, hm2⟩; (conv => whnf)
    have hrl := hrp.length_eq
    refine ⟨((z.length + 20 + 20 : Nat) : Int), wrap_nat (by omega), ?_⟩; (conv => whnf)
    refine ⟨(z ++ r', t'), by simp only; omega, ⟨hf.snoc (by omega) hrs, ?_, by simp only [List.length_append]; omega, hown2, hm1.trans hm2⟩, ⟨rfl, rfl, rfl, rfl, int_eq (by rw [List.length_append]; omega), int_eq (by rw [List.length_append]; omega), trivial⟩⟩
    refine List.Perm.trans ?_ hp
    rw [ht]
    simp only
    rw [List.append_assoc]
    exact List.Perm.append_left z (hrp.append_right t')
  intro hgt
  have hgt := hl' hgt
  (conv => whnf)
  refine (insertion_spec z t [] z.length n A c base w1 rfl (by omega) n (by simp; omega) (by omega) (by simpa using hown1)).mono ?_
  rintro _ w2 ⟨rfl, r', hrp, hrs, hown2, hm2⟩
  have hrl := hrp.length_eq
  have hruns : Runs lessB 20 (z ++ r') := hf.runs (.last _ (by omega) hrs)
  have hpm : (z ++ r').Perm x := (List.Perm.append_left z hrp).trans hp
  have hln : (z ++ r').length = n := by simp; omega
  have hown2' : Own evC 8 34 base w2 A c (z ++ r') := by simpa using hown2
  (conv => whnf)
  refine loop_rule Tt_ok (fun (q : Nat × List Ev) w' => 0 < q.1 ∧ q.1 < 2 * n + 40 ∧ Runs lessB q.1 q.2 ∧ q.2.Perm x ∧ q.2.length = n ∧ Own evC 8 34 base w' A c q.2 ∧ Mod (Blk A) w w')
    (fun | (bs, _) => [(0, .slice A n c), (1, .int .i64 n), (2, cmpV), (6, .int .i64 (bs : Nat))]) (fun q => n - q.1) (20, z ++ r')
    ⟨by simp, by simp only; omega, hruns, hpm, hln, hown2', hm1.trans hm2⟩ ⟨rfl, rfl, rfl, rfl, trivial⟩ ?_
  clear hruns hpm hln hown2' hown2 hrp hrs hrl hf hp hlen hown1 hgt
  rintro ⟨bs, d⟩ w3 ⟨hbs, hbs2, hruns, hpm, hln, hown3, hm3⟩
  simp only at hbs hbs2 hruns hpm hln hown3
  (conv => whnf)
  constructor
  · intro hlt
    have hlt := hd hlt
    (conv => whnf)
    refine ⟨((2 * bs : Nat) : Int), wrap_eq (by omega) ⟨by omega, by omega⟩, ?_⟩; (conv => whnf)
    refine loop_rule Tt_ok (fun (q : List Ev × List Ev) w' => Full lessB (2 * bs) q.1 ∧ Runs lessB bs q.2 ∧ (q.1 ++ q.2).Perm x ∧ q.1.length + q.2.length = n ∧ Own evC 8 34 base w' A c (q.1 ++ q.2) ∧ Mod (Blk A) w w')
      (fun | (z, _) => [(0, .slice A n c), (1, .int .i64 n), (2, cmpV), (6, .int .i64 (bs : Nat)), (7, .int .i64 (z.length : Nat)), (8, .int .i64 ((z.length + 2 * bs : Nat) : Int))]) (fun q => q.2.length) ([], d)
      ⟨Full.nil _, hruns, by simpa using hpm, by simpa using hln, by simpa using hown3, hm3⟩ ⟨rfl, rfl, rfl, rfl, rfl, int_eq (by simp), trivial⟩ ?_
    rintro ⟨z, t⟩ w4 ⟨hf, hrt, hp, hlen, hown4, hm4⟩
    simp only at hrt hp hlen hown4
    (conv => whnf)
    constructor
    · intro hle
      have hle := hl hle
      obtain ⟨r1, t1, ht1, hr1, hs1, hrt1⟩ := runs_cut hrt (by omega)
      have hlt1 : t.length = r1.length + t1.length := by rw [ht1]; simp
      obtain ⟨r2, t2, ht2, hr2, hs2, hrt2⟩ := runs_cut' hrt1 (by omega)
      have hlt2 : t1.length = r2.length + t2.length := by rw [ht2]; simp
      (conv => whnf)
      refine ⟨((z.length + bs : Nat) : Int), wrap_nat (by omega), ?_⟩; (conv => whnf)
      refine (symMerge_spec _ z r1 r2 t2 z.length (z.length + bs) (z.length + 2 * bs) A c base w4 (Nat.le_refl _) (by omega) (by omega) hs1 hs2 rfl (by omega) (by omega) n (by omega) (by omega) (by rw [ht1, ht2] at hown4; simpa using hown4)).mono ?_
      rintro _ w5 ⟨rfl, r', hrp, hrs, hown5, hm5⟩
      have hrl := hrp.length_eq
      simp only [List.length_append] at hrl
      (conv => whnf)
      refine ⟨((2 * bs : Nat) : Int), wrap_eq (by omega) ⟨by omega, by omega⟩, ?_⟩; (conv => whnf)
      refine ⟨((z.length + 2 * bs + 2 * bs : Nat) : Int), wrap_nat (by omega), ?_⟩; (conv => whnf)
      refine ⟨(z ++ r', t2), by simp only; omega, ⟨hf.snoc (by omega) hrs, hrt2, ?_, by simp only [List.length_append]; omega, hown5, hm4.trans hm5⟩, ⟨rfl, rfl, rfl, rfl, int_eq (by rw [List.length_append]; omega), int_eq (by rw [List.length_append]; omega), trivial⟩⟩
      refine List.Perm.trans ?_ hp
      rw [ht1, ht2]
      simp only
      rw [List.append_assoc, ← List.append_assoc r1]
      exact List.Perm.append_left z (hrp.append_right t2)
    intro hgt
    have hgt := hl' hgt
    (conv => whnf)
    refine seq_cut Tt_ok (ι := List Ev) (fun _ => [(0, .slice A n c), (1, .int .i64 n), (2, cmpV), (6, .int .i64 (bs : Nat))])
      (fun d' w' => Runs lessB (2 * bs) d' ∧ d'.Perm x ∧ d'.length = n ∧ Own evC 8 34 base w' A c d' ∧ Mod (Blk A) w w') ?_ ?_
    · (conv => whnf)
      refine ⟨((z.length + bs : Nat) : Int), wrap_nat (by omega), ?_⟩; (conv => whnf)
      constructor
      · intro hlt2
        have hlt2 := hd hlt2
        obtain ⟨r1, t1, ht1, hr1, hs1, hrt1⟩ := runs_cut hrt (by omega)
        have hlt1 : t.length = r1.length + t1.length := by rw [ht1]; simp
        have hs2 := runs_le hrt1 (by omega)
        (conv => whnf)
        refine (symMerge_spec _ z r1 t1 [] z.length (z.length + bs) n A c base w4 (Nat.le_refl _) (by omega) (by omega) hs1 hs2 rfl (by omega) (by omega) n (by simp; omega) (by omega) (by rw [ht1] at hown4; simpa using hown4)).mono ?_
        rintro _ w5 ⟨rfl, r', hrp, hrs, hown5, hm5⟩
        have hrl := hrp.length_eq
        simp only [List.length_append] at hrl
        (conv => whnf)
        refine ⟨z ++ r', ⟨hf.runs (.last _ (by omega) hrs), ?_, by simp; omega, by simpa using hown5, hm4.trans hm5⟩, ⟨rfl, rfl, rfl, rfl, trivial⟩⟩
        refine List.Perm.trans (List.Perm.append_left z hrp) ?_
        rw [← ht1]; exact hp
      · intro hge
        have hge := hd' hge
        (conv => whnf)
        exact ⟨z ++ t, ⟨hf.runs (.last _ (by omega) (runs_le hrt (by omega))), hp, by simp; omega, hown4, hm4⟩, ⟨rfl, rfl, rfl, rfl, trivial⟩⟩
    rintro d' w5 ⟨hr5, hp5, hl5, hown5, hm5⟩
    (conv => whnf)
    refine ⟨((2 * bs : Nat) : Int), wrap_eq (by omega) ⟨by omega, by omega⟩, ?_⟩; (conv => whnf)
    exact ⟨(2 * bs, d'), by simp only; omega, ⟨by simp only; omega, by simp only; omega, hr5, hp5, hl5, hown5, hm5⟩, ⟨rfl, rfl, rfl, rfl, trivial⟩⟩
  · intro hge
    have hge := hd' hge
    (conv => whnf)
    exact ⟨rfl, d, hpm, runs_le hruns (by omega), hown3, hm3⟩
theorem sortStable_spec (x : List Ev) (A : Option Addr) (c base : Nat) (w : World) (n : Nat) (hn : x.length = n) (hLs : n < 100000000000)
    (hown : Own evC 8 34 base w A c x) :
    Cal Tryd.prog 28 [.slice A n c, cmpV] w fun r w' => r = .tuple #[] ∧ ∃ z, z.Perm x ∧ Srt lessB z ∧ Own evC 8 34 base w' A c z ∧ Mod (Blk A) w w' := by
  refine fn_intro Tt_ok Tryd.func28 (by rfl) rfl _ rfl rfl (by rfl) ?_; (conv => whnf)
  refine (stable_spec x A c base w n hn hLs hown).mono ?_
  rintro _ w1 ⟨rfl, h⟩; (conv => whnf)
  exact ⟨rfl, h⟩
end Go.Proofs.YtbfjlpoeglcmfaaDoor
