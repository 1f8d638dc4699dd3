
/- Texts parted at a sign: the document's. -/
import Derived.Test.YtbfjlpoeglcmfaaDoorEv1
set_option linter.unusedVariables false
set_option linter.unusedSimpArgs false
namespace Go.Proofs.YtbfjlpoeglcmfaaDoor
open Go.Se Go.RowKit

def strE (s : ByteArray) : List Value := [.string s]
theorem strE_len (s : ByteArray) : (strE s).length = 1 := rfl
theorem strE_one (s : ByteArray) : ∀ u ∈ strE s, u.oneCell' = true := by simp [strE, Value.oneCell']
abbrev SlT := Sl strE 1
theorem und54 : Tryd.prog.underlying 54 = some (.slice 9) := by kernel_rfl

/-- A list, parted at a sign. -/
def partsOf (c : UInt8) : List UInt8 → List (List UInt8)
  | [] => [[]]
  | x :: r => if x = c then [] :: partsOf c r else match partsOf c r with
    | [] => [[x]]
    | p :: ps => (x :: p) :: ps
theorem parts_none {c : UInt8} : ∀ {a : List UInt8}, (∀ x ∈ a, x ≠ c) → partsOf c a = [a]
  | [], _ => rfl
  | x :: a, h => by
    have := parts_none (c := c) (a := a) fun y hy => h y (by simp [hy])
    simp [partsOf, h x (by simp), this]
theorem parts_sign {c : UInt8} : ∀ {a : List UInt8} {r : List UInt8}, (∀ x ∈ a, x ≠ c) → partsOf c (a ++ c :: r) = a :: partsOf c r
  | [], r, _ => by simp [partsOf]
  | x :: a, r, h => by
    have := parts_sign (c := c) (a := a) (r := r) fun y hy => h y (by simp [hy])
    simp [partsOf, h x (by simp), this]
theorem parts_ne (c : UInt8) : ∀ l : List UInt8, partsOf c l ≠ []
  | [] => by simp [partsOf]
  | x :: r => by
    unfold partsOf
    split
    · simp
    · split <;> simp
theorem parts_len (c : UInt8) : ∀ l : List UInt8, (partsOf c l).length ≤ l.length + 1
  | [] => by simp [partsOf]
  | x :: r => by
    have := parts_len c r
    unfold partsOf
    split
    · simp; omega
    · split
      · simp
      · rename_i p ps hp
        rw [hp] at this
        simp at this ⊢; omega
theorem parts_mem_len (c : UInt8) : ∀ (l : List UInt8), ∀ p ∈ partsOf c l, p.length ≤ l.length
  | [], p, h => by simp [partsOf] at h; simp [h]
  | x :: r, p, h => by
    have ih := parts_mem_len c r
    unfold partsOf at h
    split at h
    · rcases List.mem_cons.1 h with rfl | h
      · simp
      · have := ih p h; simp; omega
    · split at h
      · simp at h; simp [h]
      · rename_i q ps hp
        rw [hp] at ih
        rcases List.mem_cons.1 h with rfl | h
        · have := ih q (by simp); simp; omega
        · have := ih p (by simp [h]); simp; omega

def bytesOf (l : List UInt8) : ByteArray := ⟨l.toArray⟩
theorem bytesOf_list (s : ByteArray) : bytesOf s.data.toList = s := rfl
theorem bytesOf_inj {a b : List UInt8} (h : bytesOf a = bytesOf b) : a = b := by
  have : (bytesOf a).data.toList = (bytesOf b).data.toList := by rw [h]
  simpa [bytesOf] using this
def partsB (c : UInt8) (s : ByteArray) : List ByteArray := (partsOf c s.data.toList).map bytesOf
theorem extract_list (s : ByteArray) (i j : Nat) : (s.extract i j).data.toList = (s.data.toList.drop i).take (j - i) := by
  rw [ByteArray.data_extract, Array.toList_extract]
theorem extract_bytes (s : ByteArray) (i j : Nat) : s.extract i j = bytesOf ((s.data.toList.drop i).take (j - i)) := by
  rw [← extract_list]; rfl

theorem parts_spec (s : ByteArray) (c : UInt8) (w : World) (hs : s.size < 1000000000000) :
    Cal Tryd.prog 42 [.string s, .int .u8 c.toNat] w fun r w' => ∃ A' c', r = .slice A' (partsB c s).length c' ∧ SlT w' A' (partsB c s) ∧ Ext w w' := by
  refine fn_intro Tt_ok Tryd.func42 (by rfl) rfl _ rfl rfl (by rfl) ?_; (conv => whnf)
  intro b w0 hnew
  (conv => whnf)
  refine loop_rule Tt_ok (fun (i : Nat × Nat × List ByteArray × Option Addr × Nat) w' => Ext w w' ∧ Own strE 1 9 w.heap.size w' i.2.2.2.1 i.2.2.2.2 i.2.2.1 ∧ i.2.2.1.length ≤ i.1 ∧
      (i.1 ≤ s.size ∧ i.2.1 ≤ i.1 ∧ partsB c s = i.2.2.1 ++ (partsOf c (s.data.toList.drop i.2.1)).map bytesOf ∧ (∀ x ∈ (s.data.toList.drop i.2.1).take (i.1 - i.2.1), x ≠ c) ∨
       i.1 = s.size + 1 ∧ i.2.2.1 = partsB c s))
    (fun i => [(0, .string s), (1, .int .u8 c.toNat), (7, .int .i64 i.1), (6, .int .i64 i.2.1), (5, .slice i.2.2.2.1 i.2.2.1.length i.2.2.2.2)]) (fun i => s.size + 1 - i.1) (0, 0, [], some ⟨b, 0, none⟩, 0)
    ⟨hnew.ext, Own.made hnew (Nat.le_refl _), by simp, .inl ⟨by omega, by simp, by simp [partsB], by simp⟩⟩ ⟨rfl, rfl, rfl, rfl, rfl, trivial⟩ ?_
  rintro ⟨i, f, out, A', c'⟩ w1 ⟨hx, hown, hol, hI⟩
  simp only at hI hown hol
  (conv => whnf)
  constructor
  · intro hlt
    have hlt : i ≤ s.size := by simpa using hlt
    rcases hI with ⟨_, hf, hp, hno⟩ | ⟨h1, _⟩
    rotate_left
    · omega
    (conv => whnf)
    repeat (refine seq_go Tt_ok ?_; (conv => whnf))
    refine ⟨s.data.toList.getD i 0, fun hg => ⟨by omega, ?_⟩, ?_⟩
    · have : i < s.size := by simp at hg; omega
      show s[i]? = _
      rw [bytes_at s i this, List.getD_eq_getElem?_getD, List.getElem?_eq_getElem (by simpa using this)]; rfl
    (conv => whnf)
    have hlen : s.data.toList.length = s.size := by simp
    constructor
    · intro hc
      (conv => whnf)
      refine ⟨⟨by simp, by simp; omega⟩, ?_⟩; (conv => whnf)
      intro b2 w2 hn2
      (conv => whnf)
      refine append_own (l := out) (news := [s.extract f i]) (bytes := 16) (ety := ty9) ty9_ok und54 by9 rfl rfl (by decide) strE_len strE_one (hown.ext hn2.ext) (sl_new strE_len hn2) ?_ ?_ ?_ ?_
      · simp; omega
      · simp; omega
      · exact (hx.trans hn2.ext).size
      · intro A6 c6 w6 hown6 hgr hA6
        (conv => whnf)
        refine ⟨((i + 1 : Nat) : Int), wrap_succ (by omega), ?_⟩; (conv => whnf)
        refine ⟨((i + 1 : Nat) : Int), wrap_succ (by omega), ?_⟩; (conv => whnf)
        refine ⟨(i + 1, i + 1, out ++ [s.extract f i], A6, c6), by simp; omega, ⟨?_, hown6, by simp; omega, ?_⟩, ⟨rfl, rfl, rfl, rfl, rfl, trivial⟩⟩
        · refine ext_grown (hx.trans hn2.ext) hgr fun g hg => ?_
          cases A' with
          | none => simp at hg
          | some a' =>
            have := hown.block (a := a') rfl
            simp at hg
            omega
        · simp only
          by_cases e : i = s.size
          · right
            refine ⟨by omega, ?_⟩
            rw [List.take_of_length_le (by simp; omega)] at hno
            rw [hp, parts_none hno, extract_bytes, List.take_of_length_le (by simp; omega)]
            rfl
          · left
            have hi : i < s.data.toList.length := by omega
            have hsi : s.data.toList[i] = c := by
              have : (decide ((i : Int) = (s.size : Int)) || decide ((((s.data.toList.getD i 0).toNat : Nat) : Int) = (c.toNat : Int))) = true := hc
              simp only [Bool.or_eq_true, decide_eq_true_eq] at this
              rcases this with h | h
              · omega
              · rw [List.getD_eq_getElem?_getD, List.getElem?_eq_getElem hi] at h
                exact UInt8.toNat_inj.1 (Int.ofNat_inj.1 h)
            have hsplit : s.data.toList.drop f = (s.data.toList.drop f).take (i - f) ++ c :: s.data.toList.drop (i + 1) := by
              conv => lhs; rw [← List.take_append_drop (i - f) (s.data.toList.drop f)]
              rw [List.drop_drop, show f + (i - f) = i by omega, List.drop_eq_getElem_cons hi, hsi]
            refine ⟨by omega, Nat.le_refl _, ?_, by simp⟩
            rw [hp, hsplit, parts_sign hno, extract_bytes]
            simp
    · intro hc
      have hc : (decide ((i : Int) = (s.size : Int)) || decide ((((s.data.toList.getD i 0).toNat : Nat) : Int) = (c.toNat : Int))) = false := hc
      simp only [Bool.or_eq_false_iff, decide_eq_false_iff_not] at hc
      obtain ⟨hc1, hc2⟩ := hc
      have hi : i < s.data.toList.length := by omega
      (conv => whnf)
      refine ⟨((i + 1 : Nat) : Int), wrap_succ (by omega), ?_⟩; (conv => whnf)
      refine ⟨(i + 1, f, out, A', c'), by simp; omega, ⟨hx, hown, by simp; omega, .inl ⟨by simp; omega, by simp; omega, hp, ?_⟩⟩, ⟨rfl, rfl, rfl, rfl, rfl, trivial⟩⟩
      intro x hxm
      simp only at hxm
      rw [show i + 1 - f = (i - f) + 1 by omega, List.take_succ_eq_append_getElem (by simp; omega)] at hxm
      rcases List.mem_append.1 hxm with h | h
      · exact hno x h
      · simp only [List.getElem_drop, List.mem_singleton, show f + (i - f) = i by omega] at h
        subst h
        intro e
        apply hc2
        rw [List.getD_eq_getElem?_getD, List.getElem?_eq_getElem hi]
        simp [e]
  · intro hge
    have hge : ¬ i ≤ s.size := by simpa using hge
    rcases hI with ⟨h1, _⟩ | ⟨_, h2⟩
    · omega
    (conv => whnf)
    exact ⟨A', c', by rw [h2], h2 ▸ hown.sl strE_len, hx⟩

/-- What is behind the first ';', parted at the commas. -/
def tagsOf (s : ByteArray) : List ByteArray := match placeN s with
  | some i => if i + 1 = s.size then [] else partsB 44 (s.extract (i + 1) s.size)
  | none => []
theorem tagsOf_last {s : ByteArray} {i : Nat} (hp : placeN s = some i) (h : i + 1 = s.size) : tagsOf s = [] := by
  unfold tagsOf; rw [hp]; simp [h]
theorem tagsOf_some {s : ByteArray} {i : Nat} (hp : placeN s = some i) (h : ¬ i + 1 = s.size) : tagsOf s = partsB 44 (s.extract (i + 1) s.size) := by
  unfold tagsOf; rw [hp]; simp [h]
theorem tagsOf_none {s : ByteArray} (hp : placeN s = none) : tagsOf s = [] := by
  unfold tagsOf; rw [hp]
theorem placeI_some {s : ByteArray} {i : Nat} (hp : placeN s = some i) : placeI s = i := by unfold placeI; rw [hp]
theorem placeI_none {s : ByteArray} (hp : placeN s = none) : placeI s = -1 := by unfold placeI; rw [hp]
theorem rtags_spec (s : ByteArray) (w : World) (hs : s.size < 1000000000000) :
    Cal Tryd.prog 33 [.string s] w fun r w' => ∃ A' c', r = .slice A' (tagsOf s).length c' ∧ SlT w' A' (tagsOf s) ∧ Ext w w' := by
  refine fn_intro Tt_ok Tryd.func33 (by rfl) rfl _ rfl rfl (by rfl) ?_; (conv => whnf)
  refine (place_spec s w (by omega)).mono ?_
  rintro r w1 ⟨rfl, rfl⟩
  cases hp : placeN s with
  | none =>
    rw [placeI_none hp, tagsOf_none hp]
    (conv => whnf)
    refine ⟨((s.size : Nat) : Int) - 1, fun _ => wrap_i64 ⟨by omega, by omega⟩, ?_⟩; (conv => whnf)
    refine ⟨fun _ => ?_, fun h => by simp at h⟩
    (conv => whnf)
    intro b w0 hnew
    (conv => whnf)
    exact ⟨_, _, rfl, Sl.nil, hnew.ext⟩
  | some i =>
    rw [placeI_some hp]
    have := placeN_lt hp
    (conv => whnf)
    refine ⟨((s.size : Nat) : Int) - 1, fun _ => wrap_i64 ⟨by omega, by omega⟩, ?_⟩; (conv => whnf)
    refine ⟨fun h => ?_, fun h => ?_⟩
    · have h : i + 1 = s.size := by simp at h; omega
      (conv => whnf)
      intro b w0 hnew
      (conv => whnf)
      rw [tagsOf_last hp h]
      exact ⟨_, _, rfl, Sl.nil, hnew.ext⟩
    · have h : ¬ i + 1 = s.size := by simp at h; omega
      (conv => whnf)
      refine ⟨((i + 1 : Nat) : Int), wrap_succ (by omega), ?_⟩; (conv => whnf)
      refine ⟨⟨by simp; omega, by simp; omega⟩, ?_⟩; (conv => whnf)
      refine (parts_spec (s.extract (i + 1) s.size) 44 w1 (by simp; omega)).mono ?_
      rintro r w2 ⟨A', c', rfl, h1, h2⟩
      (conv => whnf)
      rw [tagsOf_some hp h]
      exact ⟨_, _, rfl, h1, h2⟩
end Go.Proofs.YtbfjlpoeglcmfaaDoor
