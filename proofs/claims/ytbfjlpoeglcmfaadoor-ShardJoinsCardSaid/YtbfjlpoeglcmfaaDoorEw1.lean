
/- What the package variables hold; strings.Cut at ';', strings.Split at ','; event.Name, Tags. -/
import Derived.Test.YtbfjlpoeglcmfaaDoorSo6
import Derived.Lib.IndexBytes
import Derived.Lib.SplitLaws
import Derived.Lib.CountLaws
set_option linter.unusedVariables false
set_option linter.unusedSimpArgs false
namespace Go.Proofs.YtbfjlpoeglcmfaaDoor
open Go.Se Go.RowKit

/-- What is read of the package variables. -/
structure Gl (w : World) : Prop where
  maxLen : ∃ m, w.cell? ⟨1, 0, none⟩ = some (.int .i64 m)
  pow10 : Lib.TabIs Tryd.prog w "internal/strconv.uint64pow10" .u64 Lib.pow10Tab
  kinds : CellsAt w ⟨0, 0, none⟩ (kindNames.map Value.string)
  size : 10 ≤ w.heap.size
theorem gnum : Tryd.prog.globalNamed "internal/strconv.uint64pow10" = some 2 := by kernel_rfl
theorem Gl.keep {w w' : World} (h : Gl w) (hk : ∀ k, k < 10 → w'.heap[k]? = w.heap[k]?) (hs : w.heap.size ≤ w'.heap.size) : Gl w' where
  maxLen := by obtain ⟨m, hm⟩ := h.maxLen; exact ⟨m, by rw [World.cell?_of_block (w := w) (hk _ (by decide))]; exact hm⟩
  pow10 := by
    have := h.pow10
    unfold Lib.TabIs World.var? at this ⊢
    rw [gnum] at this ⊢
    simp only [Option.bind_some] at this ⊢
    rw [hk _ (by decide)]; exact this
  kinds := fun j v hj => by
    rw [World.cell?_of_block (w := w) (hk _ (by rw [add_block]; decide))]; exact h.kinds j v hj
  size := Nat.le_trans h.size hs
theorem Gl.ext {w w' : World} (h : Gl w) (hx : Ext w w') : Gl w' := h.keep (fun k hk => hx.block k (Nat.lt_of_lt_of_le hk h.size)) hx.size
theorem Gl.mod {w w' : World} {S : Nat → Prop} (h : Gl w) (hx : Mod S w w') (hs : ∀ k, S k → 10 ≤ k) : Gl w' :=
  h.keep (fun k hk => hx.block k (Nat.lt_of_lt_of_le hk h.size) (fun q => by have := hs k q; omega)) hx.size
theorem Gl.only {w w' : World} {b : Nat} (h : Gl w) (hx : Only w w' b) (hb : 10 ≤ b) : Gl w' := h.keep (fun k hk => hx.block k (by omega)) (by rw [hx.size]; exact Nat.le_refl _)

theorem ext_drewN (w : World) (n : Nat) : Ext w (w.drewN n) := ⟨rfl, rfl, rfl, Nat.le_refl _, fun _ _ => rfl⟩
theorem ext_grow (w : World) (os : Array Obj) : Ext w (Go.Sort.grow w os) := by
  refine ⟨rfl, rfl, rfl, by simp [Go.Sort.grow], fun k hk => ?_⟩
  simp only [Go.Sort.grow]
  rw [Array.getElem?_append_left hk]

theorem ib_find (c : UInt8) : ∀ l : List UInt8, Lib.indexByte l c = match l.findIdx? (· == c) with | some i => (i : Int) | none => -1
  | [] => rfl
  | b :: l => by
    unfold Lib.indexByte
    rw [ib_find c l, List.findIdx?_cons]
    cases hb : (b == c) with
    | true => simp
    | false =>
      simp only [Bool.false_eq_true, if_false]
      cases l.findIdx? (· == c) with
      | none => simp
      | some i => simp
theorem index59 (s : ByteArray) : Lib.index s.data.toList [59] = placeI s := by
  rw [Lib.index_one, ib_find]; rfl
def restOf (s : ByteArray) : ByteArray := match placeN s with | some i => s.extract (i + 1) s.size | none => ⟨#[]⟩
theorem ok_cut : FnOk Tryd.prog 57 := ⟨_, Tryd.func57, rfl, rfl⟩
theorem cut_spec (s : ByteArray) (w : World) (hg : Gl w) (hs : s.size < 4000000000) :
    Cal Tryd.prog 57 [.string s, .string ⟨#[59]⟩] w fun r w' => r = .tuple #[.string (makerOf s), .string (restOf s), .bool (placeN s).isSome] ∧ Ext w w' := by
  obtain ⟨m, hm⟩ := hg.maxLen
  refine cal_of ok_cut (Tryd.strings_Cut s ⟨#[59]⟩ m w (by omega) hm) ?_
  rintro w' ⟨n, rfl⟩
  refine ⟨?_, ext_drewN w n⟩
  have h1 : Lib.cut s.data.toList [59] = ((makerOf s).data.toList, (restOf s).data.toList, (placeN s).isSome) := by
    unfold Lib.cut
    rw [index59]
    unfold placeI makerOf restOf
    cases hp : placeN s with
    | none => simp
    | some i =>
      have := placeN_lt hp
      simp only [Int.natCast_nonneg, if_true, Int.toNat_natCast, Option.isSome_some, extract_list]
      have hl : s.data.toList.length = s.size := by simp
      simp only [List.drop_zero, Nat.sub_zero, List.length_cons, List.length_nil, Nat.zero_add]
      rw [List.take_of_length_le (l := s.data.toList.drop (i + 1)) (by simp)]
  show Value.tuple #[.string ⟨(Lib.cut s.data.toList [59]).1.toArray⟩, .string ⟨(Lib.cut s.data.toList [59]).2.1.toArray⟩, .bool (Lib.cut s.data.toList [59]).2.2] = _
  rw [h1]
theorem parts_hit {c : UInt8} : ∀ {a b : List UInt8}, (∀ x ∈ a, x ≠ c) → partsOf c (a ++ c :: b) = a :: partsOf c b
  | [], b, _ => by simp [partsOf]
  | x :: a, b, h => by
    simp only [List.cons_append, partsOf]
    rw [if_neg (h x (by simp)), parts_hit (a := a) (fun y hy => h y (by simp [hy]))]
theorem split_parts : ∀ (n : Nat) (s : ByteArray), s.size ≤ n → Lib.splitB ⟨#[44]⟩ 0 (Lib.countB s ⟨#[44]⟩) s = partsB 44 s := by
  intro n
  induction n with
  | zero =>
    intro s hs
    have : s.data.toList = [] := List.length_eq_zero_iff.1 (by simpa using hs)
    have hi : Lib.indexB s ⟨#[44]⟩ = -1 := by
      show Lib.index s.data.toList [44] = -1
      rw [this]; rfl
    rw [Lib.splitB_miss _ _ _ _ hi]
    unfold partsB
    rw [this]
    simp [partsOf, bytesOf]
    apply ByteArray.ext
    apply Array.ext'
    simpa using this
  | succ n ih =>
    intro s hs
    have hix : Lib.indexB s ⟨#[44]⟩ = match s.data.toList.findIdx? (· == 44) with | some i => (i : Int) | none => -1 := by
      show Lib.index s.data.toList [44] = _
      rw [Lib.index_one, ib_find]
    cases hf : s.data.toList.findIdx? (· == 44) with
    | none =>
      rw [hf] at hix
      rw [Lib.splitB_miss _ _ _ _ hix]
      unfold partsB
      rw [parts_none (fun x hx => by rw [List.findIdx?_eq_none_iff] at hf; have := hf x hx; simpa using this)]
      rfl
    | some i =>
      rw [hf] at hix
      simp only at hix
      rw [List.findIdx?_eq_some_iff_getElem] at hf
      obtain ⟨hi, hc, hall⟩ := hf
      have hi' : i < s.size := by simpa using hi
      have hsz1 : (⟨#[44]⟩ : ByteArray).size = 1 := rfl
      rw [Lib.countB_hit s _ i (by decide) hix, Nat.add_comm, Lib.splitB_hit _ _ _ _ _ hix, hsz1, ih _ (by rw [ByteArray.size_extract]; omega)]
      have hdec : s.data.toList = s.data.toList.take i ++ 44 :: s.data.toList.drop (i + 1) := by
        have h44 : s.data.toList[i] = 44 := by simpa using hc
        rw [← h44]
        exact take_drop_at hi
      unfold partsB
      conv => rhs; rw [hdec]
      rw [parts_hit (fun x hx => by
        obtain ⟨j, hj, rfl⟩ := List.getElem_of_mem hx
        simp at hj
        have := hall j (by omega)
        simpa using this)]
      rw [List.map_cons]
      congr 1
      · rw [extract_bytes]; simp
      · rw [extract_list]
        rw [List.take_of_length_le (by simp)]
theorem flat_str (l : List ByteArray) : l.flatMap strE = l.map Value.string := by
  induction l with
  | nil => rfl
  | cons x l ih => rw [List.flatMap_cons, ih]; rfl
theorem ok_split : FnOk Tryd.prog 64 := ⟨_, Tryd.func64, rfl, rfl⟩
theorem split_spec (s : ByteArray) (w : World) (hg : Gl w) (hs : s.size < 4000000000) :
    Cal Tryd.prog 64 [.string s, .string ⟨#[44]⟩] w fun r w' => ∃ A c, r = .slice A (partsB 44 s).length c ∧ SlT w' A (partsB 44 s) ∧ Ext w w' := by
  obtain ⟨m, hm⟩ := hg.maxLen
  refine cal_of ok_split (Tryd.strings_Split s ⟨#[44]⟩ m w (by omega) hm (by decide)) ?_
  rintro w' rfl
  have hlen := Lib.splitB_all ⟨#[44]⟩ (by decide) 0 _ s rfl
  have hsp := split_parts s.size s (Nat.le_refl _)
  rw [hsp] at hlen
  have hn : New w (w.alloc (.cells ((partsB 44 s).flatMap strE).toArray 9)) w.heap.size (.cells ((partsB 44 s).flatMap strE).toArray 9) := ⟨rfl, rfl⟩
  refine ⟨some ⟨w.heap.size, 0, none⟩, Lib.countB s ⟨#[44]⟩ + 1, by rw [hlen], ?_, ?_⟩
  · rw [hsp, ← flat_str]; exact sl_new strE_len hn
  · rw [hsp, ← flat_str]; exact hn.ext

theorem rest_tags (s : ByteArray) : tagsOf s = if restOf s = ⟨#[]⟩ then [] else partsB 44 (restOf s) := by
  unfold tagsOf restOf
  cases hp : placeN s with
  | none => simp
  | some i =>
    have := placeN_lt hp
    simp only
    by_cases h : i + 1 = s.size
    · have : s.extract (i + 1) s.size = ⟨#[]⟩ := by
        rw [extract_bytes, h]; simp [bytesOf]
      rw [if_pos h, if_pos this]
    · have : s.extract (i + 1) s.size ≠ ⟨#[]⟩ := fun e => by
        have := congrArg ByteArray.size e
        rw [ByteArray.size_extract] at this
        have h0 : (⟨#[]⟩ : ByteArray).size = 0 := rfl
        omega
      rw [if_neg h, if_neg this]
theorem etags_spec (s : ByteArray) (w : World) (hg : Gl w) (hs : s.size < 4000000000) :
    Cal Tryd.prog 58 [.string s] w fun r w' => ∃ A c, r = .slice A (tagsOf s).length c ∧ SlT w' A (tagsOf s) ∧ Ext w w' := by
  have hrs : (restOf s).size ≤ s.size := by
    unfold restOf
    split
    · rw [ByteArray.size_extract]; omega
    · exact Nat.zero_le _
  refine fn_intro Tt_ok Tryd.func58 (by rfl) rfl _ rfl rfl (by rfl) ?_; (conv => whnf)
  refine (cut_spec s w hg hs).mono ?_
  rintro _ w1 ⟨rfl, hx1⟩; (conv => whnf)
  constructor
  · intro h
    have h : restOf s = ⟨#[]⟩ := by simpa using h
    (conv => whnf)
    have ht : tagsOf s = [] := by rw [rest_tags, if_pos h]
    exact ⟨none, 0, by rw [ht]; rfl, by rw [ht]; exact Sl.nil, hx1⟩
  · intro h
    have h : ¬ restOf s = ⟨#[]⟩ := by simpa using h
    (conv => whnf)
    refine (split_spec (restOf s) w1 (hg.ext hx1) (by omega)).mono ?_
    rintro _ w2 ⟨A, c, rfl, hsl, hx2⟩; (conv => whnf)
    have ht : tagsOf s = partsB 44 (restOf s) := by rw [rest_tags, if_neg h]
    exact ⟨A, c, by rw [ht], by rw [ht]; exact hsl, hx1.trans hx2⟩

theorem ename_spec (s : ByteArray) (w : World) : Cal Tryd.prog 48 [.string s] w fun r w' => r = .bool (isName s) ∧ w' = w := by
  refine fn_intro Tt_ok Tryd.func48 (by rfl) rfl _ rfl rfl (by rfl) ?_; (conv => whnf)
  constructor
  · intro h
    have h : (decide ((s.size : Int) < 1) || decide ((24 : Int) < s.size)) = true := h
    (conv => whnf)
    refine ⟨?_, rfl⟩
    have : isName s = false := by
      unfold isName
      simp only [Bool.or_eq_true, decide_eq_true_eq] at h
      rcases h with h | h
      · have : decide (1 ≤ s.size) = false := decide_eq_false (by omega)
        rw [this]; rfl
      · have : decide (s.size ≤ 24) = false := decide_eq_false (by omega)
        rw [this]; simp
    rw [this]
  · intro h
    have h : (decide ((s.size : Int) < 1) || decide ((24 : Int) < s.size)) = false := h
    simp only [Bool.or_eq_false_iff, decide_eq_false_iff_not] at h
    (conv => whnf)
    have hlen : s.data.toList.length = s.size := by simp
    refine loop_rule Tt_ok (fun (k : Nat) w' => k ≤ s.size ∧ w' = w ∧ ∀ i (hi : i < s.data.toList.length), i < k → nameCh s.data.toList[i] = true)
      (fun k => [(0, .string s), (14, .int .i64 s.size), (15, .int .i64 k)]) (fun k => s.size - k) 0 ⟨by omega, rfl, fun i _ h => by omega⟩ ⟨rfl, rfl, rfl, trivial⟩ ?_
    rintro k w1 ⟨hk, rfl, hall⟩
    (conv => whnf)
    constructor
    · intro hlt
      have hlt : k < s.size := by simpa using hlt
      (conv => whnf)
      refine ⟨s.data.toList[k]'(by omega), ⟨by omega, bytes_at s k hlt⟩, ?_⟩; (conv => whnf)
      have hch : ∀ c : UInt8, (((decide ((97 : Int) ≤ c.toNat) && decide ((c.toNat : Int) ≤ 122)) || (decide ((48 : Int) ≤ c.toNat) && decide ((c.toNat : Int) ≤ 57))) || decide ((c.toNat : Int) = 45)) = nameCh c := fun c => rfl
      constructor
      · intro hb
        have hb : nameCh (s.data.toList[k]'(by omega)) = false := by
          rw [← hch]; simpa only [Bool.not_eq_true'] using hb
        (conv => whnf)
        refine ⟨?_, rfl⟩
        have : isName s = false := by
          unfold isName
          have : s.data.toList.all nameCh = false := all_not (by omega) hb
          rw [this]; simp
        rw [this]
      · intro hb
        have hb : nameCh (s.data.toList[k]'(by omega)) = true := by
          rw [← hch]; simpa only [Bool.not_eq_false'] using hb
        (conv => whnf)
        refine ⟨((k + 1 : Nat) : Int), wrap_succ (by omega), ?_⟩; (conv => whnf)
        refine ⟨k + 1, by omega, ⟨by omega, rfl, fun i hi hik => ?_⟩, ⟨rfl, rfl, rfl, trivial⟩⟩
        by_cases e : i = k
        · subst e; exact hb
        · exact hall i hi (by omega)
    · intro hge
      have hge : s.size ≤ k := by simpa using hge
      (conv => whnf)
      refine ⟨?_, rfl⟩
      have : isName s = true := by
        unfold isName
        have h3 : s.data.toList.all nameCh = true := all_take hall (by omega)
        rw [h3]
        simp
        omega
      rw [this]
end Go.Proofs.YtbfjlpoeglcmfaaDoor
