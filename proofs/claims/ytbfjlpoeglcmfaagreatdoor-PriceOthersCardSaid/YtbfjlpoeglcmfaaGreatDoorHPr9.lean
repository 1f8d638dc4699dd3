import Derived.Test.YtbfjlpoeglcmfaaGreatDoorHPr8

/- The laws PriceThen, PriceLeast, PriceTicks. -/
set_option linter.unusedVariables false
set_option linter.unusedSimpArgs false
namespace Go.Proofs.YtbfjlpoeglcmfaaGreatDoor
open Go.Se Go.RowKit

theorem priceThen_spec (c : Cfg) (l : List Ev) (person item : ByteArray) (now : Int) (A : Option Addr) (cap : Nat) (w : World) (hg0 : Gl w) (hs : SlE w A l) :
    Cal Tryz.prog 9 [cfgV c, .slice A l.length cap, .string person, .string item, .int .i64 now] w fun r w' => r = .bool true ∧ Ext w w' := by
  refine fn_intro Tt_ok Tryz.func9 (by rfl) rfl _ rfl rfl (by rfl) ?_; (conv => whnf)
  intro b1 w1 hn1; (conv => whnf)
  refine (plives_spec w1 (hg0.ext hn1.ext)).mono ?_
  rintro _ w3 ⟨rfl, hx3⟩; (conv => whnf)
  refine ⟨fun h => (by simp at h), fun _ => ?_⟩
  (conv => whnf)
  have hc1 : At w3 b1 _ (cfgC c) := hn1.At.ext hx3
  have hx := hn1.ext.trans hx3
  clear hn1 hx3
  refine ⟨cfgC c, ⟨rfl, hc1.all⟩, ?_⟩; (conv => whnf)
  refine (pmade_spec c l A cap w3 (hg0.ext hx) (hs.ext hx)).mono ?_
  rintro r w4 ⟨hx4, hr⟩
  replace hx := hx.trans hx4
  clear hc1 hx4
  rcases hr with ⟨_, rfl⟩ | ⟨hok, p, base, A', c', rfl, hW, hs4, hz, _⟩
  · (conv => whnf)
    refine ⟨_, eqRun_ptr_nil undWp _ _ _, ?_⟩; (conv => whnf)
    refine ⟨fun _ => ?_, fun h => (by simp at h)⟩
    (conv => whnf)
    exact ⟨rfl, hx⟩
  (conv => whnf)
  refine ⟨_, eqRun_ptr_nil undWp _ _ _, ?_⟩; (conv => whnf)
  refine ⟨fun _ => ?_, fun _ => ?_⟩
  · (conv => whnf)
    exact ⟨rfl, hx⟩
  generalize anewL l = z at hW hs4 hz
  (conv => whnf)
  refine (pthen_spec hW person item now).mono ?_
  rintro _ w5 ⟨rfl, hx5⟩
  (conv => whnf)
  refine (r39Then_spec hz person item now A' c' w5 (hs4.ext hx5)).mono ?_
  rintro _ w6 ⟨rfl, hx6⟩
  generalize thenAt z person item now = o
  (conv => whnf)
  refine ⟨_, fun _ => eqRun_bool und4 _ _ _ _, ?_⟩; (conv => whnf)
  exact ⟨by simp, (hx.trans hx5).trans hx6⟩
theorem stAll_price (name : ByteArray) : ∀ es : List Ev, (∀ e ∈ es, mayB e = true) → 0 ≤ (stAll name es).item.price ∧ (stAll name es).item.price ≤ 1048576 := by
  refine snoc_ind ?_ ?_
  · intro _
    show (0 : Int) ≤ 0 ∧ (0 : Int) ≤ 1048576
    decide
  · intro l a ih h
    have ih := ih fun e he => h e (by simp [he])
    rw [stAll_snoc]
    unfold stStep
    have hk := kind_cases (may_iff.1 (h a (by simp))).kind
    split
    · show 0 ≤ a.val ∧ a.val ≤ 1048576
      omega
    · split
      · exact ih
      · exact ih
theorem price_bound {z : List Ev} (hr : Rise z) (hm : ∀ e ∈ z, mayB e = true) {item : ByteArray} {t n : Int} (h : priceAt z item t = some n) : 0 ≤ n ∧ n ≤ 1048576 := by
  rw [price_def hr] at h
  have hb := stAll_price item ((thingsE z).filter (thQ item t)) fun e he => hm e (List.mem_filter.1 (List.mem_filter.1 he).1).1
  have hi : 0 ≤ (itOf item ((thingsE z).filter (thQ item t))).price ∧ (itOf item ((thingsE z).filter (thQ item t))).price ≤ 1048576 := by
    unfold itOf
    split
    · show (0 : Int) ≤ 0 ∧ (0 : Int) ≤ 1048576
      decide
    · exact hb
  generalize itOf item ((thingsE z).filter (thQ item t)) = i at h hi
  cases hl : i.listed with
  | false => rw [hl] at h; simp at h
  | true => rw [hl] at h; simp at h; omega
theorem least_bound {z : List Ev} (hr : Rise z) (hm : ∀ e ∈ z, mayB e = true) {item : ByteArray} {a b n : Int} (h : LeastIs (priceAt z item) a b (some n)) : 0 ≤ n ∧ n ≤ 1048576 := by
  obtain ⟨⟨t, _, _, h⟩, _⟩ := h
  exact price_bound hr hm h
theorem optV_inj {o p : Option Int} (h : o = p) : o.getD 0 = p.getD 0 ∧ o.isSome = p.isSome := by subst h; exact ⟨rfl, rfl⟩
theorem priceLeast_spec (c : Cfg) (l : List Ev) (item : ByteArray) (a m b : Int) (A : Option Addr) (cap : Nat) (w : World) (hg0 : Gl w) (hs : SlE w A l) (hm1 : i64ok' m) :
    Cal Tryz.prog 11 [cfgV c, .slice A l.length cap, .string item, .int .i64 a, .int .i64 m, .int .i64 b] w fun r w' => r = .bool true ∧ Ext w w' := by
  refine fn_intro Tt_ok Tryz.func11 (by rfl) rfl _ rfl rfl (by rfl) ?_; (conv => whnf)
  intro b1 w1 hn1; (conv => whnf)
  refine (plives_spec w1 (hg0.ext hn1.ext)).mono ?_
  rintro _ w3 ⟨rfl, hx3⟩; (conv => whnf)
  refine ⟨fun h => (by simp at h), fun _ => ?_⟩
  (conv => whnf)
  have hc1 : At w3 b1 _ (cfgC c) := hn1.At.ext hx3
  have hx := hn1.ext.trans hx3
  clear hn1 hx3
  refine ⟨cfgC c, ⟨rfl, hc1.all⟩, ?_⟩; (conv => whnf)
  refine (pmade_spec c l A cap w3 (hg0.ext hx) (hs.ext hx)).mono ?_
  rintro r w4 ⟨hx4, hr⟩
  replace hx := hx.trans hx4
  clear hc1 hx4
  rcases hr with ⟨_, rfl⟩ | ⟨hok, p, base, A', c', rfl, hW, hs4, hz, _⟩
  · (conv => whnf)
    refine ⟨_, eqRun_ptr_nil undWp _ _ _, ?_⟩; (conv => whnf)
    refine ⟨fun _ => ?_, fun h => (by simp at h)⟩
    (conv => whnf)
    exact ⟨rfl, hx⟩
  (conv => whnf)
  refine ⟨_, eqRun_ptr_nil undWp _ _ _, ?_⟩; (conv => whnf)
  refine ⟨fun _ => ?_, fun _ => ?_⟩
  · (conv => whnf)
    exact ⟨rfl, hx⟩
  generalize anewL l = z at hW hs4 hz
  (conv => whnf)
  refine (pleast_spec hW item a b).mono ?_
  rintro _ w5 ⟨o, rfl, ho, hx5⟩
  (conv => whnf)
  refine (r39Least_spec hz item a b A' c' w5 (hs4.ext hx5)).mono ?_
  rintro _ w6 ⟨o2, rfl, ho2, hx6⟩
  have hoo : o2 = o := by
    by_cases hk : leastOk a b = true
    · rw [if_pos hk] at ho ho2; exact least_unique ho2 ho
    · rw [if_neg hk] at ho ho2; rw [ho, ho2]
  rw [hoo]
  clear ho2 hoo
  replace hx := (hx.trans hx5).trans hx6
  replace hW := hW.ext (hx5.trans hx6)
  clear hx5 hx6
  (conv => whnf)
  refine ⟨_, fun _ => eqRun_bool und4 _ _ _ _, ?_⟩; (conv => whnf)
  refine ⟨fun h => (by simp at h), fun _ => ?_⟩
  (conv => whnf)
  constructor
  · intro _
    (conv => whnf)
    exact ⟨rfl, hx⟩
  · intro hc
    have hc : 0 ≤ a ∧ a ≤ m ∧ m < b ∧ b ≤ 1099511627776 := by simp at hc; omega
    obtain ⟨k1, k2, k3, k4⟩ := hc
    have ok1 : leastOk a b = true := by unfold leastOk tickB inB; simp; omega
    have ok2 : leastOk a m = true := by unfold leastOk tickB inB; simp; omega
    have ok3 : leastOk (m + 1) b = true := by unfold leastOk tickB inB; simp; omega
    rw [if_pos ok1] at ho
    (conv => whnf)
    refine (pleast_spec hW item a m).mono ?_
    rintro _ w7 ⟨x, rfl, hx1, hx7⟩
    rw [if_pos ok2] at hx1
    (conv => whnf)
    refine ⟨m + 1, wrap_eq rfl ⟨by omega, by omega⟩, ?_⟩; (conv => whnf)
    refine (pleast_spec (hW.ext hx7) item (m + 1) b).mono ?_
    rintro _ w8 ⟨y, rfl, hy1, hx8⟩
    rw [if_pos ok3] at hy1
    have hpart := least_part k2 k3 ho hx1 hy1
    replace hx := (hx.trans hx7).trans hx8
    have bx : ∀ n, x = some n → 0 ≤ n ∧ n ≤ 1048576 := fun n hn => by rw [hn] at hx1; exact least_bound hW.rise hW.may hx1
    have by_ : ∀ n, y = some n → 0 ≤ n ∧ n ≤ 1048576 := fun n hn => by rw [hn] at hy1; exact least_bound hW.rise hW.may hy1
    subst hpart
    clear hx1 hy1 ho
    cases x with
    | none =>
      (conv => whnf)
      refine ⟨fun h => (by simp at h), fun _ => ?_⟩
      cases y with
      | none =>
        (conv => whnf)
        refine ⟨_, eqRun_bool und4 _ _ _ _, ?_⟩; (conv => whnf)
        refine ⟨0, fun _ => rfl, ?_⟩; (conv => whnf)
        exact ⟨rfl, hx⟩
      | some y =>
        have hb := by_ y rfl
        (conv => whnf)
        refine ⟨_, eqRun_bool und4 _ _ _ _, ?_⟩; (conv => whnf)
        refine ⟨y, fun _ => wrap_eq (x := 0 + y) (by omega) ⟨by omega, by omega⟩, ?_⟩; (conv => whnf)
        exact ⟨by simp [lesser], hx⟩
    | some x =>
      cases y with
      | none =>
        (conv => whnf)
        refine ⟨fun h => (by simp at h), fun _ => ?_⟩
        (conv => whnf)
        refine ⟨_, eqRun_bool und4 _ _ _ _, ?_⟩; (conv => whnf)
        have hb := bx x rfl
        refine ⟨x, fun _ => wrap_eq (x := x + 0) (by omega) ⟨by omega, by omega⟩, ?_⟩; (conv => whnf)
        exact ⟨by simp [lesser], hx⟩
      | some y =>
        (conv => whnf)
        refine ⟨fun _ => ?_, fun h => (by simp at h)⟩
        (conv => whnf)
        refine ⟨?_, hx⟩
        unfold lesser
        by_cases hyx : y < x
        · simp [hyx]; omega
        · simp [hyx]; omega

def upTo (a : Int) (k : Nat) : List Int := (List.range k).map fun (i : Nat) => a + (i : Int)
theorem upTo_succ (a : Int) (k : Nat) : upTo a (k + 1) = upTo a k ++ [a + (k : Int)] := by simp [upTo, List.range_succ]
theorem least_upTo (f : Int → Option Int) (a : Int) (n : Nat) : LeastIs f a (a + n) (leastO ((upTo a (n + 1)).map f)) := by
  refine least_of (fun t ht => ?_) fun t h1 h2 => ⟨t, ?_, rfl⟩
  · obtain ⟨i, hi, rfl⟩ := List.mem_map.1 ht
    rw [List.mem_range] at hi
    omega
  · refine List.mem_map.2 ⟨(t - a).toNat, List.mem_range.2 (by omega), by omega⟩
theorem price_of_item (z : List Ev) (item : ByteArray) (t : Int) (hr : Rise z) : priceAt z item t = if (itemAt z item t).listed then some (itemAt z item t).price else none := by
  rw [price_def hr]
  unfold itemAt
  rw [catAt_def (things_rise hr)]
theorem priceTicks_spec (c : Cfg) (l : List Ev) (item : ByteArray) (a n : Int) (A : Option Addr) (cap : Nat) (w : World) (hg0 : Gl w) (hs : SlE w A l) :
    Cal Tryz.prog 12 [cfgV c, .slice A l.length cap, .string item, .int .i64 a, .int .i64 n] w fun r w' => r = .bool true ∧ Ext w w' := by
  refine fn_intro Tt_ok Tryz.func12 (by rfl) rfl _ rfl rfl (by rfl) ?_; (conv => whnf)
  intro b1 w1 hn1; (conv => whnf)
  refine (plives_spec w1 (hg0.ext hn1.ext)).mono ?_
  rintro _ w3 ⟨rfl, hx3⟩; (conv => whnf)
  refine ⟨fun h => (by simp at h), fun _ => ?_⟩
  (conv => whnf)
  have hc1 : At w3 b1 _ (cfgC c) := hn1.At.ext hx3
  have hx := hn1.ext.trans hx3
  clear hn1 hx3
  constructor
  · intro _
    (conv => whnf)
    exact ⟨rfl, hx⟩
  intro hc
  have hc : l.length ≤ 20 ∧ 0 ≤ n ∧ n ≤ 60 ∧ 0 ≤ a ∧ a ≤ 549755813888 := by simp at hc; omega
  obtain ⟨q1, q2, q3, q4, q5⟩ := hc
  obtain ⟨N, rfl⟩ : ∃ N : Nat, n = N := ⟨n.toNat, by omega⟩
  (conv => whnf)
  refine ⟨cfgC c, ⟨rfl, hc1.all⟩, ?_⟩; (conv => whnf)
  refine (pmade_spec c l A cap w3 (hg0.ext hx) (hs.ext hx)).mono ?_
  rintro r w4 ⟨hx4, hr⟩
  replace hx := hx.trans hx4
  clear hc1 hx4
  rcases hr with ⟨_, rfl⟩ | ⟨hok, p, base, A', c', rfl, hW, hs4, hz, _⟩
  · (conv => whnf)
    refine ⟨_, eqRun_ptr_nil undWp _ _ _, ?_⟩; (conv => whnf)
    refine ⟨fun _ => ?_, fun h => (by simp at h)⟩
    (conv => whnf)
    exact ⟨rfl, hx⟩
  (conv => whnf)
  refine ⟨_, eqRun_ptr_nil undWp _ _ _, ?_⟩; (conv => whnf)
  refine ⟨fun h => (by simp at h), fun _ => ?_⟩
  have hal := anew_len l
  generalize anewL l = z at hW hs4 hz hal
  have hri := hW.rise
  have hpi := fun t => price_of_item z item t hri
  have hres := least_upTo (priceAt z item) a N
  generalize hf : priceAt z item = f at hres
  (conv => whnf)
  refine loop_rule Tt_ok (fun (k : Nat) w' => k ≤ N + 1 ∧ Ext w4 w')
    (fun k => [(1, .slice A l.length cap), (2, .string item), (3, .int .i64 a), (4, .int .i64 N), (11, .pointer (some ⟨p, 0, none⟩)), (12, .slice A' z.length c'), (15, .int .i64 (a + (k : Int))), (13, .int .i64 ((leastO ((upTo a k).map f)).getD 0)), (14, .bool ((leastO ((upTo a k).map f)).isSome))]) (fun k => N + 1 - k) 0 ⟨by omega, Ext.refl _⟩ ⟨rfl, rfl, rfl, rfl, rfl, rfl, by simp; rfl, rfl, rfl, trivial⟩ ?_
  rintro k w6 ⟨hk, hx6⟩
  (conv => whnf)
  refine ⟨a + N, wrap_eq rfl ⟨by omega, by omega⟩, ?_⟩; (conv => whnf)
  constructor
  · intro hlt
    have hlt : k ≤ N := by simp at hlt; omega
    have hsn : leastO ((upTo a (k + 1)).map f) = lesser (leastO ((upTo a k).map f)) (f (a + k)) := by
      rw [upTo_succ, List.map_append, List.map_cons, List.map_nil, leastO_snoc]
    obtain ⟨o1, ho1⟩ : ∃ o1, o1 = leastO ((upTo a (k + 1)).map f) := ⟨_, rfl⟩
    rw [← ho1] at hsn
    generalize leastO ((upTo a k).map f) = o at hsn ⊢
    (conv => whnf)
    repeat (refine seq_go Tt_ok ?_; (conv => whnf))
    refine (wcatalog_spec (hW.ext hx6)).mono ?_
    rintro _ w7 ⟨pc, S, rfl, hcat, hx7⟩; (conv => whnf)
    refine (catAt_spec w7 S pc _ hcat item (a + k) hW.rows).mono ?_
    rintro _ w8 ⟨rfl, hx8⟩
    replace hx6 := (hx6.trans hx7).trans hx8
    have hpt := hpi (a + k)
    rw [hf] at hpt
    unfold itemAt at hpt
    clear hcat hx7 hx8
    generalize (catAt (thingsE z) item (a + k)).1 = i at hpt ⊢
    generalize (catAt (thingsE z) item (a + k)).2 = b
    rw [hpt, less_take] at hsn
    (conv => whnf)
    intro b9 w9 hn9; (conv => whnf)
    have e9 := hn9.block
    refine store_ptr Tt_ok (e := ty66) rfl hn9.At rfl rfl rfl (by simp [cellsL, itC, Value.oneCell']) fun w10 h10 ho10 => ?_
    have h10 : At w10 b9 _ (itC i) := h10
    have hx10 := ho10.ext (hx6.trans hn9.ext) (by have := hx6.size; omega)
    clear hn9 ho10 hx6
    (conv => whnf)
    refine ⟨_, h10.one rfl, ?_⟩; (conv => whnf)
    refine ⟨_, fun _ _ => h10.one rfl, ?_⟩; (conv => whnf)
    constructor
    · intro hq
      have hq : (i.listed && (!o.isSome || decide (i.price < o.getD 0))) = true := hq
      have hil : i.listed = true := by revert hq; cases i.listed <;> simp
      rw [hil] at hq
      have hsn : o1 = some i.price := by
        rw [hsn, hil]; simp only [if_true]
        rw [if_pos (by simpa using hq)]
      (conv => whnf)
      refine ⟨_, h10.one rfl, ?_⟩; (conv => whnf)
      refine ⟨a + ((k + 1 : Nat) : Int), wrap_eq (by omega) ⟨by omega, by omega⟩, ?_⟩; (conv => whnf)
      exact ⟨k + 1, by omega, ⟨by omega, hx10⟩, ⟨rfl, rfl, rfl, rfl, rfl, rfl, rfl, by rw [← ho1, hsn]; rfl, by rw [← ho1, hsn]; rfl, trivial⟩⟩
    · intro hq
      have hq : (i.listed && (!o.isSome || decide (i.price < o.getD 0))) = false := hq
      have hsn : o1 = o := by
        rw [hsn]
        cases hil : i.listed with
        | false => simp
        | true => rw [hil] at hq; simp only [if_true, Option.isSome_some, Option.getD_some]; rw [if_neg (by rw [hq]; simp)]
      (conv => whnf)
      refine ⟨a + ((k + 1 : Nat) : Int), wrap_eq (by omega) ⟨by omega, by omega⟩, ?_⟩; (conv => whnf)
      exact ⟨k + 1, by omega, ⟨by omega, hx10⟩, ⟨rfl, rfl, rfl, rfl, rfl, rfl, rfl, by rw [← ho1, hsn]; rfl, by rw [← ho1, hsn]; rfl, trivial⟩⟩
  · intro hge
    have hge : N < k := by simp at hge; omega
    obtain rfl : k = N + 1 := by omega
    replace hx := hx.trans hx6
    replace hW := hW.ext hx6
    have ok1 : leastOk a (a + N) = true := by unfold leastOk tickB inB; simp; omega
    (conv => whnf)
    refine ⟨a + N, wrap_eq rfl ⟨by omega, by omega⟩, ?_⟩; (conv => whnf)
    refine (pleast_spec hW item a (a + N)).mono ?_
    rintro _ w7 ⟨o, rfl, ho, hx7⟩
    rw [if_pos ok1, hf] at ho
    rw [least_unique ho hres]
    generalize leastO ((upTo a (N + 1)).map f) = o2
    (conv => whnf)
    refine ⟨_, fun _ => eqRun_bool und4 _ _ _ _, ?_⟩; (conv => whnf)
    exact ⟨by simp; omega, hx.trans hx7⟩
end Go.Proofs.YtbfjlpoeglcmfaaGreatDoor
