import Derived.Test.YtoancknoinilaaaGreatDoorHSl1

/- The sum of a score, in general; the law ScoreWeighs. -/
set_option linter.unusedVariables false
set_option linter.unusedSimpArgs false
namespace Go.Proofs.YtoancknoinilaaaGreatDoor
open Go.Se Go.RowKit

def wsC (a : Nat → Int) : List Value := [.int .i64 (a 0), .int .i64 (a 1), .int .i64 (a 2), .int .i64 (a 3), .int .i64 (a 4), .int .i64 (a 5)]
theorem wsC_at (a : Nat → Int) {k : Nat} (hk : k < 6) : nth (wsC a) k = some (.int .i64 (a k)) := by
  rcases k with _ | _ | _ | _ | _ | _ | k <;> first | rfl | omega
def oneAt (i : Nat) (x : Int) (k : Nat) : Int := if k = i then x else 0
theorem wsC_set0 (x : Int) {k : Nat} (hk : k < 6) : spl (wsC fun _ => 0) k [.int .i64 x] = wsC (oneAt k x) := by
  rcases k with _ | _ | _ | _ | _ | _ | k <;> first | rfl | omega
theorem wsC_set1 (x y : Int) {k : Nat} (hk : k < 6) : spl (wsC (oneAt k x)) k [.int .i64 y] = wsC (oneAt k y) := by
  rcases k with _ | _ | _ | _ | _ | _ | k <;> first | rfl | omega
def rawF (c : Cfg) (z : List Ev) (person item : ByteArray) (now : Int) (k : Nat) : Int := rawX c z person item now (k : Nat)
theorem sofG_spec {w : World} {T0 : Nat → Prop} {p : Nat} {c : Cfg} {z : List Ev} (h : WT w T0 p c z) (hok : ScOk c z) (hg : Gl w) (hT : ∀ b, T0 b → 10 ≤ b) (a : Nat → Int) (person item : ByteArray) (now : Int) :
    Cal Tryz.prog 21 [.pointer (some ⟨p, 0, none⟩), .agg (wsC a).toArray, .string person, .string item, .int .i64 now] w fun r w' => ∃ A cap T, r = .tuple #[.slice A 6 cap, .int .i64 (totL (ptsF (rawF c z person item now) a 6))] ∧ Own ptC 3 42 w.heap.size w' A cap (ptsF (rawF c z person item now) a 6) ∧ WT w' T p c z ∧ (∀ b, T b → T0 b ∨ w.heap.size ≤ b) ∧ (∀ a, A = some a → ¬ T a.block) ∧ Mod T0 w w' := by
  have hsz := hg.size
  refine (sof_spec (rawF c z person item now) a (fun _ T w1 => WT w1 T p c z ∧ Gl w1 ∧ ∀ b, T b → 10 ≤ b) T0 p person item now w ⟨h, hg, hT⟩ (fun k T w1 hJ => hJ.1.lt) (fun k T w1 w2 hJ hM => ⟨hJ.1.mod hM fun b hb => hb.1, hJ.2.1.mod hM fun b hb => Nat.le_trans hsz hb.2, hJ.2.2⟩) ?_).mono ?_
  · intro k hk T w1 hJ
    have hs1 := hJ.2.1.size
    refine (sraw_spec hJ.1 hok hJ.2.1 person item now k).mono ?_
    rintro r w2 ⟨hr, hM, T', hW, hT'⟩
    exact ⟨hr, hM, T', ⟨hW, hJ.2.1.mod hM hJ.2.2, fun b hb => (hT' b hb).elim (hJ.2.2 b) fun h => Nat.le_trans hs1 h⟩, hT'⟩
  · rintro r w' ⟨A, cap, T, hr, hown, hJ, hT1, hA, hM⟩
    exact ⟨A, cap, T, hr, hown, hJ.1, hT1, hA, hM⟩
theorem clamp0 : clampW 0 = 0 := by decide
theorem clamp2 (x : Int) : clampW (clampW x) = clampW x := by unfold clampW; omega
theorem tot_one (F : Nat → Int) (i : Nat) (x : Int) : ∀ n : Nat, totL (ptsF F (oneAt i x) n) = if i < n then IntKind.i64.wrap (F i * clampW x) else 0
  | 0 => by rw [if_neg (by omega)]; exact tot_nil
  | n + 1 => by
    have ih := tot_one F i x n
    rw [ptsF_snoc, tot_snoc, ih]
    unfold oneAt
    by_cases h1 : i < n
    · rw [if_pos h1, if_pos (show i < n + 1 by omega), if_neg (show ¬ n = i by omega), clamp0, Int.mul_zero, wrap_0, Int.add_zero]
      have := wrap_add_l (F i * clampW x) 0
      rw [Int.add_zero, Int.add_zero] at this
      exact this
    · by_cases h2 : i = n
      · subst h2
        rw [if_neg h1, if_pos (show i < i + 1 by omega), if_pos rfl, Int.zero_add]
        have := wrap_add_l (F i * clampW x) 0
        rw [Int.add_zero, Int.add_zero] at this
        exact this
      · rw [if_neg h1, if_neg (show ¬ i < n + 1 by omega), if_neg (show ¬ n = i by omega), clamp0, Int.mul_zero, wrap_0]
        exact wrap_0
theorem tot_none (F : Nat → Int) : ∀ n : Nat, totL (ptsF F (fun _ => 0) n) = 0
  | 0 => tot_nil
  | n + 1 => by
    have ih := tot_none F n
    rw [ptsF_snoc, tot_snoc, ih, clamp0, Int.mul_zero, wrap_0]
    exact wrap_0
theorem pts_get (F a : Nat → Int) {i n : Nat} (h : i < n) : (ptsF F a n)[i]? = some ((i : Int), F i, IntKind.i64.wrap (F i * clampW (a i))) := by
  unfold ptsF
  rw [List.getElem?_map, List.getElem?_range h]
  rfl
theorem tot_next (F a : Nat → Int) (n : Nat) : totL (ptsF F a (n + 1)) = IntKind.i64.wrap (totL (ptsF F a n) + IntKind.i64.wrap (F n * clampW (a n))) := by
  rw [ptsF_snoc, tot_snoc]
theorem rweight23_spec (x : Int) (w : World) : Cal Tryz.prog 22 [.int .i64 x] w fun r w' => r = .int .i64 (clampW x) ∧ w' = w := by
  refine fn_intro Tt_ok Tryz.func22 (by rfl) rfl _ rfl rfl (by rfl) ?_; (conv=>whnf)
  constructor
  · intro hc
    have hc : x < 0 := by simpa using hc
    (conv=>whnf)
    exact ⟨by rw [show clampW x = 0 by unfold clampW; omega], rfl⟩
  intro hc
  have hc : ¬ x < 0 := by simpa using hc
  (conv=>whnf)
  constructor
  · intro hd
    have hd : 1000 < x := by simpa using hd
    (conv=>whnf)
    exact ⟨by rw [show clampW x = 1000 by unfold clampW; omega], rfl⟩
  intro hd
  have hd : ¬ 1000 < x := by simpa using hd
  (conv=>whnf)
  exact ⟨by rw [show clampW x = x by unfold clampW; omega], rfl⟩
theorem pt_eq (a b : Pt) (ox oy : Operand) : EqRun Tryz.prog 42 ox oy (.agg (ptC a).toArray) (.agg (ptC b).toArray) (decide (a = b)) := by
  have h := eqRun_struct (ox := ox) (oy := oy) Tt_ok st42 (xs := ptC a) (ys := ptC b) (b := decide (a.1 = b.1) && (decide (a.2.1 = b.2.1) && (decide (a.2.2 = b.2.2) && true))) rfl
  have e : (decide (a.1 = b.1) && (decide (a.2.1 = b.2.1) && (decide (a.2.2 = b.2.2) && true))) = decide (a = b) := by
    rw [Bool.eq_iff_iff]
    obtain ⟨a1, a2, a3⟩ := a
    obtain ⟨b1, b2, b3⟩ := b
    simp
  rw [e] at h
  exact h
structure Wg (w0 w : World) (b2 p : Nat) (a : Nat → Int) (A6 : Option Addr) (all : List Pt) (c : Cfg) (z : List Ev) (T : Nat → Prop) : Prop where
  ext : Ext w0 w
  ws : At w b2 37 (wsC a)
  sl : Sl ptC 3 w A6 all
  lt : ∀ x, A6 = some x → x.block < w.heap.size
  wt : WT w T p c z
  tw : ∀ b, T b → w0.heap.size ≤ b
  t2 : ¬ T b2
  ta : ∀ x, A6 = some x → ¬ T x.block
theorem Wg.go {w0 w w1 : World} {b2 p : Nat} {a : Nat → Int} {A6 : Option Addr} {all : List Pt} {c : Cfg} {z : List Ev} {T : Nat → Prop} (h : Wg w0 w b2 p a A6 all c z T) (hx : Ext w w1) : Wg w0 w1 b2 p a A6 all c z T :=
  ⟨h.ext.trans hx, h.ws.ext hx, h.sl.ext hx, fun x hx' => Nat.lt_of_lt_of_le (h.lt x hx') hx.size, h.wt.ext hx, h.tw, h.t2, h.ta⟩
theorem Wg.of {w0 w w1 : World} {b2 p : Nat} {a : Nat → Int} {A6 : Option Addr} {all : List Pt} {c : Cfg} {z : List Ev} {T T1 : Nat → Prop} (h : Wg w0 w b2 p a A6 all c z T) (hM : Mod T w w1) (hW : WT w1 T1 p c z) (hT : ∀ b, T1 b → T b ∨ w.heap.size ≤ b) : Wg w0 w1 b2 p a A6 all c z T1 where
  ext := ext_mod h.ext h.tw hM
  ws := h.ws.mod hM h.t2
  sl := sl_keep h.sl fun x hx => hM.block x.block (h.lt x hx) (h.ta x hx)
  lt := fun x hx => Nat.lt_of_lt_of_le (h.lt x hx) hM.size
  wt := hW
  tw := fun b hb => (hT b hb).elim (h.tw b) fun k => Nat.le_trans h.ext.size k
  t2 := fun hb => (hT b2 hb).elim h.t2 fun k => by have := h.ws.lt; omega
  ta := fun x hx hb => (hT x.block hb).elim (h.ta x hx) fun k => by have := h.lt x hx; omega
set_option maxHeartbeats 2000000 in
theorem scoreWeighs_spec (c : Cfg) (l : List Ev) (a : Nat → Int) (person item : ByteArray) (now : Int) (A : Option Addr) (cap : Nat) (w : World) (hg0 : Gl w) (hs : SlE w A l) :
    Cal Tryz.prog 7 [cfgV c, .slice A l.length cap, .agg (wsC a).toArray, .string person, .string item, .int .i64 now] w fun r w' => r = .bool true ∧ Ext w w' := by
  refine fn_intro Tt_ok Tryz.func7 (by rfl) rfl _ rfl rfl (by rfl) ?_; (conv=>whnf)
  intro b1 w1 hn1; (conv=>whnf)
  intro b2 w2 hn2; (conv=>whnf)
  have hx2 := hn1.ext.trans hn2.ext
  refine (slives_spec w2 (hg0.ext hx2)).mono ?_
  rintro _ w3 ⟨rfl, hx3⟩; (conv=>whnf)
  refine ⟨fun h => (by simp at h), fun _ => ?_⟩
  have hx := hx2.trans hx3
  have hc1 : At w3 b1 _ (cfgC c) := (hn1.At.ext hn2.ext).ext hx3
  have ha2 : At w3 b2 37 (wsC a) := hn2.At.ext hx3
  have hb2w : w.heap.size ≤ b2 := by rw [hn2.block]; exact hn1.ext.size
  clear hn1 hn2 hx3 hx2
  (conv=>whnf)
  refine ⟨cfgC c, ⟨rfl, hc1.all⟩, ?_⟩; (conv=>whnf)
  refine (heavy_spec 16 (by omega) c l A cap person item w3 (hs.ext hx)).mono ?_
  rintro _ w4 ⟨rfl, hx4⟩
  replace hx := hx.trans hx4
  replace hc1 := hc1.ext hx4
  replace ha2 := ha2.ext hx4
  clear hx4
  generalize hq : hvB 16 c l person item = q
  (conv=>whnf)
  constructor
  · intro _; (conv=>whnf); exact ⟨rfl, hx⟩
  intro hc
  have hc : q = false := hc
  subst hc
  obtain ⟨hl, hm, hcf⟩ := hv_not hq
  clear hq
  (conv=>whnf)
  refine ⟨cfgC c, ⟨rfl, hc1.all⟩, ?_⟩; (conv=>whnf)
  refine (made_spec c hcf l A cap w4 (hg0.ext hx) (hs.ext hx) (by omega) hm).mono ?_
  rintro _ w5 ⟨p, rfl, hW, hx5⟩
  obtain ⟨T, hWT, hTb⟩ := hW.t
  have hb4 := hx.size
  have hb2l := ha2.lt
  have hTw : ∀ k, T k → w.heap.size ≤ k := fun k hk => Nat.le_trans hb4 (hTb k hk)
  have hT2 : ¬ T b2 := fun h => by have := hTb b2 h; omega
  have hsz := hg0.size
  replace hx := hx.trans hx5
  replace ha2 := ha2.ext hx5
  have hzl := anew_len l
  clear hW hTb hb4 hc1 hx5 hb2l
  generalize anewL l = z at hWT hzl
  have hok : ScOk c z := ⟨hcf, by omega⟩
  (conv=>whnf)
  refine ⟨fun h => (by simp at h), fun _ => ?_⟩
  (conv=>whnf)
  refine ⟨wsC a, ⟨rfl, ha2.all⟩, ?_⟩; (conv=>whnf)
  refine (sofG_spec hWT hok (hg0.ext hx) (fun b hb => Nat.le_trans hsz (hTw b hb)) a person item now).mono ?_
  rintro _ w6 ⟨A6, c6, T6, rfl, hown6, hW6, hT6, hA6, hM6⟩
  have ha6 := ha2.mod hM6 hT2
  have hb2l := ha2.lt
  have hx6 := ext_mod hx hTw hM6
  have hTw6 : ∀ k, T6 k → w.heap.size ≤ k := fun k hk => (hT6 k hk).elim (hTw k) fun h => Nat.le_trans hx.size h
  have hT26 : ¬ T6 b2 := fun h => by
    rcases hT6 b2 h with h | h
    · exact hT2 h
    · omega
  have hs6 : Sl ptC 3 w6 A6 (ptsF (rawF c z person item now) a 6) := hown6.sl ptC_len
  have hA6l : ∀ x, A6 = some x → x.block < w6.heap.size := fun x hx => (hown6.block hx).2
  obtain ⟨F, hF⟩ : ∃ F, F = rawF c z person item now := ⟨_, rfl⟩
  have hsof : ∀ {w1 : World} {T1 : Nat → Prop} (_ : WT w1 T1 p c z) (_ : Gl w1) (_ : ∀ b, T1 b → 10 ≤ b) (b : Nat → Int), Cal Tryz.prog 21 [.pointer (some ⟨p, 0, none⟩), .agg (wsC b).toArray, .string person, .string item, .int .i64 now] w1 fun r w' => ∃ A cap T, r = .tuple #[.slice A 6 cap, .int .i64 (totL (ptsF F b 6))] ∧ Own ptC 3 42 w1.heap.size w' A cap (ptsF F b 6) ∧ WT w' T p c z ∧ (∀ b, T b → T1 b ∨ w1.heap.size ≤ b) ∧ (∀ a, A = some a → ¬ T a.block) ∧ Mod T1 w1 w' := fun h hg hT b => by
    rw [hF]; exact sofG_spec h hok hg hT b person item now
  rw [← hF] at hs6 ⊢
  clear hF
  clear hown6 hWT ha2 hM6 hT6 hTw hT2 hx hb2l
  have hall : ∀ i : Nat, i < 6 → (ptsF F a 6)[i]? = some ((i : Int), F i, IntKind.i64.wrap (F i * clampW (a i))) := fun i hi => pts_get F a hi
  have htall : totL (ptsF F a 6) = totL (ptsF F a 6) := rfl
  have hWg : Wg w w6 b2 p a A6 (ptsF F a 6) c z T6 := ⟨hx6, ha6, hs6, hA6l, hW6, hTw6, hT26, hA6⟩
  clear hx6 ha6 hs6 hA6l hW6 hTw6 hT26 hA6
  have hlall : (ptsF F a 6).length = 6 := ptsF_len F a 6
  have htn := tot_next F a
  have ht0 : (0 : Int) = totL (ptsF F a 0) := tot_nil.symm
  obtain ⟨all, hal⟩ : ∃ all, all = ptsF F a 6 := ⟨_, rfl⟩
  rw [← hal] at hall hWg hlall
  (conv=>whnf)
  refine loop_rule Tt_ok (fun (q : Nat × Int) w' => q.1 ≤ 6 ∧ q.2 = totL (ptsF F a q.1) ∧ ∃ T, Wg w w' b2 p a A6 all c z T)
    (fun | (k, n) => [(3, .string person), (4, .string item), (5, .int .i64 now), (8, .pointer (some ⟨b2, 0, none⟩)), (13, .pointer (some ⟨p, 0, none⟩)), (15, .slice A6 6 c6), (16, .int .i64 (totL (ptsF F a 6))), (17, .int .i64 n), (18, .int .i64 (k : Nat))]) (fun q => 6 - q.1) (0, 0) ⟨by simp, ht0, T6, hWg⟩ ⟨rfl, rfl, rfl, rfl, rfl, rfl, rfl, rfl, rfl, trivial⟩ ?_
  clear hWg
  rintro ⟨k, n⟩ w7 ⟨hk, hn, T7, hW7⟩
  simp only at hk hn
  (conv=>whnf)
  constructor
  · intro hlt
    have hlt : k < 6 := by
      have : (k : Int) < 6 := by simpa using hlt
      omega
    have hx7 := hW7.ext
    (conv=>whnf); repeat (refine seq_go Tt_ok ?_; (conv=>whnf))
    intro b8 w8 hn8; (conv=>whnf); repeat (refine seq_go Tt_ok ?_; (conv=>whnf))
    refine store_ptr Tt_ok (e := ty37) rfl hn8.At rfl rfl rfl (by simp [cellsL, Value.oneCell']) fun w9 h9 ho9 => ?_
    have h9 : At w9 b8 37 (wsC fun _ => 0) := h9
    have e8 := hn8.block
    have hx79 : Ext w7 w9 := ho9.ext hn8.ext (by omega)
    clear ho9 hn8
    (conv=>whnf); repeat (refine seq_go Tt_ok ?_; (conv=>whnf))
    refine ⟨⟨by omega, by omega⟩, ?_⟩; (conv=>whnf); repeat (refine seq_go Tt_ok ?_; (conv=>whnf))
    refine ⟨.int .i64 (a k), (hW7.go hx79).ws.one (by rw [Int.toNat_natCast, Nat.mul_one]; exact wsC_at a hlt), ?_⟩; (conv=>whnf); repeat (refine seq_go Tt_ok ?_; (conv=>whnf))
    refine ⟨⟨by omega, by omega⟩, ?_⟩; (conv=>whnf); repeat (refine seq_go Tt_ok ?_; (conv=>whnf))
    refine store_ptr Tt_ok (e := ty3) rfl h9 (off := k) (by rw [Int.toNat_natCast, Nat.mul_one, add_zero_addr]) rfl (Nat.ble_eq_true_of_le (show k + 1 ≤ 6 by omega)) (by simp [cellsL, Value.oneCell']) fun w10 h10 ho10 => ?_
    have h10 : At w10 b8 37 (wsC (oneAt k (a k))) := by rw [← wsC_set0 (a k) hlt]; exact h10
    have hx710 : Ext w7 w10 := ho10.ext hx79 (by omega)
    have hW10 := hW7.go hx710
    have hb8 : b8 < w10.heap.size := h10.lt
    have hT8 : ¬ T7 b8 := fun h => by have := hW7.wt.lt b8 h; omega
    clear ho10 h9 hx79
    (conv=>whnf); repeat (refine seq_go Tt_ok ?_; (conv=>whnf))
    refine ⟨wsC (oneAt k (a k)), ⟨rfl, h10.all⟩, ?_⟩; (conv=>whnf); repeat (refine seq_go Tt_ok ?_; (conv=>whnf))
    have hof := hsof hW10.wt (hg0.ext hW10.ext) (fun b hb => Nat.le_trans hsz (hW10.tw b hb)) (oneAt k (a k))
    rw [tot_one, if_pos hlt] at hof
    have hg1 : (ptsF F (oneAt k (a k)) 6)[k]? = some ((k : Int), F k, IntKind.i64.wrap (F k * clampW (a k))) := by
      rw [pts_get F _ hlt]
      unfold oneAt
      rw [if_pos rfl]
    have hl1 : (ptsF F (oneAt k (a k)) 6).length = 6 := ptsF_len _ _ _
    have hga := hall k hlt
    have htk := htn k
    rw [← hn] at htk
    have hcl : IntKind.i64.wrap (F k * clampW (clampW (a k))) = IntKind.i64.wrap (F k * clampW (a k)) := by rw [clamp2]
    generalize hpk : IntKind.i64.wrap (F k * clampW (a k)) = pk at hof hg1 hga htk hcl
    generalize hq1 : ptsF F (oneAt k (a k)) 6 = one at hof hg1 hl1
    refine hof.mono ?_
    rintro _ w11 ⟨A11, c11, T11, rfl, hown11, hW11', hT11, hA11, hM11⟩
    have hW11 := hW10.of hM11 hW11' hT11
    have h11 := h10.mod hM11 hT8
    have hxd : Ext w11 w11.drew := (Ext.refl w11).drew
    have hs11 : Sl ptC 3 w11 A11 one := hown11.sl ptC_len
    have hT118 : ¬ T11 b8 := fun h => (hT11 b8 h).elim hT8 fun h => by omega
    clear hof hown11 hW11' hA11
    (conv=>whnf); repeat (refine seq_go Tt_ok ?_; (conv=>whnf))
    refine draw_rule .same [0, 1, 2, 3, 4, 5, 6, 7, 8, 9, 10, 11, 12, 13, 14, 15, 16, 17, 18, 19, 20, 21, 22, 23, 24, 25, 26, 27] [] Tt_ok mixed (by kernel_rfl) (by first | (intro h; cases h; done) | (intro _; rfl)) ?_; (conv=>whnf)
    replace hs11 := hs11.ext hxd
    replace hW11 := hW11.go hxd
    replace h11 := h11.ext hxd
    have hs12 := hxd.size
    generalize w11.drew = w12 at hs11 hW11 h11 hxd hs12 ⊢
    obtain ⟨a12, rfl, hc12⟩ := hs11 k _ hg1
    obtain ⟨a13, rfl, hc13⟩ := hW11.sl k _ hga
    refine ⟨a12, fun _ => ⟨rfl, by omega, by omega⟩, ?_⟩; (conv=>whnf)
    refine ⟨.int .i64 pk, fun _ => cells_at hc12 (k := 2) rfl, ?_⟩; (conv=>whnf)
    refine ⟨a12, fun _ => ⟨rfl, by omega, by omega⟩, ?_⟩; (conv=>whnf)
    refine ⟨ptC ((k : Int), F k, pk), fun _ => ⟨rfl, hc12⟩, ?_⟩; (conv=>whnf)
    refine ⟨a13, fun _ => ⟨rfl, by omega, by omega⟩, ?_⟩; (conv=>whnf)
    refine ⟨ptC ((k : Int), F k, pk), fun _ => ⟨rfl, hc13⟩, ?_⟩; (conv=>whnf)
    refine ⟨_, fun _ => pt_eq ((k : Int), F k, pk) ((k : Int), F k, pk) _ _, ?_⟩; (conv=>whnf); repeat (refine seq_go Tt_ok ?_; (conv=>whnf))
    refine ⟨fun h => (by simp at h), fun _ => ?_⟩
    (conv=>whnf); repeat (refine seq_go Tt_ok ?_; (conv=>whnf))
    refine ⟨totL (ptsF F a (k + 1)), htk, ?_⟩; (conv=>whnf); repeat (refine seq_go Tt_ok ?_; (conv=>whnf))
    refine ⟨⟨by omega, by omega⟩, ?_⟩; (conv=>whnf); repeat (refine seq_go Tt_ok ?_; (conv=>whnf))
    refine ⟨.int .i64 (a k), hW11.ws.one (by rw [Int.toNat_natCast, Nat.mul_one]; exact wsC_at a hlt), ?_⟩; (conv=>whnf); repeat (refine seq_go Tt_ok ?_; (conv=>whnf))
    refine ⟨fun _ => ⟨by omega, by omega⟩, ?_⟩; (conv=>whnf); repeat (refine seq_go Tt_ok ?_; (conv=>whnf))
    refine ⟨.int .i64 (a k), fun _ => hW11.ws.one (by rw [Int.toNat_natCast, Nat.mul_one]; exact wsC_at a hlt), ?_⟩; (conv=>whnf); repeat (refine seq_go Tt_ok ?_; (conv=>whnf))
    constructor
    · intro _
      (conv=>whnf); repeat (refine seq_go Tt_ok ?_; (conv=>whnf))
      refine ⟨⟨by omega, by omega⟩, ?_⟩; (conv=>whnf); repeat (refine seq_go Tt_ok ?_; (conv=>whnf))
      refine ⟨.int .i64 (a k), hW11.ws.one (by rw [Int.toNat_natCast, Nat.mul_one]; exact wsC_at a hlt), ?_⟩; (conv=>whnf); repeat (refine seq_go Tt_ok ?_; (conv=>whnf))
      refine (rweight23_spec (a k) w12).mono ?_
      rintro _ w13 ⟨rfl, hw13⟩
      subst hw13
      (conv=>whnf); repeat (refine seq_go Tt_ok ?_; (conv=>whnf))
      refine ⟨⟨by omega, by omega⟩, ?_⟩; (conv=>whnf); repeat (refine seq_go Tt_ok ?_; (conv=>whnf))
      refine store_ptr Tt_ok (e := ty3) rfl h11 (off := k) (by rw [Int.toNat_natCast, Nat.mul_one, add_zero_addr]) rfl (Nat.ble_eq_true_of_le (show k + 1 ≤ 6 by omega)) (by simp [cellsL, Value.oneCell']) fun w14 h14 ho14 => ?_
      have h14 : At w14 b8 37 (wsC (oneAt k (clampW (a k)))) := by rw [← wsC_set1 (a k) (clampW (a k)) hlt]; exact h14
      have hb7 := hW7.ws.lt
      have hW14 : Wg w w14 b2 p a (some a13) all c z T11 := by
        have hl13 := hW7.lt a13 rfl
        have hs7 := hx7.size
        have hs710 := hx710.size
        refine ⟨ho14.ext hW11.ext (by omega), (ho14.block b2 (by omega)).trans hW11.ws, sl_keep hW11.sl fun x hx => ?_, fun x hx => by rw [ho14.size]; exact hW11.lt x hx, hW11.wt.keep fun b hb => ho14.block b (fun e => hT118 (e ▸ hb)), hW11.tw, hW11.t2, hW11.ta⟩
        have hx : a13 = x := by simpa using hx
        subst hx
        exact ho14.block _ (by omega)
      (conv=>whnf); repeat (refine seq_go Tt_ok ?_; (conv=>whnf))
      refine ⟨wsC (oneAt k (clampW (a k))), ⟨rfl, h14.all⟩, ?_⟩; (conv=>whnf); repeat (refine seq_go Tt_ok ?_; (conv=>whnf))
      have hof2 := hsof hW14.wt (hg0.ext hW14.ext) (fun b hb => Nat.le_trans hsz (hW14.tw b hb)) (oneAt k (clampW (a k)))
      rw [tot_one, if_pos hlt, hcl] at hof2
      refine hof2.mono ?_
      rintro _ w15 ⟨A15, c15, T15, rfl, _, hW15', hT15, _, hM15⟩
      have hW15 := hW14.of hM15 hW15' hT15
      (conv=>whnf); repeat (refine seq_go Tt_ok ?_; (conv=>whnf))
      refine ⟨fun h => (by simp at h), fun _ => ?_⟩
      (conv=>whnf); repeat (refine seq_go Tt_ok ?_; (conv=>whnf))
      refine ⟨((k + 1 : Nat) : Int), wrap_succ (by omega), ?_⟩; (conv=>whnf); repeat (refine seq_go Tt_ok ?_; (conv=>whnf))
      exact ⟨(k + 1, totL (ptsF F a (k + 1))), by simp only; omega, ⟨by simp only; omega, rfl, T15, hW15⟩, ⟨rfl, rfl, rfl, rfl, rfl, rfl, rfl, rfl, rfl, trivial⟩⟩
    · intro _
      (conv=>whnf); repeat (refine seq_go Tt_ok ?_; (conv=>whnf))
      refine ⟨((k + 1 : Nat) : Int), wrap_succ (by omega), ?_⟩; (conv=>whnf); repeat (refine seq_go Tt_ok ?_; (conv=>whnf))
      exact ⟨(k + 1, totL (ptsF F a (k + 1))), by simp only; omega, ⟨by simp only; omega, rfl, T11, hW11⟩, ⟨rfl, rfl, rfl, rfl, rfl, rfl, rfl, rfl, rfl, trivial⟩⟩
  · intro hge
    have hge : k = 6 := by
      have : ¬ (k : Int) < 6 := by simpa using hge
      omega
    subst hge
    have hof := hsof hW7.wt (hg0.ext hW7.ext) (fun b hb => Nat.le_trans hsz (hW7.tw b hb)) (fun _ => 0)
    rw [tot_none] at hof
    rw [← hn]
    (conv=>whnf)
    refine hof.mono ?_
    rintro _ w8 ⟨A8, c8, T8, rfl, _, hW8', hT8, _, hM8⟩
    have hW8 := hW7.of hM8 hW8' hT8
    (conv=>whnf)
    exact ⟨by simp, hW8.ext⟩
end Go.Proofs.YtoancknoinilaaaGreatDoor
