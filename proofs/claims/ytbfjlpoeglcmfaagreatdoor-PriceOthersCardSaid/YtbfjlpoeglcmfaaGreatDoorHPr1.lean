import Derived.Test.YtbfjlpoeglcmfaaGreatDoorHBu11

/- Prices: tick, looks, as, Then. -/
set_option linter.unusedVariables false
set_option linter.unusedSimpArgs false
namespace Go.Proofs.YtbfjlpoeglcmfaaGreatDoor
open Go.Se Go.RowKit

def lookQ (now : Int) (e : Ev) : Bool := (decide (e.kind = 0) || decide (e.kind = 1)) && decide (e.at_ ≤ now)
/-- The ticks of the last looks, by their things. -/
def lookM (l : List Ev) : List (ByteArray × Int) := l.foldl (fun m e => aset m e.item e.at_) []
theorem lookM_snoc (l : List Ev) (e : Ev) : lookM (l ++ [e]) = aset (lookM l) e.item e.at_ := by simp [lookM]
def looksM (z : List Ev) (person : ByteArray) (now : Int) : List (ByteArray × Int) := lookM ((histE z person).filter (lookQ now))
/-- The tick of the last look. -/
def lookAt (z : List Ev) (person item : ByteArray) (now : Int) : Option Int := alook (looksM z person now) item
theorem lookM_look (l : List Ev) (item : ByteArray) : alook (lookM l) item = ((l.filter fun e => decide (e.item = item)).getLast?).map (·.at_) := by
  induction l using snoc_ind with
  | h0 => rfl
  | h1 l a ih =>
    rw [lookM_snoc, alook_aset, List.filter_append]
    by_cases h : item = a.item
    · subst h; simp
    · rw [if_neg h, ih]; simp [Ne.symm h]
/-- The price as of a tick, if there is one. -/
def priceAt (z : List Ev) (item : ByteArray) (t : Int) : Option Int := if itemIs z item t && (itemAt z item t).listed then some (itemAt z item t).price else none
def optV (o : Option Int) : Value := .tuple #[vi (o.getD 0), .bool o.isSome]

theorem ptick_spec (t : Int) (w : World) : Cal Tryz.prog 56 [.int .i64 t] w fun r w' => r = .bool (tickB t) ∧ Ext w w' := by
  refine fn_intro Tt_ok Tryz.func56 (by rfl) rfl _ rfl rfl (by rfl) ?_; (conv => whnf)
  exact ⟨rfl, Ext.refl _⟩
theorem pas_spec {w : World} {base p : Nat} {c : Cfg} {z : List Ev} (hW : WV w base p c z) (item : ByteArray) (t : Int) :
    Cal Tryz.prog 58 [.pointer (some ⟨p, 0, none⟩), .string item, .int .i64 t] w fun r w' => r = optV (priceAt z item t) ∧ Ext w w' := by
  refine fn_intro Tt_ok Tryz.func58 (by rfl) rfl _ rfl rfl (by rfl) ?_; (conv => whnf)
  refine (wcatalog_spec hW).mono ?_
  rintro _ w1 ⟨pc, S, rfl, hcat, hx1⟩; (conv => whnf)
  refine (catAt_spec w1 S pc _ hcat item t hW.rows).mono ?_
  rintro _ w2 ⟨rfl, hx2⟩
  have hx := hx1.trans hx2
  clear hx1 hx2 hcat
  obtain ⟨i, hi⟩ : ∃ i, i = itemAt z item t := ⟨_, rfl⟩
  obtain ⟨b, hb⟩ : ∃ b, b = itemIs z item t := ⟨_, rfl⟩
  have hp : priceAt z item t = if b && i.listed then some i.price else none := by unfold priceAt; rw [hi, hb]
  unfold itemAt at hi
  unfold itemIs at hb
  rw [← hi, ← hb, hp]
  clear hi hb hp
  (conv => whnf)
  intro b3 w3 hn3; (conv => whnf)
  have e3 := hn3.block
  refine store_ptr Tt_ok (e := ty66) rfl hn3.At rfl rfl rfl (by simp [cellsL, itC, Value.oneCell']) fun w4 h4 ho4 => ?_
  have h4 : At w4 b3 _ (itC i) := h4
  have hx4 := ho4.ext (hx.trans hn3.ext) (by have := hx.size; omega)
  (conv => whnf)
  refine ⟨_, fun _ => h4.one rfl, ?_⟩; (conv => whnf)
  constructor
  · intro hc
    have hc : (b && i.listed) = false := by revert hc; cases b <;> cases i.listed <;> simp
    rw [hc]
    (conv => whnf)
    exact ⟨rfl, hx4⟩
  · intro hc
    have hc : (b && i.listed) = true := by revert hc; cases b <;> cases i.listed <;> simp
    rw [hc]
    (conv => whnf)
    refine ⟨_, h4.one rfl, ?_⟩; (conv => whnf)
    exact ⟨rfl, hx4⟩
theorem plooks_spec {w : World} {base p : Nat} {c : Cfg} {z : List Ev} (hW : WV w base p c z) (person : ByteArray) (now : Int) :
    Cal Tryz.prog 57 [.pointer (some ⟨p, 0, none⟩), .string person, .int .i64 now] w fun r w' => ∃ b, r = .map (some b) ∧ w.heap.size ≤ b ∧ MapAt w' b Value.string (venc vi (looksM z person now)) ∧ Ext w w' := by
  refine fn_intro Tt_ok Tryz.func57 (by rfl) rfl _ rfl rfl (by rfl) ?_; (conv => whnf)
  intro b1 w1 hn1; (conv => whnf)
  have e1 := hn1.block
  have s1 := hn1.size
  have hm1 := MapAt.new (enc := Value.string) hn1
  have hx1 := hn1.ext
  clear hn1
  refine (wcrowd_spec (hW.ext hx1)).mono ?_
  rintro _ w2 ⟨pw, S, rfl, hcr, hx2⟩; (conv => whnf)
  refine (whistory_spec (hW.ext (hx1.trans hx2)) hcr person).mono ?_
  rintro _ w3 ⟨A3, c3, rfl, hown3, hx3⟩; (conv => whnf)
  have hs3 := hown3.sl evC_len
  have hA3 : ∀ a, A3 = some a → w1.heap.size ≤ a.block ∧ a.block < w3.heap.size := fun a ha => by have := hown3.block ha; have := hx2.size; omega
  have hm3 := (hm1.ext hx2).ext hx3
  have hx3' := (hx1.trans hx2).trans hx3
  have z13 : w1.heap.size ≤ w3.heap.size := (hx2.trans hx3).size
  have hhl := hist_len z person
  have hzl := hW.len
  obtain ⟨H, hH⟩ : ∃ H, H = histE z person := ⟨_, rfl⟩
  have hres : looksM z person now = lookM (H.filter (lookQ now)) := by rw [hH]; rfl
  rw [hres]
  rw [← hH] at hs3 hhl ⊢
  clear hown3 hcr hm1 hx1 hx2 hx3 hres hH
  refine loop_rule Tt_ok (fun (k : Nat) w' => k ≤ H.length ∧ Ext w w' ∧ SlE w' A3 H ∧ w3.heap.size ≤ w'.heap.size ∧ MapAt w' b1 Value.string (venc vi (lookM ((H.take k).filter (lookQ now)))))
    (fun k => [(2, .int .i64 now), (7, .map (some b1)), (14, .slice A3 H.length c3), (15, .int .i64 H.length), (16, .int .i64 k)]) (fun k => H.length - k) 0 ⟨by omega, hx3', hs3, Nat.le_refl _, hm3⟩ ⟨rfl, rfl, rfl, rfl, rfl, trivial⟩ ?_
  clear hs3 hm3 hx3'
  rintro k w4 ⟨hk, hx4, hs4, hz4, hm4⟩
  (conv => whnf)
  constructor
  · intro hc
    have hc : k < H.length := by simpa using hc
    obtain ⟨a2, rfl, hce⟩ := hs4.get hc
    have htk := take_next H k hc
    generalize H[k] = e at hce htk
    have hsn : (H.take (k + 1)).filter (lookQ now) = (H.take k).filter (lookQ now) ++ if lookQ now e then [e] else [] := by
      rw [htk, List.filter_append]
      cases h : lookQ now e <;> simp [List.filter_cons, h]
    generalize (H.take (k + 1)).filter (lookQ now) = F1 at hsn
    generalize hF : (H.take k).filter (lookQ now) = F at hsn hm4
    have hgoal : ∀ w', MapAt w' b1 Value.string (venc vi (lookM F1)) → MapAt w' b1 Value.string (venc vi (lookM ((H.take (k + 1)).filter (lookQ now)))) := by
      intro w' h
      have : (H.take (k + 1)).filter (lookQ now) = F1 := by
        rw [hsn, htk, List.filter_append, hF]
        cases h : lookQ now e <;> simp [List.filter_cons, h]
      rw [this]; exact h
    (conv => whnf)
    repeat (refine seq_go Tt_ok ?_; (conv => whnf))
    refine ⟨a2, ⟨rfl, by omega, by omega⟩, ?_⟩; (conv => whnf)
    refine ⟨evC e, ⟨rfl, hce⟩, ?_⟩; (conv => whnf)
    intro b7 w7 hn7; (conv => whnf)
    have e7 := hn7.block
    refine store_ptr Tt_ok (e := ty47) rfl hn7.At rfl rfl rfl (by simp [cellsL, evC, Value.oneCell']) fun w8 h8 ho8 => ?_
    have h8 : At w8 b7 _ (evC e) := h8
    have hx8 : Ext w4 w8 := ho8.ext hn7.ext (by omega)
    have hm8 := hm4.ext hx8
    have hs8 := hs4.ext hx8
    have z8 := hx8.size
    replace hx4 := hx4.trans hx8
    clear hn7 ho8 hm4 hs4 hce
    (conv => whnf)
    refine ⟨_, h8.one rfl, ?_⟩; (conv => whnf)
    refine ⟨_, fun _ => h8.one rfl, ?_⟩; (conv => whnf)
    refine ⟨_, fun _ => h8.one rfl, ?_⟩; (conv => whnf)
    constructor
    · intro hq
      have hq : lookQ now e = true := hq
      rw [hq, if_pos rfl] at hsn
      (conv => whnf)
      refine ⟨_, h8.one rfl, ?_⟩; (conv => whnf)
      refine ⟨_, h8.one rfl, ?_⟩; (conv => whnf)
      refine map_update undSI (key_string undStr) hm8 e.item (vi e.at_) fun w9 hm9 ho9 => ?_
      rw [aset_venc, ← lookM_snoc, ← hsn] at hm9
      have s9 := ho9.size
      (conv => whnf)
      refine ⟨((k + 1 : Nat) : Int), wrap_succ (by omega), ?_⟩; (conv => whnf)
      exact ⟨k + 1, by omega, ⟨by omega, ho9.ext hx4 (by omega), sl_stay hs8 (fun a ha => ho9.block _ (fun e' => by have := (hA3 a ha).1; omega)), by omega, hgoal _ hm9⟩, ⟨rfl, rfl, rfl, rfl, rfl, trivial⟩⟩
    · intro hq
      have hq : lookQ now e = false := hq
      rw [hq] at hsn
      simp only [Bool.false_eq_true, if_false, List.append_nil] at hsn
      rw [← hsn] at hm8
      (conv => whnf)
      refine ⟨((k + 1 : Nat) : Int), wrap_succ (by omega), ?_⟩; (conv => whnf)
      exact ⟨k + 1, by omega, ⟨by omega, hx4, hs8, by omega, hgoal _ hm8⟩, ⟨rfl, rfl, rfl, rfl, rfl, trivial⟩⟩
  · intro hc
    have hc : H.length ≤ k := by simpa using hc
    rw [List.take_of_length_le hc] at hm4
    (conv => whnf)
    exact ⟨b1, rfl, by omega, hm4, hx4⟩
/-- The price as of the last look. -/
def thenAt (z : List Ev) (person item : ByteArray) (now : Int) : Option Int := if tickB now then (lookAt z person item now).bind (priceAt z item) else none
theorem pthen_spec {w : World} {base p : Nat} {c : Cfg} {z : List Ev} (hW : WV w base p c z) (person item : ByteArray) (now : Int) :
    Cal Tryz.prog 31 [.pointer (some ⟨p, 0, none⟩), .string person, .string item, .int .i64 now] w fun r w' => r = optV (thenAt z person item now) ∧ Ext w w' := by
  refine fn_intro Tt_ok Tryz.func31 (by rfl) rfl _ rfl rfl (by rfl) ?_; (conv => whnf)
  refine (ptick_spec now w).mono ?_
  rintro _ w1 ⟨rfl, hx1⟩; (conv => whnf)
  unfold thenAt lookAt
  constructor
  · intro hc
    have hc : tickB now = false := by simpa using hc
    rw [hc]
    (conv => whnf)
    exact ⟨rfl, hx1⟩
  · intro hc
    have hc : tickB now = true := by simpa using hc
    rw [hc, if_pos rfl]
    (conv => whnf)
    refine (plooks_spec (hW.ext hx1) person now).mono ?_
    rintro _ w2 ⟨b, rfl, hb, hm, hx2⟩; (conv => whnf)
    refine ⟨_, map_look2 undSI (key_string undStr) ty3_ok kept_same hm item, ?_⟩
    rw [show ty3.zero = vi 0 from rfl, getD_venc, alook_venc, Option.isSome_map]
    generalize alook (looksM z person now) item = o
    have hx := hx1.trans hx2
    (conv => whnf)
    cases o with
    | none =>
      refine ⟨fun _ => ?_, fun h => (by simp at h)⟩
      (conv => whnf)
      exact ⟨rfl, hx⟩
    | some t =>
      refine ⟨fun h => (by simp at h), fun _ => ?_⟩
      (conv => whnf)
      refine (pas_spec (hW.ext hx) item t).mono ?_
      rintro _ w3 ⟨rfl, hx3⟩
      (conv => whnf)
      exact ⟨rfl, hx.trans hx3⟩
end Go.Proofs.YtbfjlpoeglcmfaaGreatDoor
