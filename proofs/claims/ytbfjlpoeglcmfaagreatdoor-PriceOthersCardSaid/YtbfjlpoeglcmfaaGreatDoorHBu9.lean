import Derived.Test.YtbfjlpoeglcmfaaGreatDoorHBu8

/- The law BudgetApart. -/
set_option linter.unusedVariables false
set_option linter.unusedSimpArgs false
namespace Go.Proofs.YtbfjlpoeglcmfaaGreatDoor
open Go.Se Go.RowKit

/-- Events of unlike identities: all of them count. -/
theorem once_alike {z : List Ev} (hm : ∀ x ∈ z, mayB x = true) (hi : z.Pairwise (fun a b => idE a ≠ idE b)) : (onceL z).Perm z := by
  have h1 := once_is hm
  refine h1.perm (l' := z) (z' := z) ⟨hi, fun y hy => ⟨y, hy, rfl⟩, fun x => ⟨fun hx => ⟨hx, fun y hy he => ?_⟩, fun h => h.1⟩⟩ (fun x => Iff.rfl)
  rw [ids_eq hi hy hx he]
  exact better_irrefl x
/-! ### Which events are counted, seen through a filter -/
theorem srt_filter {z : List Ev} (h : Srt lessB z) (q : Ev → Bool) : Srt lessB (z.filter q) := List.Pairwise.sublist List.filter_sublist h
theorem ids_filter {z : List Ev} (h : z.Pairwise (fun a b => idE a ≠ idE b)) (q : Ev → Bool) : (z.filter q).Pairwise (fun a b => idE a ≠ idE b) := h.sublist List.filter_sublist
/-- Two lists of counted events are alike where what is left of both is. -/
theorem anew_filter {l l' : List Ev} (hm : ∀ x ∈ l, mayB x = true) {q : Ev → Bool} (hp : ((leftL (onceL l)).filter q).Perm ((leftL (onceL l')).filter q)) : (anewL l).filter q = (anewL l').filter q :=
  sorted_ids (((anew_perm l).filter q).trans (hp.trans ((anew_perm l').filter q).symm)) (ids_filter (anew_ids hm) q) (srt_filter (anew_srt l) q) (srt_filter (anew_srt l') q)
theorem gone_mem {a b : List Ev} (h : ∀ x, x.kind = 14 → (x ∈ a ↔ x ∈ b)) (p : ByteArray) : goneB a p = goneB b p := by
  unfold goneB
  rw [Bool.eq_iff_iff, List.any_eq_true, List.any_eq_true]
  constructor
  · rintro ⟨x, hx, h1⟩
    simp only [Bool.and_eq_true, decide_eq_true_eq] at h1
    exact ⟨x, (h x h1.1).1 hx, by simpa using h1⟩
  · rintro ⟨x, hx, h1⟩
    simp only [Bool.and_eq_true, decide_eq_true_eq] at h1
    exact ⟨x, (h x h1.1).2 hx, by simpa using h1⟩
theorem left_perm {a b : List Ev} (h : a.Perm b) : (leftL a).Perm (leftL b) := by
  unfold leftL
  have : keepB a = keepB b := by
    funext e
    unfold keepB
    rw [gone_perm h]
  rw [this]
  exact h.filter _
/-- A thing's event, and a person's that was shown on the day. -/
def shQ (person : ByteArray) (now : Int) (e : Ev) : Bool := peB e && decide (e.person = person) && seenQ now e
theorem shown_filter (z : List Ev) (person : ByteArray) (now : Int) : shownL z person now = (z.filter (shQ person now)).map (·.item) := by
  unfold shownL histE hist peopleE
  rw [List.filter_filter, List.filter_filter]
  congr 1
  apply List.filter_congr
  intro e _
  unfold shQ
  cases peB e <;> cases decide (e.person = person) <;> cases seenQ now e <;> rfl
/-- What a person is told of the budget hangs on the things' events and on what was shown. -/
theorem mk_things {z z' : List Ev} (h : z.filter thB = z'.filter thB) (now : Int) : mkAt z now = mkAt z' now := by
  funext x
  unfold mkAt itemAt thingsE
  rw [h]
def ownE (person : ByteArray) (now : Int) (e : Ev) : Bool :=
  (((decide (e.kind = 11) || decide (e.kind = 12)) || decide (e.kind = 13)) || decide (e.kind = 14)) || (decide (e.kind = 0) && decide (e.person = person) && decide (e.at_.tdiv 86400 = now.tdiv 86400))
theorem apart_filter {l : List Ev} (hm : ∀ x ∈ l, mayB x = true) (hi : l.Pairwise (fun a b => idE a ≠ idE b)) (person : ByteArray) (now : Int) {q : Ev → Bool} (hq : ∀ e, q e = true → ownE person now e = true) :
    (anewL l).filter q = (anewL (l.filter (ownE person now))).filter q := by
  refine anew_filter hm ?_
  have hm' : ∀ x ∈ l.filter (ownE person now), mayB x = true := fun x hx => hm x (List.mem_filter.1 hx).1
  have h1 := left_perm (once_alike hm hi)
  have h2 := left_perm (once_alike hm' (ids_filter hi _))
  refine (h1.filter q).trans (List.Perm.trans ?_ (h2.filter q).symm)
  unfold leftL
  have hg : ∀ p, goneB (l.filter (ownE person now)) p = goneB l p := gone_mem fun x hx => by
    rw [List.mem_filter]
    exact ⟨fun h => h.1, fun h => ⟨h, by simp [ownE, hx]⟩⟩
  have hk : keepB (l.filter (ownE person now)) = keepB l := by
    funext e
    unfold keepB
    rw [hg]
  rw [hk, List.filter_filter, List.filter_filter, List.filter_filter]
  refine List.Perm.of_eq (List.filter_congr fun e _ => ?_)
  cases hqe : q e
  · simp
  · simp [hq e hqe]
theorem sh_own {person : ByteArray} {now : Int} {e : Ev} (h : shQ person now e = true) : ownE person now e = true := by
  unfold shQ seenQ at h
  simp only [Bool.and_eq_true, decide_eq_true_eq] at h
  simp [ownE, h]
theorem th_own {person : ByteArray} {now : Int} {e : Ev} (h : thB e = true) : ownE person now e = true := by
  unfold thB at h
  simp only [decide_eq_true_eq] at h
  rcases h with h | h | h <;> simp [ownE, h]
theorem left_cong {b : Bd} {z z' : List Ev} {now : Int} (h : mkAt z now = mkAt z' now) (l : List ByteArray) (x : ByteArray) : leftN b z now l x = leftN b z' now l x := by
  unfold leftN
  rw [h]
theorem esame_spec (a b : Ev) (w : World) : Cal Tryz.prog 28 [evV a, evV b] w fun r w' => r = .bool (decide (a.src = b.src) && decide (a.num = b.num)) ∧ Ext w w' := by
  refine fn_intro Tt_ok Tryz.func28 (by rfl) rfl _ rfl rfl (by rfl) ?_; (conv => whnf)
  intro b1 w1 hn1; (conv => whnf)
  intro b2 w2 hn2; (conv => whnf)
  have h1 := hn1.At.ext hn2.ext
  have h2 := hn2.At
  refine ⟨_, h1.one rfl, ?_⟩; (conv => whnf)
  refine ⟨_, h2.one rfl, ?_⟩; (conv => whnf)
  refine ⟨_, fun _ => h1.one rfl, ?_⟩; (conv => whnf)
  refine ⟨_, fun _ => h2.one rfl, ?_⟩; (conv => whnf)
  exact ⟨rfl, hn1.ext.trans hn2.ext⟩
theorem budgetApart_spec (c : Cfg) (l : List Ev) (person item : ByteArray) (now : Int) (b : Bd) (A : Option Addr) (cap : Nat) (w : World) (hg0 : Gl w) (hs : SlE w A l) (hn : i64ok' now) :
    Cal Tryz.prog 8 [cfgV c, .slice A l.length cap, .string person, .string item, .int .i64 now, bdV b] w fun r w' => r = .bool true ∧ Ext w w' := by
  refine fn_intro Tt_ok Tryz.func8 (by rfl) rfl _ rfl rfl (by rfl) ?_; (conv => whnf)
  intro b1 w1 hn1; (conv => whnf)
  intro b2 w2 hn2; (conv => whnf)
  refine (llives_spec w2 (hg0.ext (hn1.ext.trans hn2.ext))).mono ?_
  rintro _ w3 ⟨rfl, hx3⟩; (conv => whnf)
  refine ⟨fun h => (by simp at h), fun _ => ?_⟩
  (conv => whnf)
  have hc1 : At w3 b1 _ (cfgC c) := (hn1.At.ext hn2.ext).ext hx3
  have hb1 : At w3 b2 _ (bdC b) := hn2.At.ext hx3
  have hx := (hn1.ext.trans hn2.ext).trans hx3
  refine ⟨cfgC c, ⟨rfl, hc1.all⟩, ?_⟩; (conv => whnf)
  refine (lmade_spec c l A cap w3 (hg0.ext hx) (hs.ext hx)).mono ?_
  rintro r w4 ⟨hx4, hr⟩
  replace hx := hx.trans hx4
  replace hb1 := hb1.ext hx4
  replace hc1 := hc1.ext hx4
  clear hn1 hn2 hx3 hx4
  rcases hr with ⟨_, rfl⟩ | ⟨hok, p, base, rfl, hW⟩
  · (conv => whnf)
    refine ⟨_, eqRun_ptr_nil undWp _ _ _, ?_⟩; (conv => whnf)
    refine ⟨_, fun _ => rfl, ?_⟩; (conv => whnf)
    refine ⟨fun _ => ?_, fun h => (by simp at h)⟩
    (conv => whnf)
    exact ⟨rfl, hx⟩
  obtain ⟨k1, _, k3, k4⟩ := okL_iff.1 hok
  (conv => whnf)
  refine ⟨_, eqRun_ptr_nil undWp _ _ _, ?_⟩; (conv => whnf)
  refine ⟨_, fun _ => rfl, ?_⟩; (conv => whnf)
  refine ⟨fun _ => ?_, fun hq => ?_⟩
  · (conv => whnf)
    exact ⟨rfl, hx⟩
  (conv => whnf)
  refine loop_rule Tt_ok (fun (i : Nat × Option Addr × Nat) w' => i.1 ≤ l.length ∧ Ext w4 w' ∧ Own evC 8 47 w4.heap.size w' i.2.1 i.2.2 ((l.take i.1).filter (ownE person now)))
    (fun i => [(1, .slice A l.length cap), (2, .string person), (3, .string item), (4, .int .i64 now), (6, .pointer (some ⟨b1, 0, none⟩)), (11, .pointer (some ⟨b2, 0, none⟩)), (13, .pointer (some ⟨p, 0, none⟩)), (14, .slice i.2.1 ((l.take i.1).filter (ownE person now)).length i.2.2), (15, .int .i64 i.1)]) (fun i => l.length - i.1) (0, none, 0)
    ⟨by simp, Ext.refl _, Own.nil⟩ ⟨rfl, rfl, rfl, rfl, rfl, rfl, rfl, rfl, rfl, trivial⟩ ?_
  rintro ⟨k, A5, c5⟩ w5 ⟨hk, hx5, hown5⟩
  simp only at hk hown5
  (conv => whnf)
  constructor
  · intro hlt
    have hlt : k < l.length := by simpa using hlt
    obtain ⟨a, rfl, hce⟩ := (hs.ext (hx.trans hx5)).get hlt
    have htk := take_next l k hlt
    have hme := k3 l[k] (List.getElem_mem hlt)
    generalize l[k] = e at hce htk hme
    have hat := (may_iff.1 hme).at_
    have hsn : (l.take (k + 1)).filter (ownE person now) = (l.take k).filter (ownE person now) ++ if ownE person now e then [e] else [] := by
      rw [htk, List.filter_append]
      cases h : ownE person now e <;> simp [List.filter_cons, h]
    have hLl : ((l.take k).filter (ownE person now)).length ≤ 40 := by
      have := List.length_filter_le (ownE person now) (l.take k)
      rw [List.length_take] at this
      omega
    generalize (l.take k).filter (ownE person now) = L at hown5 hsn hLl ⊢
    (conv => whnf)
    repeat (refine seq_go Tt_ok ?_; (conv => whnf))
    refine ⟨a, ⟨rfl, by omega, by omega⟩, ?_⟩; (conv => whnf)
    refine ⟨_, cells_at hce (k := 3) rfl, ?_⟩; (conv => whnf)
    refine ⟨a, fun _ _ => ⟨rfl, by omega, by omega⟩, ?_⟩; (conv => whnf)
    refine ⟨_, fun _ _ => cells_at hce (k := 4) rfl, ?_⟩; (conv => whnf)
    refine ⟨a, fun _ _ => ⟨rfl, by omega, by omega⟩, ?_⟩; (conv => whnf)
    refine ⟨_, fun _ _ => cells_at hce (k := 2) rfl, ?_⟩; (conv => whnf)
    refine ⟨e.at_.tdiv 86400, fun _ _ => ⟨by decide, wrap_eq rfl (tdiv_small ⟨by omega, by omega⟩ (by decide))⟩, ?_⟩; (conv => whnf)
    refine ⟨now.tdiv 86400, fun _ _ => ⟨by decide, wrap_eq rfl (tdiv_small hn (by decide))⟩, ?_⟩; (conv => whnf)
    constructor
    · intro hq
      have hq : ownE person now e = true := hq
      rw [hq] at hsn
      (conv => whnf)
      refine ⟨a, ⟨rfl, by omega, by omega⟩, ?_⟩; (conv => whnf)
      refine ⟨evC e, ⟨rfl, hce⟩, ?_⟩; (conv => whnf)
      intro b7 w7 hn7; (conv => whnf)
      have hx7 := hx5.trans hn7.ext
      refine append_row rowEv (l := L) (news := [e]) rfl (hown5.ext hn7.ext) rfl (rowEv.new1 (x := e) hn7) (by simp; omega) hx7.size fun A8 c8 w8 hown8 hg8 hA8 => ?_
      (conv => whnf)
      refine ⟨((k + 1 : Nat) : Int), wrap_succ (by omega), ?_⟩; (conv => whnf)
      exact ⟨(k + 1, A8, c8), by simp; omega, ⟨by simp; omega, ext_grown hx7 hg8 (own_ge hown5), by rw [hsn]; exact hown8⟩, ⟨rfl, rfl, rfl, rfl, rfl, rfl, rfl, by rw [hsn]; rfl, rfl, trivial⟩⟩
    · intro hq
      have hq : ownE person now e = false := hq
      rw [hq] at hsn
      simp only [Bool.false_eq_true, if_false, List.append_nil] at hsn
      (conv => whnf)
      refine ⟨((k + 1 : Nat) : Int), wrap_succ (by omega), ?_⟩; (conv => whnf)
      exact ⟨(k + 1, A5, c5), by simp; omega, ⟨by simp; omega, hx5, by rw [hsn]; exact hown5⟩, ⟨rfl, rfl, rfl, rfl, rfl, rfl, rfl, by rw [hsn]; rfl, rfl, trivial⟩⟩
  intro hge
  have hge : l.length ≤ k := by simpa using hge
  rw [List.take_of_length_le hge] at hown5 ⊢
  have hOl : (l.filter (ownE person now)).length ≤ 40 := by have := List.length_filter_le (ownE person now) l; omega
  have hs5 := hown5.sl evC_len
  replace hx := hx.trans hx5
  replace hb1 := hb1.ext hx5
  replace hc1 := hc1.ext hx5
  replace hW := hW.ext hx5
  generalize hO : l.filter (ownE person now) = O at hs5 hOl ⊢
  clear hown5
  (conv => whnf)
  refine loop_rule Tt_ok (fun (i : Nat) w' => i ≤ l.length ∧ Ext w5 w' ∧ ∀ j m (hj : j < l.length) (hm : m < j), j < i → idE l[j] ≠ idE (l[m]'(by omega)))
    (fun i => [(1, .slice A l.length cap), (2, .string person), (3, .string item), (4, .int .i64 now), (6, .pointer (some ⟨b1, 0, none⟩)), (11, .pointer (some ⟨b2, 0, none⟩)), (13, .pointer (some ⟨p, 0, none⟩)), (14, .slice A5 O.length c5), (17, .int .i64 i)]) (fun i => l.length - i) 0
    ⟨by omega, Ext.refl _, fun j m hj hm h => by omega⟩ ⟨rfl, rfl, rfl, rfl, rfl, rfl, rfl, rfl, rfl, trivial⟩ ?_
  rintro i w6 ⟨hi, hx6, hall⟩
  (conv => whnf)
  constructor
  · intro hlt
    have hlt : i < l.length := by simpa using hlt
    (conv => whnf)
    refine loop_rule Tt_ok (fun (j : Nat) w' => j ≤ i ∧ Ext w5 w' ∧ ∀ m (hm : m < i), m < j → idE l[i] ≠ idE (l[m]'(by omega)))
      (fun j => [(1, .slice A l.length cap), (2, .string person), (3, .string item), (4, .int .i64 now), (6, .pointer (some ⟨b1, 0, none⟩)), (11, .pointer (some ⟨b2, 0, none⟩)), (13, .pointer (some ⟨p, 0, none⟩)), (14, .slice A5 O.length c5), (17, .int .i64 i), (18, .int .i64 j)]) (fun j => i - j) 0
      ⟨by omega, hx6, fun m hm h => by omega⟩ ⟨rfl, rfl, rfl, rfl, rfl, rfl, rfl, rfl, rfl, rfl, trivial⟩ ?_
    rintro j w7 ⟨hj, hx7, hall2⟩
    (conv => whnf)
    constructor
    · intro hlt2
      have hlt2 : j < i := by simpa using hlt2
      obtain ⟨a, rfl, hce⟩ := hs.get hlt
      obtain ⟨a', ha', hce'⟩ := hs.get (show j < l.length by omega)
      obtain rfl : a = a' := by simpa using ha'
      (conv => whnf)
      refine draw_rule .same [0, 1, 2, 3, 4, 5, 6, 7] [8] Tt_ok mixed (by kernel_rfl) (by first | (intro h; cases h; done) | (intro _; rfl)) ?_; (conv => whnf)
      replace hx7 := hx7.drew
      generalize w7.drew = w8 at hx7 ⊢
      have hxx := hx.trans hx7
      refine ⟨a, ⟨rfl, by omega, by omega⟩, ?_⟩; (conv => whnf)
      refine ⟨evC l[i], ⟨rfl, hxx.cells hce⟩, ?_⟩; (conv => whnf)
      refine ⟨a, ⟨rfl, by omega, by omega⟩, ?_⟩; (conv => whnf)
      refine ⟨evC (l[j]'(by omega)), ⟨rfl, hxx.cells hce'⟩, ?_⟩; (conv => whnf)
      refine (esame_spec l[i] (l[j]'(by omega)) w8).mono ?_
      rintro _ w9 ⟨rfl, hx9⟩
      (conv => whnf)
      constructor
      · intro _
        (conv => whnf)
        exact ⟨rfl, hxx.trans hx9⟩
      · intro hq
        have hne : idE l[i] ≠ idE (l[j]'(by omega)) := fun h => by
          unfold idE at h
          simp only [Prod.mk.injEq] at h
          simp [h.1, h.2] at hq
        (conv => whnf)
        refine ⟨((j + 1 : Nat) : Int), wrap_succ (by omega), ?_⟩; (conv => whnf)
        refine ⟨j + 1, by omega, ⟨by omega, hx7.trans hx9, fun m hm hmj => ?_⟩, ⟨rfl, rfl, rfl, rfl, rfl, rfl, rfl, rfl, rfl, rfl, trivial⟩⟩
        by_cases e : m = j
        · subst e; exact hne
        · exact hall2 m hm (by omega)
    · intro hge2
      have hge2 : i ≤ j := by simpa using hge2
      (conv => whnf)
      refine ⟨((i + 1 : Nat) : Int), wrap_succ (by omega), ?_⟩; (conv => whnf)
      refine ⟨i + 1, by omega, ⟨by omega, hx7, fun j' m hj' hm h => ?_⟩, ⟨rfl, rfl, rfl, rfl, rfl, rfl, rfl, rfl, rfl, trivial⟩⟩
      by_cases e : j' = i
      · subst e; exact hall2 m hm (by omega)
      · exact hall j' m hj' hm (by omega)
  intro hge2
  have hge2 : l.length ≤ i := by simpa using hge2
  have hids : l.Pairwise (fun a b => idE a ≠ idE b) := by
    rw [List.pairwise_iff_getElem]
    intro m j hm hj hmj
    exact fun e => hall j m hj hmj (by omega) e.symm
  have hsh := shown_filter (anewL l) person now
  rw [apart_filter k3 hids person now (q := shQ person now) (fun e h => sh_own h), ← shown_filter, hO] at hsh
  have hmk := mk_things (apart_filter k3 hids person now (q := thB) (fun e h => th_own h)) now
  rw [hO] at hmk
  replace hx := hx.trans hx6
  replace hb1 := hb1.ext hx6
  replace hc1 := hc1.ext hx6
  replace hW := hW.ext hx6
  replace hs5 := hs5.ext hx6
  have hmO : ∀ e ∈ O, mayB e = true := fun e he => by rw [← hO] at he; exact k3 e (List.mem_filter.1 he).1
  clear hall hO
  (conv => whnf)
  refine ⟨cfgC c, ⟨rfl, hc1.all⟩, ?_⟩; (conv => whnf)
  refine (made_spec c k4 O A5 c5 w6 (hg0.ext hx) hs5 (by omega) hmO).mono ?_
  rintro _ w7 ⟨p', rfl, hW', hx7⟩
  replace hx := hx.trans hx7
  replace hb1 := hb1.ext hx7
  replace hW := hW.ext hx7
  (conv => whnf)
  refine ⟨_, fun _ => eqRun_ptr_nil undWp _ _ _, ?_⟩; (conv => whnf)
  refine ⟨fun h => (by simp at h), fun _ => ?_⟩
  (conv => whnf)
  refine draw_rule .ext [0, 1, 2, 3, 5, 6, 7, 8, 4, 9, 10, 11, 12, 13, 14, 15, 16, 18, 19, 20, 21, 22, 17] [23, 24, 25, 26] Tt_ok mixed (by kernel_rfl) (by first | (intro h; cases h; done) | (intro _; rfl)) ?_; (conv => whnf)
  replace hx := hx.drew
  replace hb1 := hb1.ext (Ext.refl w7).drew
  replace hW := hW.ext (Ext.refl w7).drew
  replace hW' := hW'.ext (Ext.refl w7).drew
  generalize w7.drew = w8 at hx hb1 hW hW' ⊢
  refine (bShown_spec hW' person item now hn).mono ?_
  rintro _ w9 ⟨rfl, hx9⟩
  refine ⟨hx9, ?_⟩; (conv => whnf)
  refine (bShown_spec (hW.ext hx9) person item now hn).mono ?_
  rintro _ w10 ⟨rfl, hx10⟩
  refine ⟨hx10, ?_⟩; (conv => whnf)
  replace hx := (hx.trans hx9).trans hx10
  replace hb1 := (hb1.ext hx9).ext hx10
  replace hW := (hW.ext hx9).ext hx10
  replace hW' := (hW'.ext hx9).ext hx10
  refine ⟨bdC b, fun _ => ⟨rfl, hb1.all⟩, ?_⟩; (conv => whnf)
  refine ⟨bdC b, fun _ => ⟨rfl, hb1.all⟩, ?_⟩; (conv => whnf)
  refine ⟨Unit, fun _ => (.int .i64 (if (tickB now && bdB b) = true then leftN b (anewL O) now (shownL (anewL O) person now) item else 0)), fun _ w' => Ext w10 w', (), fun hg => ((bLeft_spec b hW' person item now hn)).mono fun r w' h => ⟨(), h.1, h.2⟩, ?_⟩
  intro _ w11 h2
  have hx11 : Ext w10 w11 := by
    rcases h2 with ⟨_, h⟩ | ⟨_, h⟩
    · exact h
    · rw [h]; exact Ext.refl _
  clear h2
  refine ⟨hx11, ?_⟩
  (conv => whnf)
  refine ⟨Unit, fun _ => (.int .i64 (if (tickB now && bdB b) = true then leftN b (anewL l) now (shownL (anewL l) person now) item else 0)), fun _ w' => Ext w11 w', (), fun hg => ((bLeft_spec b (hW.ext hx11) person item now hn)).mono fun r w' h => ⟨(), h.1, h.2⟩, ?_⟩
  intro _ w12 h2
  have hx12 : Ext w11 w12 := by
    rcases h2 with ⟨_, h⟩ | ⟨_, h⟩
    · exact h
    · rw [h]; exact Ext.refl _
  clear h2
  (conv => whnf)
  refine ⟨?_, (hx.trans hx11).trans hx12⟩
  rw [hsh, left_cong hmk]
  simp
end Go.Proofs.YtbfjlpoeglcmfaaGreatDoor
