/- Several texts in one: Y1, Y2, Y3, Y4. -/
import Derived.Test.YtagijlhciclafaaGreatDoorGM
import Derived.Test.YtagijlhciclafaaGreatDoorGXB
import Derived.Test.YtagijlhciclafaaGreatDoorGH
import Derived.Test.YtagijlhciclafaaGreatDoorGN
import Derived.Test.YtagijlhciclafaaGreatDoorGX
import Derived.Test.YtagijlhciclafaaGreatDoorGC
import Derived.Test.YtagijlhciclafaaGreatDoorGJ
import Derived.Test.YtagijlhciclafaaGreatDoorGK
set_option linter.unusedVariables false
set_option linter.unusedSimpArgs false
namespace Go.Proofs.YtagijlhciclafaaGreatDoor
open Go.Se Go.RowKit Go.Sort
section
variable {α:Type}
def Qp4 (lt:α → α → Bool) (L:List α) : List α := L.mergeSort fun a b => !lt b a
theorem Qde (lt:α → α → Bool) (L:List α) : (Qp4 lt L).Perm L := List.mergeSort_perm _ _
theorem Q2z {lt:α → α → Bool} (h:Go.Sort.SWO lt) (L:List α) : Srt lt (Qp4 lt L) := by
 have := List.pairwise_mergeSort (le := fun a b => !lt b a) (fun a b c h1 h2 => by
  simp only [Bool.not_eq_true'] at *
  exact h.ntrans c b a h2 h1) (fun a b => by
  cases h1 : lt b a with
  | false => rfl
  | true =>
    cases h2 : lt a b with
    | false => rfl
    | true => have := h.trans _ _ _ h1 h2; rw [h.irrefl] at this; cases this) L
 exact this.imp fun h => by simpa using h
theorem Q5b {lt:α → α → Bool} (h:Go.Sort.SWO lt) {F L:List α} (hp:F.Perm L) (hs:Srt lt F) (ht:∀ x ∈ L,∀ y ∈ L,lt x y = false → lt y x = false → x = y) : F = Qp4 lt L :=
 Qjc (hp.trans (Qde lt L).symm) hs (Q2z h L) fun x hx y hy => ht x (hp.mem_iff.1 hx) y (hp.mem_iff.1 hy)
def Qkk (P:α → Prop) [DecidablePred P] (L:List α) : List { x // P x } := L.filterMap fun x => if h : P x then some ⟨x,h⟩ else none
theorem Qp7 {P:α → Prop} [DecidablePred P] : ∀ {L:List α},(∀ x ∈ L,P x) → (Qkk P L).map (·.1) = L
 | [],_ => rfl
 | x :: L,h => by
   have ih := Qp7 (L := L) fun y hy => h y (by simp [hy])
   have hx : P x := h x (by simp)
   unfold Qkk at ih ⊢
   rw [List.filterMap_cons,dif_pos hx]
   simp only [List.map_cons,ih]
theorem Qws {P:α → Prop} [DecidablePred P] : ∀ F : List { x // P x },Qkk P (F.map (·.1)) = F
 | [] => rfl
 | x :: F => by
   have ih := Qws F
   unfold Qkk at ih ⊢
   rw [List.map_cons,List.filterMap_cons,dif_pos x.2]
   simp only [ih]
theorem Q24 {P:α → Prop} [DecidablePred P] {L M:List α} (h:L.Perm M) : (Qkk P L).Perm (Qkk P M) := h.filterMap _
theorem Qfi {P:α → Prop} [DecidablePred P] {L:List α} {x:{ x // P x }} : x ∈ Qkk P L ↔ x.1 ∈ L := by
 unfold Qkk
 rw [List.mem_filterMap]
 constructor
 · rintro ⟨y,hy,h⟩
   split at h
   · cases h; exact hy
   · cases h
 · intro h
   exact ⟨x.1,h,by rw [dif_pos x.2]⟩
theorem Qnx {P:α → Prop} [DecidablePred P] {lt:{ x // P x } → { x // P x } → Bool} (h:Go.Sort.SWO lt) {F:List { x // P x }} {L:List α} (hp:(F.map (·.1)).Perm L) (hs:Srt lt F)
 (ht:∀ x ∈ Qkk P L,∀ y ∈ Qkk P L,lt x y = false → lt y x = false → x = y) : F = Qp4 lt (Qkk P L) := by
 refine Q5b h ?_ hs ht
 have := Q24 (P := P) hp
 rw [Qws] at this
 exact this
end
theorem key_inj {β:Type} {L:List (ByteArray × β)} (h:(L.map (·.1)).Nodup) {x y:ByteArray × β} (hx:x ∈ L) (hy:y ∈ L) (e:x.1 = y.1) : x = y := by
 induction L with
 | nil => simp at hx
 | cons a l ih =>
   rw [List.map_cons,List.nodup_cons] at h
   rcases List.mem_cons.1 hx with h1 | h1 <;> rcases List.mem_cons.1 hy with h2 | h2
   · rw [h1,h2]
   · subst h1; exact absurd (List.mem_map.2 ⟨y,h2,e.symm⟩) h.1
   · subst h2; exact absurd (List.mem_map.2 ⟨x,h1,e⟩) h.1
   · exact ih h.2 h1 h2
instance : DecidablePred Qqe := fun x => by unfold Qqe; exact inferInstance
theorem Q0h {a b:RiS} (h:ltOf Qg5 a b = false) (k:ltOf Qg5 b a = false) : a.1.1 = b.1.1 := by
 have hw : WC Qg5 := by
  rw [Qk0]
  refine WC.lex (WC.flip (Q3i (fun x:RiS => riR x.1) fun x => ?_)) (WC.lex (WC.flip (Q6b fun x:RiS => x.1.2.1)) (Qvc fun x:RiS => x.1.1))
  have := x.2.2.1
  unfold riR
  simp only
  omega
 have e : Qg5 a b = 0 := by
  unfold ltOf at h k
  simp only [decide_eq_false_iff_not] at h k
  have := hw.anti b a
  omega
 rw [Qk0] at e
 unfold Q3m at e
 split at e
 · rename_i h1; exact absurd e h1
 split at e
 · rename_i h1; exact absurd e h1
 exact Qdp.1 e
def Q85 (c:Cfg) (z:List Ev) (now:Int) : List Ri :=
 Qc4 (Qh c.width z).ps ((Qyl c now - 2 * c.span) / Xn c.width) ((Qyl c now - c.span) / Xn c.width) (Qyl c now / Xn c.width) c.floor
  (Qds (Qh c.width z).ps ((Qyl c now - c.span) / Xn c.width) (Qyl c now / Xn c.width))
def Q84 (c:Cfg) (z:List Ev) (now:Int) : List RiS := Qp4 (ltOf Qg5) (Qkk Qqe (Q85 c z now))
theorem Qnp (s:Qac) (a b d f lo hi:Int) : ((Qc4 s a b d f (Qds s lo hi)).map (·.1)).Nodup := by
 have h : (Qc4 s a b d f (Qds s lo hi)).map (·.1) = ((Qds s lo hi).filter fun k => decide (f ≤ (Q7l s a b d k).2.1)) := by
  unfold Qc4
  generalize Qds s lo hi = K
  induction K with
  | nil => rfl
  | cons k K ih =>
    rw [List.map_cons]
    by_cases hq : f ≤ (Q7l s a b d k).2.1
    · rw [List.filter_cons_of_pos (by simpa using hq),List.filter_cons_of_pos (by simpa using hq),List.map_cons,ih]; rfl
    · rw [List.filter_cons_of_neg (by simpa using hq),List.filter_cons_of_neg (by simpa using hq),ih]
 rw [h]
 exact (Qcl _).sublist List.filter_sublist
theorem Q86 {s:Qac} {a b d f lo hi:Int} {F:List RiS} (hp:(F.map (·.1)).Perm (Qc4 s a b d f (Qds s lo hi))) (hs:Srt (ltOf Qg5) F) : F = Qp4 (ltOf Qg5) (Qkk Qqe (Qc4 s a b d f (Qds s lo hi))) :=
 Qnx Qqw hp hs fun x hx y hy h1 h2 => Subtype.ext (key_inj (Qnp s a b d f lo hi) (Qfi.1 hx) (Qfi.1 hy) (Q0h h1 h2))
abbrev Nr := ByteArray × (Int × Int)
def Qmz (x:Nr) : Prop := Qmm 100000000 x.2
instance : DecidablePred Qmz := fun x => by unfold Qmz Qmm; exact inferInstance
abbrev NrS := { x:Nr // Qmz x }
instance : Inhabited NrS := ⟨⟨(⟨#[]⟩,0,1),by unfold Qmz Qmm; simp⟩⟩
def Q6p (a b:Nr) : Int := orL [Qmo b.2 a.2,Qek a.1 b.1]
def Qhq (a b:NrS) : Int := Q6p a.1 b.1
theorem Qqu : Qhq = Q3m (fun a b:NrS => Qmo b.1.2 a.1.2) (fun a b:NrS => Qek a.1.1 b.1.1) := by
 funext a b
 unfold Qhq Q6p Q3m orL
 by_cases h1 : Qmo b.1.2 a.1.2 = 0
 · by_cases h3 : Qek a.1.1 b.1.1 = 0 <;> simp [h1,h3]
 · simp [h1]
theorem Qvt : WC Qhq := by
 rw [Qqu]
 refine WC.lex (WC.flip (Q3i (fun x:NrS => x.1.2) fun x => ?_)) (Qvc fun x:NrS => x.1.1)
 have := x.2.2.2.1
 omega
theorem Qqv : SWO (ltOf Qhq) := Qvt.swo
theorem Q0g {a b:NrS} (h:ltOf Qhq a b = false) (k:ltOf Qhq b a = false) : a.1.1 = b.1.1 := by
 have e : Qhq a b = 0 := by
  unfold ltOf at h k
  simp only [decide_eq_false_iff_not] at h k
  have := Qvt.anti b a
  omega
 rw [Qqu] at e
 unfold Q3m at e
 split at e
 · rename_i h1; exact absurd e h1
 exact Qdp.1 e
def Qfo (S:List Sn) (floor:Int) (a:ByteArray) : List Nr := ((Qdv S a).filter fun b => decide (floor ≤ (Qc0 S a b:Int))).map fun b => (b,Qo8 S a b)
def Qc3 (K:List ByteArray) (m:List Nr) (x:Nr) : List Nr :=
 if x.1 ∈ K then m else match Qd m x.1 with
  | none => Q8 m x.1 x.2
  | some o => if Qyo o x.2 = true then Q8 m x.1 x.2 else m
def Qj3 (S:List Sn) (floor:Int) (K:List ByteArray) : List Nr := (K.flatMap (Qfo S floor)).foldl (Qc3 K) []
def Qsy (S:List Sn) (floor:Int) (items:List ByteArray) : List NrS := Qp4 (ltOf Qhq) (Qkk Qmz (Qj3 S floor (Qbn items)))
theorem Qhn {K:List ByteArray} {Q:Nr → Prop} : ∀ (l:List Nr) (m:List Nr),(m.Pairwise fun x y => x.1 ≠ y.1) → (∀ x ∈ m,x.1 ∉ K ∧ Q x) → (∀ x ∈ l,Q x) →
 ((l.foldl (Qc3 K) m).Pairwise fun x y => x.1 ≠ y.1) ∧ ∀ x ∈ l.foldl (Qc3 K) m,x.1 ∉ K ∧ Q x
 | [],m,hm,hk,_ => ⟨hm,hk⟩
 | y :: l,m,hm,hk,hl => by
   rw [List.foldl_cons]
   have hy := hl y (by simp)
   have hset : y.1 ∉ K → ((Q8 m y.1 y.2).Pairwise fun x y => x.1 ≠ y.1) ∧ ∀ x ∈ Q8 m y.1 y.2,x.1 ∉ K ∧ Q x := fun hyk => ⟨Qag hm,fun x hx => by
    rcases Qa5 hx with h | h
    · rw [h]; exact ⟨hyk,hy⟩
    · exact hk x h⟩
   have hst : ((Qc3 K m y).Pairwise fun x y => x.1 ≠ y.1) ∧ ∀ x ∈ Qc3 K m y,x.1 ∉ K ∧ Q x := by
    unfold Qc3
    split
    · exact ⟨hm,hk⟩
    · next h =>
      split
      · exact hset h
      · split
        · exact hset h
        · exact ⟨hm,hk⟩
   exact Qhn l _ hst.1 hst.2 fun x hx => hl x (by simp [hx])
theorem Q1p {S:List Sn} (hS:S.length < 1000) {floor:Int} {a:ByteArray} : ∀ x ∈ Qfo S floor a,Qmz x := fun x hx => by
 unfold Qfo at hx
 obtain ⟨b,_,rfl⟩ := List.mem_map.1 hx
 have hN : (S.length : Int) * S.length ≤ 100000000 := by
  have : (S.length : Int) * S.length ≤ 1000 * 1000 := Int.mul_le_mul (by omega) (by omega) (by omega) (by omega)
  omega
 exact Q7c hN (by omega) a b
theorem Qof {S:List Sn} (hS:S.length < 1000) (floor:Int) (K:List ByteArray) : ((Qj3 S floor K).map (·.1)).Nodup ∧ ∀ x ∈ Qj3 S floor K,x.1 ∉ K ∧ Qmz x := by
 have h := Qhn (K := K) (Q := Qmz) (K.flatMap (Qfo S floor)) [] (by simp) (by simp) (fun x hx => by
  obtain ⟨a,_,hx⟩ := List.mem_flatMap.1 hx
  exact Q1p hS x hx)
 exact ⟨Xy h.1,h.2⟩
theorem Q8m {S:List Sn} (hS:S.length < 1000) {floor:Int} {items:List ByteArray} {F:List NrS} (hp:(F.map (·.1)).Perm (Qj3 S floor (Qbn items))) (hs:Srt (ltOf Qhq) F) : F = Qsy S floor items :=
 Qnx Qqv hp hs fun x hx y hy h1 h2 => Subtype.ext (key_inj (Qof hS floor _).1 (Qfi.1 hx) (Qfi.1 hy) (Q0g h1 h2))
theorem Q6i {S:List Sn} (hS:S.length < 1000) {floor:Int} {items:List ByteArray} {x:NrS} (h:x ∈ Qsy S floor items) : x.1.1 ∉ items := by
 have h1 := Qfi.1 ((Qde _ _).mem_iff.1 h)
 exact fun h2 => ((Qof hS floor (Qbn items)).2 _ h1).1 (Xq.2 h2)
theorem Qzy {S:List Sn} (hS:S.length < 1000) {floor:Int} {items:List ByteArray} : ((Qsy S floor items).map fun x => x.1.1).Nodup := by
 have h := (Qof hS floor (Qbn items))
 have h1 : ((Qsy S floor items).map fun x => x.1.1).Perm ((Qj3 S floor (Qbn items)).map (·.1)) := by
  have := (Qde (ltOf Qhq) (Qkk Qmz (Qj3 S floor (Qbn items)))).map (·.1)
  rw [Qp7 fun x hx => (h.2 x hx).2] at this
  have := this.map (·.1)
  rw [List.map_map] at this
  exact this
 exact h1.nodup_iff.2 h.1
theorem Q6j {S:List Sn} {floor:Int} : Qsy S floor [] = [] := by
 unfold Qsy
 rw [show Qbn [] = [] by simp [Qbn,Qxl,Q9]]
 simp [Qj3,Qkk,Qp4]
def Qhs (z:List Ev) (person:ByteArray) : List Ev := (Qbj z person).filter fun e => decide (0 < Qs e)
def Qzo (z:List Ev) (person:ByteArray) : List ByteArray := (Qhs z person).map (·.item)
def Qjk (half now:Int) (m:List Ct) (e:Ev) : List Ct := Q8 m e.item ((Qd m e.item).getD 0 + Q6a half now e)
def Qd1 (half now:Int) (l:List Ev) : List Ct := l.foldl (Qjk half now) []
theorem Qgh (half now:Int) (l:List Ev) (e:Ev) : Qd1 half now (l ++ [e]) = Qjk half now (Qd1 half now l) e := by unfold Qd1; rw [List.foldl_append]; rfl
def Qmw (half now:Int) (l:List Ev) (x:ByteArray) : Int := ((l.filter fun e => decide (e.item = x)).map (Q6a half now)).sum
theorem Qnj (half now:Int) (l:List Ev) (e:Ev) (x:ByteArray) : Qmw half now (l ++ [e]) x = Qmw half now l x + if e.item = x then Q6a half now e else 0 := by
 unfold Qmw
 rw [List.filter_append,List.map_append,List.sum_append]
 congr 1
 by_cases h : e.item = x
 · simp [h]
 · simp [h]
theorem Qiy (half now:Int) : ∀ l : List Ev,(Qd1 half now l).Pairwise (fun x y => x.1 ≠ y.1) :=
 Qw (by simp [Qd1]) fun l e ih => by rw [Qgh]; exact Qag ih
theorem Qni (half now:Int) (x:ByteArray) : ∀ l : List Ev,Qd (Qd1 half now l) x = if x ∈ l.map (·.item) then some (Qmw half now l x) else none := by
 refine Qw (by simp [Qd1,Qd]) fun l e ih => ?_
 rw [Qgh,Qnj]
 unfold Qjk
 rw [Xr,List.map_append,List.map_cons,List.map_nil]
 by_cases h : x = e.item
 · subst h
   rw [if_pos rfl,if_pos (by simp),if_pos rfl,ih]
   by_cases h2 : e.item ∈ l.map (·.item)
   · rw [if_pos h2]; rfl
   · rw [if_neg h2]
     have : Qmw half now l e.item = 0 := by
      unfold Qmw
      rw [List.filter_eq_nil_iff.2]
      · rfl
      · intro y hy hq
        exact h2 (List.mem_map.2 ⟨y,hy,by simpa using hq⟩)
     rw [this]; rfl
 · rw [if_neg h,ih]
   have h3 : ¬ e.item = x := fun q => h q.symm
   by_cases h2 : x ∈ l.map (·.item)
   · rw [if_pos h2,if_pos (by simp [h2]),if_neg h3,Int.add_zero]
   · rw [if_neg h2,if_neg (by simp only [List.mem_append,List.mem_singleton]; rintro (q | q); exact h2 q; exact h q)]
theorem Qlj (half now:Int) (x:ByteArray) : ∀ l : List Ev,(∀ e ∈ l,Xx e = true) → 0 ≤ Qmw half now l x ∧ Qmw half now l x ≤ l.length * 5242880 := by
 refine Qw (by simp [Qmw]) fun l e ih hm => ?_
 have h1 := ih fun y hy => hm y (by simp [hy])
 have h2 := Qn3 (half := half) (now := now) (hm e (by simp))
 rw [Qnj,List.length_append,List.length_cons,List.length_nil]
 split
 · constructor
   · omega
   · push_cast; omega
 · constructor
   · omega
   · push_cast; omega
theorem Qli {half now:Int} {l:List Ev} {x:Ct} (h:x ∈ Qd1 half now l) : x.1 ∈ l.map (·.item) ∧ x.2 = Qmw half now l x.1 := by
 have := Qcs (Qiy half now l) (k := x.1) (v := x.2) h
 rw [Qni] at this
 split at this
 · next h1 => exact ⟨h1,(Option.some.inj this).symm⟩
 · cases this
theorem Qqp (name:ByteArray) : ∀ cs : List Ev,∀ s ∈ Qv cs name,s.item.name = name := by
 refine Qw (by simp [Qv]) fun cs e ih => ?_
 rw [Qbc]
 unfold Qez Qj8
 by_cases hn : name = e.item
 · subst hn
   rw [if_pos rfl]
   intro s hs
   rcases List.mem_append.1 hs with hs | hs
   · exact ih s hs
   · rw [List.mem_singleton] at hs
     subst hs
     unfold Qew
     rw [Qu0]
     cases hl : (Qv cs e.item).getLast? with
     | none => rfl
     | some s0 => exact ih s0 (List.mem_of_getLast? hl)
 · rw [if_neg hn]; exact ih
theorem Qw8 {cs:List Ev} {name:ByteArray} {t:Int} (h:(Xz cs name t).2 = true) : (Xz cs name t).1.name = name := by
 unfold Xz at *
 split at h
 · next s hs =>
   split at h
   · cases h
   · next hne =>
     rw [if_neg hne]
     exact Qqp name cs s (List.mem_of_getElem? hs)
 · cases h
theorem Q1c {cs:List Ev} {name:ByteArray} {t:Int} (h:Qb7 cs t name = true) : (Xz cs name t).1.name = name := Qw8 (by
 unfold Qb7 at h
 rw [Bool.and_eq_true] at h
 exact h.1)
theorem Qiz {cs:List Ev} {t:Int} {x:ByteArray} (h:Qb7 cs t x = true) : x ∈ cs.map (·.item) := by
 cases hr : Qv cs x with
 | nil =>
   unfold Qb7 Xz at h
   rw [hr] at h
   simp at h
 | cons s l =>
   obtain ⟨e,he,hi,_⟩ := (Qm5 x s.at_ cs).1 (by rw [hr]; simp)
   exact List.mem_map.2 ⟨e,he,hi⟩
theorem Qq5 : ∀ l : List Ev,(Qis l).Pairwise (fun x y => x.1 ≠ y.1) := by
 refine Qw (by simp [Qis]) fun l e ih => ?_
 rw [Qot]
 unfold Qps
 split
 · exact ih
 · exact Qag ih
theorem Qi2 {z:List Ev} {now:Int} {x:ByteArray} : x ∈ Qb0 z now ↔ Qb7 (Qz z) now x = true := by
 unfold Qb0
 rw [Xq,List.mem_filter]
 exact ⟨fun h => h.2,fun h => ⟨Qiz h,h⟩⟩
def Qmt (rs:List Row) (person item:ByteArray) : Bool := (Qd (X0 rs).done (person,item)).getD false
def Q5x (rs:List Row) (person item:ByteArray) : Bool := (Qd (X0 rs).hidden (person,item)).getD false
def keepR (rs:List Row) (person:ByteArray) (x:Ct) : Bool := !(decide (x.2 ≤ 0) || (Qmt rs person x.1 || Q5x rs person x.1))
def thC (z:List Ev) (now:Int) : List It := (Qb0 z now).map fun n => (Xz (Qz z) n now).1
def Q8v (t:It) : Ct := (t.name,t.born)
def Qs0 (z:List Ev) (now:Int) (q:It → Bool) : List Ct := Qef (((thC z now).filter q).map Q8v)
def Q4j (z:List Ev) (person:ByteArray) (t:It) : Bool := Q5w z person t.maker
def Q8q (c:Cfg) (now:Int) (t:It) : Bool := decide (now - t.born ≤ c.span)
def Q8l (c:Cfg) (z:List Ev) (person:ByteArray) (now:Int) : List Ct := Qef ((Qd1 c.half now (Qhs z person)).filter (keepR (Qh c.width z).rs person))
def Qc1 (c:Cfg) (z:List Ev) (person:ByteArray) (now:Int) (r:Nat) : List ByteArray :=
 if r = 0 then (Qef (Qfp (Qh c.width z).ds (Xn c.half) now)).map (·.1)
 else if r = 1 then (Q84 c z now).map fun x => x.1.1
 else if r = 2 then (Qsy (Qhi c z) 1 (Qzo z person)).map fun x => x.1.1
 else if r = 3 then (Qs0 z now (Q4j z person)).map (·.1)
 else if r = 4 then (Qs0 z now (Q8q c now)).map (·.1)
 else if r = 5 then (Q8l c z person now).map (·.1)
 else []
def Qab (c:Cfg) (z:List Ev) (person:ByteArray) (now r limit:Int) : List ByteArray :=
 if 0 ≤ r ∧ r ≤ 5 ∧ 0 ≤ now ∧ now ≤ 1099511627776 then (Qc1 c z person now r.toNat).take limit.toNat else []
theorem Q1n {z:List Ev} {now:Int} {K:List ByteArray} (hn:K.Nodup) (hm:∀ x,x ∈ K ↔ Qb7 (Qz z) now x = true) : Q9 K = Qb0 z now :=
 Qf5 hn fun x => by
  rw [hm,List.mem_filter]
  exact ⟨fun h => ⟨Qiz h,h⟩,fun h => h.2⟩
theorem Qgp (l:List Ct) : ((Qef l).map (·.1)).Perm (l.map (·.1)) := (Qeu l).map _
theorem Qzf {s:Qjf} (h:s.Pairwise fun x y => x.1 ≠ y.1) (half now:Int) : ((Qfp s half now).map (·.1)).Nodup := by
 have hn := Xy h
 have : ∀ K : List ByteArray,(((K.map fun k => (k,Qbu s half k now)).filter fun x => decide (0 < x.2)).map (·.1)) = K.filter fun k => decide (0 < Qbu s half k now) := by
  intro K
  induction K with
  | nil => rfl
  | cons k K ih =>
    rw [List.map_cons]
    by_cases hq : 0 < Qbu s half k now
    · rw [List.filter_cons_of_pos (by simpa using hq),List.filter_cons_of_pos (by simpa using hq),List.map_cons,ih]
    · rw [List.filter_cons_of_neg (by simpa using hq),List.filter_cons_of_neg (by simpa using hq),ih]
 unfold Qfp
 rw [this]
 exact hn.sublist List.filter_sublist
theorem Qsp (z:List Ev) (now:Int) : (thC z now).map (·.name) = Qb0 z now := by
 unfold thC
 rw [List.map_map]
 conv => rhs; rw [← List.map_id (Qb0 z now)]
 exact List.map_congr_left fun x hx => Q1c (Qi2.1 hx)
theorem Qph (z:List Ev) (now:Int) (q:It → Bool) : ((Qs0 z now q).map (·.1)).Perm (((thC z now).filter q).map (·.name)) := by
 unfold Qs0
 refine (Qgp _).trans ?_
 rw [List.map_map]
 exact List.Perm.refl _
theorem Qro (z:List Ev) (now:Int) (q:It → Bool) : ((Qs0 z now q).map (·.1)).Nodup := by
 refine (Qph z now q).nodup_iff.2 ?_
 have h : (Qb0 z now).Nodup := Qcl _
 rw [← Qsp] at h
 exact h.sublist (List.filter_sublist.map _)
theorem Qi3 {z:List Ev} {now:Int} {q:It → Bool} {x:ByteArray} (h:x ∈ (Qs0 z now q).map (·.1)) : Qb7 (Qz z) now x = true := by
 have h1 := (Qph z now q).mem_iff.1 h
 obtain ⟨t,ht,rfl⟩ := List.mem_map.1 h1
 have h2 := (List.mem_filter.1 ht).1
 have : t.name ∈ (thC z now).map (·.name) := List.mem_map.2 ⟨t,h2,rfl⟩
 rw [Qsp] at this
 exact Qi2.1 this
theorem Qtp {L:List Ct} (h:L.Pairwise fun x y => x.1 ≠ y.1) (q:Ct → Bool) : ((L.filter q).map (·.1)).Nodup := (Xy h).sublist (List.filter_sublist.map _)
theorem Qzw (c:Cfg) (z:List Ev) (person:ByteArray) (now:Int) : ((Q8l c z person now).map (·.1)).Nodup := (Qgp _).nodup_iff.2 (Qtp (Qiy _ _ _) _)
theorem Q17 (c:Cfg) (z:List Ev) (now:Int) : ((Q84 c z now).map fun x => x.1.1).Nodup := by
 have h : ((Q84 c z now).map fun x => x.1.1).Perm (((Qkk Qqe (Q85 c z now)).map (·.1)).map (·.1)) := by
  have := (Qde (ltOf Qg5) (Qkk Qqe (Q85 c z now))).map fun x => x.1.1
  rw [List.map_map]
  exact this
 refine h.nodup_iff.2 ?_
 have hs : ∀ L : List Ri,(((Qkk Qqe L).map (·.1)).map (·.1)).Sublist (L.map (·.1)) := by
  intro L
  induction L with
  | nil => exact List.Sublist.refl _
  | cons x L ih =>
    unfold Qkk at ih ⊢
    rw [List.filterMap_cons]
    by_cases hx : Qqe x
    · rw [dif_pos hx]
      simp only [List.map_cons]
      exact ih.cons_cons _
    · rw [dif_neg hx]
      exact ih.cons _
 exact (Qnp _ _ _ _ _ _ _).sublist (hs _)
theorem Qns {c:Cfg} {z:List Ev} (hS:(Qhi c z).length < 1000) (person:ByteArray) (now:Int) (r:Nat) : (Qc1 c z person now r).Nodup := by
 unfold Qc1
 split
 · refine (Qgp _).nodup_iff.2 (Qzf ?_ _ _)
   rw [(Qcn c.width z).1]
   exact Qq5 _
 split
 · exact Q17 c z now
 split
 · exact Qzy hS
 split
 · exact Qro _ _ _
 split
 · exact Qro _ _ _
 split
 · exact Qzw _ _ _ _
 · exact List.nodup_nil
theorem Qlz {c:Cfg} {z:List Ev} (hS:(Qhi c z).length < 1000) (person:ByteArray) (now r limit:Int) : (Qab c z person now r limit).Nodup := by
 unfold Qab
 split
 · exact (Qns hS person now _).sublist (List.take_sublist _ _)
 · exact List.nodup_nil
theorem Qr0 (c:Cfg) (z:List Ev) (person:ByteArray) (now r limit:Int) : (Qab c z person now r limit).length ≤ limit.toNat := by
 unfold Qab
 split
 · rw [List.length_take]; omega
 · simp
theorem Qnr (c:Cfg) (z:List Ev) (person:ByteArray) (now r limit more:Int) (h0:0 ≤ limit) (h1:0 ≤ more) : Qab c z person now r limit = (Qab c z person now r (limit + more)).take limit.toNat := by
 unfold Qab
 split
 · rw [List.take_take]; congr 1; omega
 · simp
theorem Qrp {z:List Ev} {person:ByteArray} (h:Qbj z person = []) : Qhs z person = [] ∧ Qzo z person = [] := by
 have : Qhs z person = [] := by unfold Qhs; rw [h]; rfl
 exact ⟨this,by unfold Qzo; rw [this]; rfl⟩
theorem Q4k {z:List Ev} {person:ByteArray} (h:Qbj z person = []) (maker:ByteArray) : Q5w z person maker = false := by
 have hf : z.filter (flB person maker) = [] := by
  rw [List.filter_eq_nil_iff]
  intro e he hq
  unfold flB at hq
  simp only [Bool.and_eq_true,Bool.or_eq_true,decide_eq_true_eq] at hq
  have : e ∈ Qbj z person := by
   unfold Qbj hist Qbw
   refine List.mem_filter.2 ⟨List.mem_filter.2 ⟨he,?_⟩,by simpa using hq.1⟩
   unfold peB thB
   rcases hq.2.2 with hk | hk <;> simp [hk]
  rw [h] at this
  cases this
 unfold Q5w
 rw [hf]
 rfl
theorem Qff {c:Cfg} {z:List Ev} {person:ByteArray} (now:Int) (h:Qbj z person = []) : Qc1 c z person now 2 = [] ∧ Qc1 c z person now 3 = [] ∧ Qc1 c z person now 5 = [] := by
 refine ⟨?_,?_,?_⟩
 · show (Qsy (Qhi c z) 1 (Qzo z person)).map _ = []
   rw [(Qrp h).2,Q6j]; rfl
 · show (Qs0 z now (Q4j z person)).map _ = []
   unfold Qs0
   rw [List.filter_eq_nil_iff.2 fun t _ => by unfold Q4j; rw [Q4k h]; simp]
   simp [Qef]
 · show (Q8l c z person now).map _ = []
   unfold Q8l
   rw [(Qrp h).1]
   simp [Qd1,Qef]
theorem Qr3 {c:Cfg} {z:List Ev} {person other:ByteArray} (now limit:Int) (h:Qbj z person = []) (k:Qbj z other = []) (r:Int) : Qab c z person now r limit = Qab c z other now r limit := by
 unfold Qab
 split
 · next hr =>
   congr 1
   obtain ⟨n,rfl⟩ : ∃ n : Nat,r = n := ⟨r.toNat,by omega⟩
   rw [Int.toNat_natCast]
   obtain ⟨h2,h3,h5⟩ := Qff (c := c) now h
   obtain ⟨k2,k3,k5⟩ := Qff (c := c) now k
   rcases n with _ | _ | _ | _ | _ | _ | n
   · rfl
   · rfl
   · rw [h2,k2]
   · rw [h3,k3]
   · rfl
   · rw [h5,k5]
   · omega
 · rfl
theorem Qyt {c:Cfg} {z:List Ev} {person:ByteArray} (now limit:Int) (h:Qbj z person = []) (r:Int) (hr:r = 2 ∨ r = 3 ∨ r = 5) : Qab c z person now r limit = [] := by
 obtain ⟨h2,h3,h5⟩ := Qff (c := c) now h
 unfold Qab
 split
 · rcases hr with rfl | rfl | rfl
   · rw [show (2:Int).toNat = 2 from rfl,h2]; simp
   · rw [show (3:Int).toNat = 3 from rfl,h3]; simp
   · rw [show (5:Int).toNat = 5 from rfl,h5]; simp
 · rfl
theorem Qf3 {c:Cfg} {z:List Ev} {person:ByteArray} {now r limit:Int} {x:ByteArray} (h:x ∈ Qab c z person now r limit) : x ∈ Qc1 c z person now r.toNat := by
 unfold Qab at h
 split at h
 · exact List.mem_of_mem_take h
 · cases h
theorem Q45 {c:Cfg} {z:List Ev} (hS:(Qhi c z).length < 1000) {person:ByteArray} {now limit:Int} {x:ByteArray} (h:x ∈ Qab c z person now 2 limit) : x ∉ Qzo z person := by
 have h1 : x ∈ (Qsy (Qhi c z) 1 (Qzo z person)).map fun x => x.1.1 := Qf3 h
 obtain ⟨y,hy,rfl⟩ := List.mem_map.1 h1
 exact Q6i hS hy
theorem Q46 {c:Cfg} {z:List Ev} {person:ByteArray} {now limit:Int} {x:ByteArray} {r:Int} (hr:r = 3 ∨ r = 4) (h:x ∈ Qab c z person now r limit) : Qb7 (Qz z) now x = true := by
 rcases hr with rfl | rfl
 · exact Qi3 (q := Q4j z person) (Qf3 h)
 · exact Qi3 (q := Q8q c now) (Qf3 h)
theorem Qys {c:Cfg} {z:List Ev} {person:ByteArray} {now limit:Int} {x:ByteArray} (h:x ∈ Qab c z person now 5 limit) : x ∈ Qzo z person ∧ Qmt (Qh c.width z).rs person x = false ∧ Q5x (Qh c.width z).rs person x = false := by
 have h1 : x ∈ (Q8l c z person now).map (·.1) := Qf3 h
 have h2 := (Qgp _).mem_iff.1 h1
 obtain ⟨y,hy,rfl⟩ := List.mem_map.1 h2
 obtain ⟨hy1,hy2⟩ := List.mem_filter.1 hy
 refine ⟨(Qli hy1).1,?_⟩
 unfold keepR at hy2
 simp only [Bool.not_eq_true',Bool.or_eq_false_iff] at hy2
 exact hy2.2
end Go.Proofs.YtagijlhciclafaaGreatDoor
namespace Go.Proofs.YtagijlhciclafaaGreatDoor
open Go.Se Go.RowKit
def Qj6 (e:Ev) : Bool := decide (Qs e ≤ 0)
def dV : Value := .func (.func 172) #[] #[]
theorem Qk2 (e:Ev) (w:World) : Cal Tryz.prog 172 [evV e] w fun r w' => r = .bool (Qj6 e) ∧ Ext w w' := by
 refine Fi Tryz.func172 rfl _ rfl rfl ?_;conv=>whnf
 intro b1 w1 hn1; (conv=>whnf);repeat(refine Sg ?_;(conv=>whnf))
 have h1 : At w1 b1 51 (evC e) := hn1.At
 refine ⟨evC e,⟨rfl,h1.all⟩,?_⟩; (conv=>whnf);repeat(refine Sg ?_;(conv=>whnf))
 refine (Qdh e w1).mono ?_
 rintro _ w2 ⟨rfl,hx2⟩; (conv=>whnf);repeat(refine Sg ?_;(conv=>whnf))
 exact ⟨rfl,hn1.ext.trans hx2⟩
theorem Qq0 (l:List Ev) (A:Option Addr) (c:Nat) (w:World) (hs:SlE w A l) (hl:l.length < 1000000) :
 Cal Tryz.prog 163 [.slice A l.length c,dV] w fun r w' => r = .int .i64 (match l.findIdx? (Qj6) with | some i => (i:Int) | none => -1) ∧ Ext w w' := by
 refine Fi Tryz.func163 rfl _ rfl rfl ?_;conv=>whnf
 refine Qg Qa (fun (k:Nat) w' => k ≤ l.length ∧ Ext w w' ∧ ∀ x ∈ l.take k,Qj6 x = false)
  (fun k => [(0,.slice A l.length c),(1,dV),(7,.int .i64 l.length),(8,.int .i64 (k:Nat))]) (fun k => l.length - k) 0 ⟨Nat.zero_le _,Ext.refl _,by simp⟩ ⟨rfl,rfl,rfl,rfl,trivial⟩ ?_
 rintro k w1 ⟨hk,hx,hall⟩
 conv=>whnf
 constructor
 · intro hlt
   have hlt : k < l.length := by simpa using hlt
   obtain ⟨a,rfl,hc⟩ := (hs.ext hx).get hlt
   have htk := Qmd l k hlt
   have hfi : Qj6 l[k] = true → l.findIdx? (Qj6) = some k := fun h => by
    rw [List.findIdx?_eq_some_iff_getElem]
    refine ⟨hlt,h,fun j hj => ?_⟩
    have hjl : j < l.length := by omega
    have := hall l[j] (by rw [List.mem_take_iff_getElem]; exact ⟨j,by omega,rfl⟩)
    simp [this]
   generalize l[k] = x at hc htk hfi
   (conv=>whnf);repeat(refine Sg ?_;(conv=>whnf))
   refine ⟨a,⟨rfl,by omega,by omega⟩,?_⟩; (conv=>whnf);repeat(refine Sg ?_;(conv=>whnf))
   refine ⟨evC x,⟨rfl,hc⟩,?_⟩; (conv=>whnf);repeat(refine Sg ?_;(conv=>whnf))
   refine (Qk2 x w1).mono ?_
   rintro _ w2 ⟨rfl,hx2⟩; (conv=>whnf);repeat(refine Sg ?_;(conv=>whnf))
   constructor
   · intro h
     rw [hfi h]
     (conv=>whnf);repeat(refine Sg ?_;(conv=>whnf))
     exact ⟨rfl,hx.trans hx2⟩
   · intro h
     have h : Qj6 x = false := h
     (conv=>whnf);repeat(refine Sg ?_;(conv=>whnf))
     refine ⟨_,wrap_succ (by omega),?_⟩; (conv=>whnf);repeat(refine Sg ?_;(conv=>whnf))
     refine ⟨k + 1,by omega,⟨by omega,hx.trans hx2,fun y hy => ?_⟩,⟨rfl,rfl,rfl,rfl,trivial⟩⟩
     rw [htk] at hy
     rcases List.mem_append.1 hy with hy | hy
     · exact hall y hy
     · rw [List.mem_singleton] at hy; rw [hy]; exact h
 · intro hge
   have hge : l.length ≤ k := by simpa using hge
   rw [List.take_of_length_le hge] at hall
   have : l.findIdx? (Qj6) = none := by
    rw [List.findIdx?_eq_none_iff]
    exact hall
   rw [this]
   (conv=>whnf);repeat(refine Sg ?_;(conv=>whnf))
   exact ⟨rfl,hx⟩
set_option maxHeartbeats 2000000 in
theorem Q0j (l:List Ev) (a:Addr) (c base:Nat) (w:World) (hown:Own evC 8 51 base w (some a) c l) (hl:l.length < 1000000) (hany:l.any (Qj6) = true) :
 Cal Tryz.prog 103 [.slice (some a) l.length c,dV] w fun r w' => r = .slice (some a) (l.filter fun e => !Qj6 e).length c ∧ Own evC 8 51 base w' (some a) c (l.filter fun e => !Qj6 e) ∧ Mod (fun k => k = a.block) w w' := by
 have hle := hown.le
 obtain ⟨i0,hi0,hq0,hb0⟩ : ∃ i,∃ (h:i < l.length),Qj6 l[i] = true ∧ ∀ j (hj:j < i),Qj6 (l[j]'(by omega)) = false := by
  cases h : l.findIdx? (Qj6) with
  | none =>
    rw [List.findIdx?_eq_none_iff] at h
    obtain ⟨x,hx,hq⟩ := List.any_eq_true.1 hany
    rw [h x hx] at hq
    cases hq
  | some i =>
    rw [List.findIdx?_eq_some_iff_getElem] at h
    obtain ⟨h1,h2,h3⟩ := h
    exact ⟨i,h1,h2,fun j hj => by simpa using h3 j hj⟩
 have hfi : l.findIdx? (Qj6) = some i0 := by
  rw [List.findIdx?_eq_some_iff_getElem]
  exact ⟨hi0,hq0,fun j hj => by simp [hb0 j hj]⟩
 have hf0 : (l.take (i0 + 1)).filter (fun e => !Qj6 e) = l.take i0 := by
  rw [Qfk _ l i0 hi0,hq0]
  simp only [Bool.not_true,Bool.false_eq_true,if_false,List.append_nil]
  rw [List.filter_eq_self]
  intro x hx
  rw [List.mem_take_iff_getElem] at hx
  obtain ⟨j,hj,rfl⟩ := hx
  rw [hb0 j (by omega)]
  rfl
 refine Fi Tryz.func103 rfl _ rfl rfl ?_;conv=>whnf
 refine (Qq0 l (some a) c w (hown.sl Qae) hl).mono ?_
 rintro _ w1 ⟨rfl,hx1⟩
 rw [hfi]
 replace hown := hown.ext hx1
 (conv=>whnf);repeat(refine Sg ?_;(conv=>whnf))
 constructor
 · intro h
   simp at h
 intro _
 (conv=>whnf);repeat(refine Sg ?_;(conv=>whnf))
 refine ⟨_,wrap_succ (by omega),?_⟩; (conv=>whnf);repeat(refine Sg ?_;(conv=>whnf))
 refine Qg Qa (fun (x:Nat × Nat × List Ev) w' => x.1 ≤ l.length ∧ x.2.1 < x.1 ∧ x.2.2.length = l.length ∧ x.2.2.take x.2.1 = (l.take x.1).filter (fun e => !Qj6 e) ∧ x.2.2.drop x.1 = l.drop x.1 ∧ Own evC 8 51 base w' (some a) c x.2.2 ∧ Mod (fun k => k = a.block) w w')
  (fun | (j,i,U) => [(0,.slice (some a) l.length c),(1,dV),(5,.int .i64 (i:Nat)),(6,.int .i64 (j:Nat))]) (fun x => l.length - x.1) (i0 + 1,i0,l) ⟨by simp only; omega,by simp only; omega,rfl,hf0.symm,rfl,hown,Mod.of_ext hx1⟩ ⟨rfl,rfl,rfl,rfl,trivial⟩ ?_
 clear hown hx1 hf0 hfi hb0 hq0
 rintro ⟨j,i,U⟩ w2 ⟨hj,hij,hUl,hUt,hUd,hown,hM2⟩
 simp only at hj hij hUl hUt hUd hown
 conv=>whnf
 constructor
 · intro hlt
   have hlt : j < l.length := by simpa using hlt
   have hjU : j < U.length := by omega
   obtain ⟨a',ha',hc⟩ := (hown.sl Qae).get hjU
   injection ha' with ha'
   subst ha'
   have hUj : U[j] = l[j] := by
    have h1 : (U.drop j)[0]? = (l.drop j)[0]? := by rw [hUd]
    rw [List.getElem?_drop,List.getElem?_drop,Nat.add_zero,List.getElem?_eq_getElem hjU,List.getElem?_eq_getElem hlt] at h1
    exact Option.some.inj h1
   have hst := Qfk (fun e => !Qj6 e) l j hlt
   rw [← hUt] at hst
   have hUd2 : U.drop (j + 1) = l.drop (j + 1) := by rw [← List.drop_drop,← List.drop_drop,hUd]
   rw [hUj] at hc
   generalize l[j] = v at hc hst
   (conv=>whnf);repeat(refine Sg ?_;(conv=>whnf))
   refine ⟨a,⟨rfl,by omega,by omega⟩,?_⟩; (conv=>whnf);repeat(refine Sg ?_;(conv=>whnf))
   refine ⟨evC v,⟨rfl,hc⟩,?_⟩; (conv=>whnf);repeat(refine Sg ?_;(conv=>whnf))
   intro b7 w3 hn3; (conv=>whnf);repeat(refine Sg ?_;(conv=>whnf))
   refine Qe Qa (e := ty51) rfl hn3.At rfl rfl rfl (Qe0 v) fun w4 h7 ho4 => ?_
   have h7 : At w4 b7 51 (evC v) := h7
   have hx24 : Ext w2 w4 := ho4.ext hn3.ext (by rw [hn3.block]; exact Nat.le_refl _)
   clear ho4 hn3
   (conv=>whnf);repeat(refine Sg ?_;(conv=>whnf))
   refine ⟨evC v,⟨rfl,h7.all⟩,?_⟩; (conv=>whnf);repeat(refine Sg ?_;(conv=>whnf))
   refine (Qk2 v w4).mono ?_
   rintro _ w5 ⟨rfl,hx5⟩
   have hx25 := hx24.trans hx5
   have h75 := h7.ext hx5
   replace hown := hown.ext hx25
   replace hM2 := hM2.trans (Mod.of_ext hx25)
   clear hx24 hx5 hx25 h7
   (conv=>whnf);repeat(refine Sg ?_;(conv=>whnf))
   constructor
   · intro hq
     have hq : Qj6 v = false := by simpa using hq
     rw [hq] at hst
     simp only [Bool.not_false,if_true] at hst
     (conv=>whnf);repeat(refine Sg ?_;(conv=>whnf))
     refine ⟨evC v,⟨rfl,h75.all⟩,?_⟩; (conv=>whnf);repeat(refine Sg ?_;(conv=>whnf))
     refine ⟨a,⟨rfl,by omega,by omega⟩,?_⟩; (conv=>whnf);repeat(refine Sg ?_;(conv=>whnf))
     refine Qsj Qa (e := ty51) rfl rfl Qae Qe0 (k := i) (by omega) v rfl hown fun w6 hown6 ho6 => ?_
     (conv=>whnf);repeat(refine Sg ?_;(conv=>whnf))
     refine ⟨_,wrap_succ (by omega),?_⟩; (conv=>whnf);repeat(refine Sg ?_;(conv=>whnf))
     refine ⟨_,wrap_succ (by omega),?_⟩; (conv=>whnf);repeat(refine Sg ?_;(conv=>whnf))
     refine ⟨(j + 1,i + 1,U.set i v),by simp only; omega,⟨by simp only; omega,by simp only; omega,by simp only; rw [List.length_set]; exact hUl,?_,?_,hown6,hM2.trans (Qi ho6 rfl)⟩,⟨rfl,rfl,rfl,rfl,trivial⟩⟩
     · simp only
       rw [hst,List.take_set,List.take_add_one,List.getElem?_eq_getElem (by omega:i < U.length)]
       rw [List.set_append_right _ _ (by rw [List.length_take]; omega)]
       simp [List.length_take,Nat.min_eq_left (by omega:i ≤ U.length)]
     · simp only
       rw [List.drop_set_of_lt (by omega)]
       exact hUd2
   · intro hq
     have hq : Qj6 v = true := by simpa using hq
     rw [hq] at hst
     simp only [Bool.not_true,Bool.false_eq_true,if_false,List.append_nil] at hst
     (conv=>whnf);repeat(refine Sg ?_;(conv=>whnf))
     refine ⟨_,wrap_succ (by omega),?_⟩; (conv=>whnf);repeat(refine Sg ?_;(conv=>whnf))
     exact ⟨(j + 1,i,U),by simp only; omega,⟨by simp only; omega,by simp only; omega,hUl,hst.symm,hUd2,hown,hM2⟩,⟨rfl,rfl,rfl,rfl,trivial⟩⟩
 intro hge
 have hge : l.length ≤ j := by simpa using hge
 rw [List.take_of_length_le hge] at hUt
 have hil : i < U.length := by omega
 have hfl : (l.filter fun e => !Qj6 e).length = i := by rw [← hUt,List.length_take]; omega
 rw [hfl]
 have hsl : (if ((c:Nat) : Int).toNat = ((i:Nat) : Int).toNat then some a else (some a).map (·.add (((i:Nat) : Int).toNat * 8))) = some (a.add (i * 8)) := by
  rw [Int.toNat_natCast,Int.toNat_natCast,if_neg (by omega)]
  rfl
 (conv=>whnf);repeat(refine Sg ?_;(conv=>whnf))
 refine ⟨⟨by omega,by omega,by omega,by omega⟩,?_⟩; (conv=>whnf);repeat(refine Sg ?_;(conv=>whnf))
 rw [hsl]
 refine Q0b Q75 ty51_ok rfl (by simp [Ql,ty51,Value.oneCell']) Qae hil hown (by simp; omega) fun w6 hown6 ho6 => ?_
 rw [hUt] at hown6
 (conv=>whnf);repeat(refine Sg ?_;(conv=>whnf))
 refine ⟨⟨by omega,by omega,by omega,by omega⟩,?_⟩; (conv=>whnf);repeat(refine Sg ?_;(conv=>whnf))
 refine ⟨?_,hown6,hM2.trans (Qi ho6 rfl)⟩
 have e0 : a.add 0 = a := by unfold Addr.add; simp
 simp [e0]
theorem Qwc (l:List Ev) : (l.filter fun e => !Qj6 e) = l.filter fun e => decide (0 < Qs e) := by
 congr 1
 funext e
 unfold Qj6
 by_cases h : Qs e ≤ 0
 · simp [h]
   try omega
 · simp [h]
   try omega
theorem Qqz (l:List Ev) (A:Option Addr) (c base:Nat) (w:World) (hown:Own evC 8 51 base w A c l) (hl:l.length < 1000000) :
 Cal Tryz.prog 103 [.slice A l.length c,dV] w fun r w' => r = .slice A (l.filter fun e => decide (0 < Qs e)).length c ∧ Own evC 8 51 base w' A c (l.filter fun e => decide (0 < Qs e)) ∧ ∀ w0,Ext w0 w → w0.heap.size ≤ base → Ext w0 w' := by
 by_cases hany : l.any Qj6 = true
 · obtain ⟨a,rfl⟩ : ∃ a,A = some a := by
    cases A with
    | some a => exact ⟨a,rfl⟩
    | none =>
      cases l with
      | nil => simp at hany
      | cons x l => obtain ⟨a,ha,_⟩ := (hown.sl Qae) 0 x rfl; cases ha
   refine (Q0j l a c base w hown hl hany).mono ?_
   rintro _ w' ⟨rfl,ho,hM⟩
   rw [Qwc] at ho ⊢
   refine ⟨rfl,ho,fun w0 hx hb => Qbe hx (T := fun k => k = a.block) (fun k hk => ?_) hM⟩
   have := (hown.block rfl).1
   omega
 · have hany : l.any Qj6 = false := by simpa using hany
   have hf : (l.filter fun e => decide (0 < Qs e)) = l := by
    rw [← Qwc,List.filter_eq_self]
    intro x hx
    have := List.any_eq_false.1 hany x hx
    simpa using this
   have hfi : l.findIdx? Qj6 = none := by
    rw [List.findIdx?_eq_none_iff]
    intro x hx
    simpa using List.any_eq_false.1 hany x hx
   rw [hf]
   refine Fi Tryz.func103 rfl _ rfl rfl ?_;conv=>whnf
   refine (Qq0 l A c w (hown.sl Qae) hl).mono ?_
   rintro _ w1 ⟨rfl,hx1⟩
   rw [hfi]
   (conv=>whnf);repeat(refine Sg ?_;(conv=>whnf))
   constructor
   · intro _
     (conv=>whnf);repeat(refine Sg ?_;(conv=>whnf))
     exact ⟨rfl,hown.ext hx1,fun w0 hx hb => hx.trans hx1⟩
   · intro h; simp at h
theorem Qm7 {w:World} {T:Nat → Prop} {p:Nat} {c:Cfg} {z:List Ev} {v:Value} (h:WQ w T p c z v) (person:ByteArray) :
 Cal Tryz.prog 108 [.pointer (some ⟨p,0,none⟩),.string person] w fun r w' => ∃ A cp,r = .slice A (Qhs z person).length cp ∧ Own evC 8 51 w.heap.size w' A cp (Qhs z person) ∧ Ext w w' := by
 have hz : (Qbw z).length < 1000000 := by
  have h2 := List.length_filter_le peB z
  have := h.len
  unfold Qbw
  omega
 refine Fi Tryz.func108 rfl _ rfl rfl ?_;conv=>whnf
 refine (Qay h).mono ?_
 rintro _ w4 ⟨pw,S4,rfl,hcr,hx4⟩;conv=>whnf
 have he := (Qbv c.width z).2
 refine (Qd7 w4 S4 pw _ _ hcr person (by
  have : (evs (Qh c.width z).rs).length = (Qbw z).length := by rw [he]
  simp [evs] at this
  omega)).mono ?_
 rintro _ w5 ⟨A5,c5,rfl,ho5,hx5⟩
 rw [he] at ho5 ⊢
 rw [show hist (Qbw z) person = Qbj z person from rfl] at ho5 ⊢
 have hhl : (Qbj z person).length < 1000000 := Nat.lt_of_le_of_lt (List.length_filter_le _ _) hz
 conv=>whnf
 refine (Qqz _ A5 c5 w4.heap.size w5 ho5 hhl).mono ?_
 rintro _ w6 ⟨rfl,ho6,hx6⟩
 conv=>whnf
 have hx := hx6 w (hx4.trans hx5) hx4.size
 rw [show (Qbj z person).filter (fun e => decide (0 < Qs e)) = Qhs z person from rfl] at ho6 ⊢
 exact ⟨A5,c5,rfl,ho6.base hx4.size,hx⟩
end Go.Proofs.YtagijlhciclafaaGreatDoor
namespace Go.Proofs.YtagijlhciclafaaGreatDoor
open Go.Se Go.RowKit Go.Shelf Go.Sort Go.Maps Go.WideElems
def byT (x:ByteArray) : List UInt8 := x.data.toList
theorem Q6m {a b:ByteArray} (h:byT a = byT b) : a = b := by
 have := congrArg List.toArray h
 unfold byT at this
 simp at this
 cases a; cases b
 simpa using this
theorem Qm6 {d e:Array (List UInt8)} : ∀ m : Nat,(∀ j,j < m → d[j]! = e[j]!) → Lib.compactUpTo d m = Lib.compactUpTo e m
 | 0,_ => rfl
 | m + 1,h => by
   rw [Lib.compactUpTo_succ,Lib.compactUpTo_succ,Qm6 m fun j hj => h j (by omega)]
   have hk : Lib.keeps d m = Lib.keeps e m := by
    unfold Lib.keeps
    rw [h m (by omega),h (m - 1) (by omega)]
   rw [hk,h m (by omega)]
theorem Qmr : ∀ l : List ByteArray,Srt bLt l → ∃ K : List ByteArray,Lib.compact (l.map byT) = K.map byT ∧ K.Nodup ∧ (∀ x,x ∈ K ↔ x ∈ l) ∧ Srt bLt K := by
 refine Qw (fun _ => ⟨[],rfl,List.nodup_nil,by simp,Srt.nil⟩) fun l a ih hs => ?_
 obtain ⟨K,h1,h2,h3,h4⟩ := ih hs.left
 have hup : Lib.compactUpTo ((l ++ [a]).map byT).toArray l.length = K.map byT := by
  rw [← h1]
  unfold Lib.compact
  rw [List.length_map]
  refine Qm6 _ fun j hj => ?_
  rw [getElem!_pos _ j (by simp; omega),getElem!_pos _ j (by simpa using hj)]
  simp only [List.getElem_toArray,List.getElem_map,List.getElem_append_left hj]
 have hlast : ((l ++ [a]).map byT).toArray[l.length]! = byT a := by
  rw [getElem!_pos _ l.length (by simp)]
  simp
 have hc : Lib.compact ((l ++ [a]).map byT) = K.map byT ++ (if Lib.keeps ((l ++ [a]).map byT).toArray l.length then [byT a] else []) := by
  unfold Lib.compact
  rw [List.length_map,List.length_append,List.length_cons,List.length_nil,Lib.compactUpTo_succ,hup,hlast]
 rw [hc]
 have hsa : ∀ u ∈ l,bLt a u = false := fun u hu => hs.across u hu a (by simp)
 cases hk : Lib.keeps ((l ++ [a]).map byT).toArray l.length with
 | true =>
   have hne : a ∉ l := by
    intro ha
    rcases List.eq_nil_or_concat l with rfl | ⟨l0,b,hb⟩
    · simp at ha
    · have hb : l = l0 ++ [b] := by simpa using hb
      have hab : a ≠ b := by
       rintro rfl
       unfold Lib.keeps at hk
       rw [decide_eq_true_eq] at hk
       rcases hk with hk | hk
       · rw [hb] at hk; simp at hk
       · apply hk
         rw [hlast,getElem!_pos _ (l.length - 1) (by simp; omega)]
         simp [hb]
      rcases (by rw [hb,List.mem_append,List.mem_singleton] at ha; exact ha : a ∈ l0 ∨ a = b) with h | h
      · have q1 : bLt b a = false := by
         have := hs.left
         rw [hb] at this
         exact this.across a h b (by simp)
        have q2 : bLt a b = false := hsa b (by rw [hb]; simp)
        exact hab (Qa4 q2 q1)
      · exact hab h
   refine ⟨K ++ [a],by simp,?_,fun x => ?_,?_⟩
   · rw [List.nodup_append]
     exact ⟨h2,by simp,fun u hu v hv => by
      rw [List.mem_singleton] at hv
      subst hv
      rintro rfl
      exact hne ((h3 _).1 hu)⟩
   · rw [List.mem_append,List.mem_append,h3]
   · exact Srt.append h4 (Srt.one a) fun u hu v hv => by
      rw [List.mem_singleton] at hv
      subst hv
      exact hsa u ((h3 u).1 hu)
 | false =>
   have hin : a ∈ l := by
    unfold Lib.keeps at hk
    rw [decide_eq_false_iff_not] at hk
    rcases List.eq_nil_or_concat l with rfl | ⟨l0,b,hb⟩
    · exact absurd (.inl rfl) hk
    · have hb : l = l0 ++ [b] := by simpa using hb
      have e : ((l ++ [a]).map byT).toArray[l.length]! = ((l ++ [a]).map byT).toArray[l.length - 1]! := Classical.byContradiction fun hne => hk (.inr hne)
      rw [hlast,getElem!_pos _ (l.length - 1) (by simp; omega)] at e
      have e2 : byT a = byT b := by rw [e]; simp [hb]
      rw [Q6m e2,hb]
      simp
   refine ⟨K,by simp,h2,fun x => ?_,h4⟩
   rw [h3,List.mem_append,List.mem_singleton]
   constructor
   · exact .inl
   · rintro (h | h)
     · exact h
     · rw [h]; exact hin
theorem Qtf (l:List ByteArray) : Lib.compact ((Q9 l).map byT) = (Qbn l).map byT := by
 obtain ⟨K,h1,h2,h3,h4⟩ := Qmr (Q9 l) (Qdy l)
 rw [h1]
 have : K = Qbn l := by
  rw [← Qf5 h2 fun x => (h3 x).trans Qf7]
  exact Qb5 (List.Perm.refl _) h4
 rw [this]
theorem Qxi (l:List ByteArray) (A:Option Addr) (c base:Nat) (w:World) (hown:Own Qba 1 9 base w A c (Q9 l)) (hl:l.length < 1000000) :
 Cal Tryz.prog 74 [.slice A (Q9 l).length c] w fun r w' => r = .slice A (Qbn l).length c ∧ SlT w' A (Qbn l) ∧ ∀ w0,Ext w0 w → w0.heap.size ≤ base → Ext w0 w' := by
 by_cases h0 : l = []
 · subst h0
   have e1 : Q9 [] = [] := Qev
   have e2 : Qbn [] = [] := by simp [Qbn,Qxl,Qev]
   rw [e1,e2]
   refine Qbz ⟨_,Tryz.func74,rfl,rfl⟩ (Tryz.slices_Compact_string_empty A c w) ?_
   rintro w' rfl
   exact ⟨rfl,Sl.nil,fun w0 h _ => h⟩
 · have hpos : 0 < l.length := List.length_pos_iff.2 h0
   have hll : (Q9 l).length = l.length := (Qap l).length_eq
   rcases hown.2 with ⟨_,h1⟩ | ⟨g,cap,cur,hv,hb,hg,hc1,hc2,hc3,hc4⟩
   · omega
   injection hv with hA _ hcc
   subst hA
   subst hcc
   have hset := Qtf l
   have hsl : ((Q9 l).map byT).length = (Q9 l).length := List.length_map _
   have hkl : (Qbn l).length ≤ l.length := Qkg l
   obtain ⟨n,hn⟩ : ∃ n,n = (Q9 l).length - (Qbn l).length := ⟨_,rfl⟩
   have hH : Holds encStr w g 0 ((Q9 l).map byT).toArray := holds_of_block hg (by rw [hsl]; unfold byT; rw [← Qf9,← hc4,Nat.mul_one])
   have hcall := Tryz.slices_Compact_string g 0 c ((Q9 l).map byT) w hH (by rw [hsl]; omega) (by rw [hsl]; exact hc1)
   rw [hset,hsl,List.length_map,← hn] at hcall
   refine Qbz ⟨_,Tryz.func74,rfl,rfl⟩ hcall ?_
   rintro w' ⟨q,rfl⟩
   have hM : (Qbn l).map byT ++ List.replicate n [] = (Qbn l ++ List.replicate n (⟨#[]⟩ : ByteArray)).map byT := by
    rw [List.map_append,List.map_replicate]; rfl
   rw [hM]
   have hMl : (Qbn l ++ List.replicate n (⟨#[]⟩ : ByteArray)).length = (Q9 l).length := by
    rw [List.length_append,List.length_replicate]; omega
   generalize hW : Qbn l ++ List.replicate n (⟨#[]⟩ : ByteArray) = M at hMl ⊢
   have hgr : putRow encStr (Sort.ahead w q) g 0 (M.map byT).toArray = grow (putRow encStr (Sort.ahead w q) g 0 (M.map byT).toArray) #[] := by rw [grow_empty]
   rw [hgr]
   refine ⟨rfl,?_,fun w0 hx hb0 => ?_⟩
   · have hrow := ownsRow_sorted (w := w) (n := q) (os := #[]) (ss := (Q9 l).map byT) (ts := M.map byT) (by rw [List.length_map,List.length_map]; exact hMl) hb hg (by rw [hsl]; exact hc1) hc2 hc3
     rw [hsl,← hMl] at hrow
     have hb2 : (M.map byT).map encStr = M.flatMap Qba := by rw [Qf9]; rfl
     rw [hb2] at hrow
     obtain ⟨A',c',he,ho⟩ := Qb2 (enc := Qba) (l := M) hrow rfl rfl
     cases he
     have hs := (ho.sl Q7)
     intro i x hi
     refine hs i x ?_
     rw [← hW,List.getElem?_append_left (List.getElem?_eq_some_iff.1 hi).1]
     exact hi
   · have hg2 := grownBy_sorted (w := w) (g := g) (n := q) (os := #[]) (M.map byT).toArray
     exact Xc hx hg2 fun k hk => by cases hk; omega
theorem Qx8 (a b:ByteArray) (w:World) : Cal Tryz.prog 136 [.string a,.string b] w fun r w' => r = .bool (bLt a b) ∧ w' = w := by
 refine Fi Tryz.func136 rfl _ rfl rfl ?_;conv=>whnf
 refine (Qe5 a w).mono ?_
 rintro _ w1 ⟨rfl,hw1⟩
 subst hw1
 conv=>whnf
 refine ⟨Unit,fun _ => .bool false,fun _ w' => w' = w1,(),fun _ => (Qe5 b w1).mono fun r w' h => ⟨(),h.1,h.2⟩,?_⟩
 intro _ w2 h2
 have hw2 : w2 = w1 := by
  rcases h2 with ⟨_,h⟩ | ⟨_,h⟩
  · exact h
  · exact h
 subst hw2
 clear h2
 conv=>whnf
 exact ⟨by simp [bLt],rfl⟩
theorem Qld (a:ByteArray) (w:World) : Cal Tryz.prog 137 [.string a] w fun r w' => r = .bool false ∧ w' = w := by
 refine Fi Tryz.func137 rfl _ rfl rfl ?_;conv=>whnf
 exact ⟨by simp,rfl⟩
theorem Q2o {l:List ByteArray} (hs:Srt bLt l) {x:ByteArray} {i:Nat} (hi:i ≤ l.length) (h1:∀ t,t < i → ∀ (ht:t < l.length),bLt l[t] x = true) (h2:∀ t,i ≤ t → ∀ (ht:t < l.length),bLt l[t] x = false) : (x ∈ l ↔ ∃ ht : i < l.length,l[i] = x) := by
 constructor
 · intro hx
   obtain ⟨t,ht,rfl⟩ := List.getElem_of_mem hx
   rcases Nat.lt_or_ge t i with h | h
   · have := h1 t h ht
     rw [Xi] at this
     cases this
   · have hil : i < l.length := by omega
     refine ⟨hil,?_⟩
     have q1 := h2 i (Nat.le_refl _) hil
     have q2 : bLt l[t] l[i] = false := by
      rcases Nat.lt_or_ge i t with h3 | h3
      · exact List.pairwise_iff_getElem.1 hs i t hil ht h3
      · obtain rfl : i = t := by omega
        exact Xi _
     exact Qa4 q1 q2
 · rintro ⟨ht,rfl⟩
   exact List.getElem_mem ht
theorem Qz2 (l:List ByteArray) (hs:Srt bLt l) (A:Option Addr) (c:Nat) (x:ByteArray) (w:World) (hl:l.length < 1000000) (hsl:SlT w A l) :
 Cal Tryz.prog 77 [.slice A l.length c,.string x] w fun r w' => (∃ k : Nat,r = .tuple #[.int .i64 (k:Nat),.bool (decide (x ∈ l))]) ∧ Ext w w' := by
 refine Fi Tryz.func77 rfl _ rfl rfl ?_;conv=>whnf
 refine Qg Qa (fun (p:Nat × Nat) w' => p.1 ≤ p.2 ∧ p.2 ≤ l.length ∧ (∀ t,t < p.1 → ∀ (ht:t < l.length),bLt l[t] x = true) ∧ (∀ t,p.2 ≤ t → ∀ (ht:t < l.length),bLt l[t] x = false) ∧ w' = w)
  (fun | (i,j) => [(0,.slice A l.length c),(1,.string x),(6,.int .i64 l.length),(7,.int .i64 (i:Nat)),(8,.int .i64 (j:Nat))]) (fun p => p.2 - p.1) (0,l.length) ⟨Nat.zero_le _,Nat.le_refl _,fun t h => by simp at h,fun t h ht => by simp at h; omega,rfl⟩ ⟨rfl,rfl,rfl,rfl,rfl,trivial⟩ ?_
 rintro ⟨i,j⟩ w1 ⟨hij,hjn,hi,hj,hw1⟩
 simp only at hij hjn hi hj
 subst hw1
 conv=>whnf
 constructor
 · intro hlt
   have hlt : i < j := by simpa using hlt
   obtain ⟨h,hh⟩ : ∃ h,h = (i + j) / 2 := ⟨_,rfl⟩
   have hhl : h < l.length := by omega
   conv=>whnf
   refine ⟨((i + j : Nat) : Int),Qaz (by omega),?_⟩;conv=>whnf
   refine ⟨((i + j : Nat) : Int),Qn8 (by omega),?_⟩;conv=>whnf
   refine ⟨(h:Int),by rw [hh]; exact Qiv _,?_⟩;conv=>whnf
   refine ⟨(h:Int),Qn7 (by omega),?_⟩;conv=>whnf
   obtain ⟨a,hA,hc⟩ := hsl.get hhl
   subst hA
   refine ⟨a,⟨rfl,by omega,by omega⟩,?_⟩;conv=>whnf
   refine ⟨.string l[h],Qr hc,?_⟩;conv=>whnf
   refine (Qx8 l[h] x w1).mono ?_
   rintro _ w2 ⟨rfl,hw2⟩
   subst hw2
   conv=>whnf
   constructor
   · intro hq
     have hq : bLt l[h] x = true := hq
     conv=>whnf
     refine ⟨_,wrap_succ (by omega),?_⟩;conv=>whnf
     refine ⟨(h + 1,j),by simp only; omega,⟨by simp only; omega,hjn,fun t ht htl => ?_,hj,rfl⟩,⟨rfl,rfl,rfl,rfl,rfl,trivial⟩⟩
     cases hb : bLt l[t] x with
     | true => rfl
     | false =>
       have hht : bLt l[h] l[t] = false := by
        rcases Nat.lt_or_ge t h with h3 | h3
        · exact List.pairwise_iff_getElem.1 hs t h htl hhl h3
        · obtain rfl : t = h := by have : t < h + 1 := ht; omega
          exact Xi _
       rw [Qgc hht hb] at hq
       cases hq
   · intro hq
     have hq : bLt l[h] x = false := hq
     conv=>whnf
     refine ⟨(i,h),by simp only; omega,⟨by simp only; omega,by simp only; omega,hi,fun t ht htl => ?_,rfl⟩,⟨rfl,rfl,rfl,rfl,rfl,trivial⟩⟩
     have ht : h ≤ t := ht
     have hht : bLt l[t] l[h] = false := by
      rcases Nat.lt_or_ge h t with h3 | h3
      · exact List.pairwise_iff_getElem.1 hs h t hhl htl h3
      · obtain rfl : t = h := by omega
        exact Xi _
     exact Qgc hht hq
 · intro hge
   have hge : j ≤ i := by simpa using hge
   obtain rfl : i = j := by omega
   have hin := Q2o hs hjn hi hj
   conv=>whnf
   by_cases hil : i < l.length
   · obtain ⟨a,hA,hc⟩ := hsl.get hil
     subst hA
     refine ⟨a,fun _ => ⟨rfl,by omega,by omega⟩,?_⟩;conv=>whnf
     refine ⟨.string l[i],fun _ => Qr hc,?_⟩;conv=>whnf
     refine ⟨a,fun _ _ => (show _ ∧ _ from ⟨rfl,by omega,by omega⟩),?_⟩;conv=>whnf
     refine ⟨.string l[i],fun _ _ => Qr hc,?_⟩;conv=>whnf
     refine ⟨Unit,fun _ => .bool false,fun _ w' => w' = w1,(),fun _ _ => (Qld l[i] w1).mono fun r w' h => ⟨(),h.1,h.2⟩,?_⟩
     intro _ w2 h2
     have hw2 : w2 = w1 := by
      rcases h2 with ⟨_,h⟩ | ⟨_,h⟩
      · exact h
      · exact h
     subst hw2
     clear h2
     conv=>whnf
     refine ⟨Unit,fun _ => .bool false,fun _ w' => w' = w2,(),fun _ _ _ => (Qld x w2).mono fun r w' h => ⟨(),h.1,h.2⟩,?_⟩
     intro _ w3 h3
     have hw3 : w3 = w2 := by
      rcases h3 with ⟨_,h⟩ | ⟨_,h⟩
      · exact h
      · exact h
     subst hw3
     clear h3
     conv=>whnf
     refine ⟨⟨i,?_⟩,Ext.refl _⟩
     have hlt' : decide ((i:Int) < (l.length : Int)) = true := by simpa using hil
     have hd : decide (x ∈ l) = decide (l[i] = x) := by
      rw [Bool.eq_iff_iff,decide_eq_true_iff,decide_eq_true_iff,hin]
      exact ⟨fun ⟨_,h⟩ => h,fun h => ⟨hil,h⟩⟩
     rw [hd]
     simp [hlt',hil]
   · have hd : decide (x ∈ l) = false := by
      rw [decide_eq_false_iff_not,hin]
      exact fun ⟨h,_⟩ => hil h
     have hg0 : ∀ {q:Prop},decide ((i:Int) < (l.length : Int)) = true → q := fun h => by simp at h; omega
     refine ⟨⟨0,0,none⟩,fun h => hg0 h,?_⟩;conv=>whnf
     refine ⟨.string x,fun h => hg0 h,?_⟩;conv=>whnf
     refine ⟨⟨0,0,none⟩,fun _ h => hg0 h,?_⟩;conv=>whnf
     refine ⟨.string x,fun _ h => hg0 h,?_⟩;conv=>whnf
     refine ⟨Unit,fun _ => .bool false,fun _ w' => w' = w1,(),fun _ h => hg0 h,?_⟩
     intro _ w2 h2
     have hw2 : w2 = w1 := by
      rcases h2 with ⟨_,h⟩ | ⟨_,h⟩
      · exact h
      · exact h
     subst hw2
     clear h2
     conv=>whnf
     refine ⟨Unit,fun _ => .bool false,fun _ w' => w' = w2,(),fun _ _ h => hg0 h,?_⟩
     intro _ w3 h3
     have hw3 : w3 = w2 := by
      rcases h3 with ⟨_,h⟩ | ⟨_,h⟩
      · exact h
      · exact h
     subst hw3
     clear h3
     conv=>whnf
     refine ⟨⟨i,?_⟩,Ext.refl _⟩
     rw [hd]
     have hlt' : decide ((i:Int) < (l.length : Int)) = false := by simp; omega
     simp [hlt']
     omega
end Go.Proofs.YtagijlhciclafaaGreatDoor
