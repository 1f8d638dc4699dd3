/- Several texts in one: Rd3, Pl1, Rd1, Rd2, Pl2, Pl3, Pl4. -/
import Derived.Test.YtoancknoinilaaaGreatDoorGF
import Derived.Laws.IdiomRangeMap
import Derived.Test.YtoancknoinilaaaGreatDoorHKeyL
set_option linter.unusedVariables false
set_option linter.unusedSimpArgs false
namespace Go.Proofs.YtoancknoinilaaaGreatDoor
open Go.Se Go.RowKit
theorem Qi2 (a b:Int) : IntKind.i64.wrap (IntKind.i64.wrap a + b) = IntKind.i64.wrap (a + b) := by
 simp only [IntKind.wrap,IntKind.bits,IntKind.signed]
 simp
 split <;> split <;> split <;> omega
theorem Qwy (a b:Int) : IntKind.i64.wrap (a + IntKind.i64.wrap b) = IntKind.i64.wrap (a + b) := by
 rw [Int.add_comm,Qi2,Int.add_comm]
theorem Q16 : IntKind.i64.wrap 0 = 0 := by decide
def Q7 (age half:Int) : Int := if age < 0 then 0 else if 20 < age / max half 1 then 0 else (1048576:Int).fdiv (2 ^ (age / max half 1).toNat)
theorem Qg8 (age half:Int) (ha:-4611686018427387904 ≤ age ∧ age ≤ 4611686018427387904) (w:World) :
 Cal Tryz.prog 166 [.int .i64 age,.int .i64 half] w fun r w' => r = .int .i64 (Q7 age half) ∧ w' = w := by
 have hm : max half 1 ≠ 0 := by omega
 refine Fi Tryz.func166 rfl _ rfl rfl ?_;conv=>whnf
 constructor
 · intro hc
   have hc : age < 0 := by simpa using hc
   conv=>whnf
   exact ⟨by rw [Q7,if_pos hc],rfl⟩
 · intro hc
   have hc : ¬ age < 0 := by simpa using hc
   have h1 : age.tdiv (max half 1) = age / max half 1 := Int.tdiv_eq_ediv_of_nonneg (by omega)
   have h2 : 0 ≤ age / max half 1 := Int.ediv_nonneg (by omega) (by omega)
   have h3 : age / max half 1 ≤ age := Int.ediv_le_self _ (by omega)
   have hw : Q7 age half = if 20 < age / max half 1 then 0 else (1048576:Int).fdiv (2 ^ (age / max half 1).toNat) := by rw [Q7,if_neg hc]
   rw [hw]
   clear hw
   conv=>whnf
   refine ⟨age / max half 1,⟨hm,wrap_eq h1.symm ⟨by omega,by omega⟩⟩,?_⟩;conv=>whnf
   generalize age / max half 1 = n at h2 h3 ⊢
   constructor
   · intro hn
     have hn : 20 < n := by simpa using hn
     conv=>whnf
     exact ⟨by rw [if_pos hn],rfl⟩
   · intro hn
     have hn : ¬ 20 < n := by simpa using hn
     have hmin : min n.toNat IntKind.i64.bits = n.toNat := by simp only [IntKind.bits]; omega
     conv=>whnf
     refine ⟨(1048576:Int).fdiv (2 ^ n.toNat),⟨h2,by rw [hmin]⟩,?_⟩;conv=>whnf
     exact ⟨by rw [if_neg hn],rfl⟩
def Qml (half now:Int) (r:List (Int × Int)) : Int := (r.map fun x => x.2 * Q7 (now - x.1) half).sum
theorem Qwi {l m:List Int} (h:l.Perm m) : l.sum = m.sum := by
 induction h with
 | nil => rfl
 | cons a _ ih => simp [ih]
 | swap a b l => simp only [List.sum_cons]; omega
 | trans _ _ h1 h2 => exact h1.trans h2
theorem Qxh {half now:Int} {r s:List (Int × Int)} (h:r.Perm s) : Qml half now r = Qml half now s := Qwi (h.map _)
def Qg6 (s:Qsc) (half:Int) (key:ByteArray) (now:Int) : Int := IntKind.i64.wrap (Qml half now ((Qe s key).getD []))
theorem Q05 {P:Program} {w:World} {mt kt et:TypeId} (ht:P.underlying mt = some (.map kt et)) {R:Value → World → Prop}
 (h:∀ w',Ext w w' → w'.heap[w.heap.size]? = some (.mapIter none 0 #[] 0) → R (.pointer (some ⟨w.heap.size,0,none⟩)) w') : Qjv P (Instr.range mt (.map none)) w R := by
 refine ⟨_,_,Go.run_range_nilMap w mt kt et ht,h _ ((Below.refl _ _).alloc (Nat.le_refl _) _) (heap_alloc_new w _)⟩
theorem Q2v {P:Program} {w:World} {r:Nat} {a b:Nat} {s:Array Nat} {ty:TypeId} (hr:w.heap[r]? = some (.mapIter none a s b)) {R:Value → World → Prop} (h:R (.tuple #[.bool false]) w) : Qjv P (Instr.next (.pointer (some ⟨r,0,none⟩)) false ty) w R := by
 refine ⟨_,_,?_,h⟩
 simp only [Instr.next,getObj,Sem.run_bind,Sem.run,hr,Result.andThen]
 rfl
theorem Qyz {vs L:List (Int × Int)} (h:(X9 vi vs).Perm (X9 vi L)) : vs.Perm L := by
 have h1 := h.map (fun x:Int × Value => (x.1,match x.2 with | .int _ n => n | _ => 0))
 simpa [X9,List.map_map,Function.comp_def,vi] using h1
theorem Qy1 (w:World) (S:Nat → Prop) (p:Nat) (half n:Int) (s:Qsc) (h:Qvb w S p half n s) (key:ByteArray) (now:Int) (hnow:0 ≤ now ∧ now ≤ 1099511627776) (ht:∀ r,Qe s key = some r → ∀ x ∈ r,0 ≤ x.1 ∧ x.1 ≤ 1099511627776) :
 Cal Tryz.prog 158 [.pointer (some ⟨p,0,none⟩),.string key,.int .i64 now] w fun r w' => r = .int .i64 (Qg6 s half key now) ∧ Ext w w' := by
 obtain ⟨bm,h⟩ := h
 have hplt := h.head.lt
 have hhead := h.head
 refine Fi Tryz.func158 rfl _ rfl rfl ?_;conv=>whnf
 constructor
 · intro hc
   have hc : now < 0 := by simpa using hc
   omega
 intro _
 conv=>whnf
 refine ⟨.map (some bm),h.head.one rfl,?_⟩;conv=>whnf
 rcases h.sums.look X4 Q33 (Qv Xm) (e := ty281) ty281_ok rfl key with ⟨hno,hrd⟩ | ⟨b,m,Sk,hsome,hrd,hIv,hSk,_⟩
 · have hres : Qg6 s half key now = 0 := by unfold Qg6; rw [hno]; exact Q16
   rw [hres]
   refine ⟨_,hrd .same Qs,?_⟩;conv=>whnf
   refine Q05 Qx3 fun w2 hx2 hr2 => ?_
   generalize w.heap.size = r at hr2 ⊢
   conv=>whnf
   refine Qg Qa (fun (_:Unit) w' => w' = w2) (fun _ => [(19,.pointer (some ⟨r,0,none⟩)),(7,.int .i64 0)]) (fun _ => 0) () rfl ⟨rfl,rfl,trivial⟩ ?_
   rintro _ w3 rfl
   conv=>whnf
   refine Q2v hr2 ?_
   conv=>whnf
   constructor
   · intro hh; cases hh
   intro _
   conv=>whnf
   exact ⟨rfl,hx2⟩
 · have hm := hIv.2
   have ht := ht m hsome
   have hres : Qg6 s half key now = IntKind.i64.wrap (Qml half now m) := by unfold Qg6; rw [hsome]; rfl
   rw [hres]
   refine ⟨_,hrd .same Qs,?_⟩;conv=>whnf
   refine map_range Qx3 hm fun w3 hi3 hx3 => ?_
   have hrw : w.heap.size ≤ w.heap.size := Nat.le_refl _
   generalize hr : w.heap.size = r at hi3 ⊢
   conv=>whnf
   refine Qg Qa (fun (q:List (Int × Int) × Int) w' => Ext w w' ∧ Iter w' r b vi (X9 vi m) (X9 vi q.1) ∧ q.2 = IntKind.i64.wrap (Qml half now q.1))
    (fun | (vs,z) => [(0,.pointer (some ⟨p,0,none⟩)),(2,.int .i64 now),(19,.pointer (some ⟨r,0,none⟩)),(7,.int .i64 z)]) (fun q => m.length - q.1.length) ([],0) ⟨hx3,hi3,Q16.symm⟩ ⟨rfl,rfl,rfl,rfl,trivial⟩ ?_
   clear hi3 hx3
   rintro ⟨vs,z⟩ w4 ⟨hx4,hi4,hz⟩
   simp only at hi4 hz
   conv=>whnf
   refine Qf6 hi4 (fun hp => ?_) (fun x w5 hin hnew hlt hi5 ho5 hen => ?_)
   · have hp := Qyz hp
     conv=>whnf
     constructor
     · intro hh; cases hh
     intro _
     conv=>whnf
     exact ⟨by rw [hz,Qxh hp],hx4⟩
   · obtain ⟨y,hy,rfl⟩ := List.mem_map.1 hin
     have hlt : vs.length < m.length := by simpa [X9] using hlt
     have hvs : X9 vi vs ++ [(y.1,vi y.2)] = X9 vi (vs ++ [y]) := by simp [X9]
     rw [hvs] at hi5
     have hx5 := ho5.ext hx4 (by omega)
     have hty := ht y hy
     have hsn : IntKind.i64.wrap (Qml half now (vs ++ [y])) = IntKind.i64.wrap (z + IntKind.i64.wrap (y.2 * Q7 (now - y.1) half)) := by
      rw [hz,Qi2,Qwy]
      simp [Qml]
     conv=>whnf
     constructor
     · intro _
       conv=>whnf
       refine Qbz (hen w5 rfl rfl) ?_
       conv=>whnf
       refine ⟨now - y.1,wrap_eq rfl ⟨by omega,by omega⟩,?_⟩;conv=>whnf
       refine ⟨_,(hhead.ext hx5).one rfl,?_⟩;conv=>whnf
       refine (Qg8 (now - y.1) half ⟨by omega,by omega⟩ w5).mono ?_
       rintro _ _ ⟨rfl,rfl⟩
       conv=>whnf
       refine ⟨_,rfl,?_⟩;conv=>whnf
       refine ⟨_,rfl,?_⟩;conv=>whnf
       exact ⟨(vs ++ [y],_),by simp; omega,⟨hx5,hi5,hsn.symm⟩,⟨rfl,rfl,rfl,rfl,trivial⟩⟩
     · intro hh; cases hh
instance memDec (a:ByteArray) (l:List ByteArray) : Decidable (a ∈ l) := decidable_of_iff (l.any (fun b => decide (b = a)) = true) (by simp)
def wpB (e:Ev) : Bool := decide (0 < Qo e)
theorem Q6a {e:Ev} (h:wpB e = true) : e.kind = 1 ∨ e.kind = 2 ∨ e.kind = 3 ∨ e.kind = 4 := by
 have h : 0 < Qo e := by simpa [wpB] using h
 unfold Qo at h
 by_cases h1 : e.kind = 1
 · exact .inl h1
 by_cases h2 : e.kind = 2
 · exact .inr (.inl h2)
 by_cases h3 : e.kind = 3
 · exact .inr (.inr (.inl h3))
 by_cases h4 : e.kind = 4
 · exact .inr (.inr (.inr h4))
 rw [if_neg h1,if_neg h2,if_neg h3,if_neg h4] at h
 omega
def Q0b (l:List Ev) : Qsc := l.foldl (fun s e => Qpv s e.item e.at_ (Qo e)) []
def Qy6 (width:Int) (l:List Ev) : Qam := l.foldl (fun s e => Qon s (e.item,e.at_ / Q8 width) (Qo e)) []
def Qf9 (l:List Ev) : Ses := l.foldl (fun s e => Q2e s e.person e.at_ e.item) []
theorem Qsr (l:List Ev) (e:Ev) : Q0b (l ++ [e]) = Qpv (Q0b l) e.item e.at_ (Qo e) := by unfold Q0b; rw [List.foldl_append]; rfl
theorem Qtc (width:Int) (l:List Ev) (e:Ev) : Qy6 width (l ++ [e]) = Qon (Qy6 width l) (e.item,e.at_ / Q8 width) (Qo e) := by unfold Qy6; rw [List.foldl_append]; rfl
theorem Qsk (l:List Ev) (e:Ev) : Qf9 (l ++ [e]) = Q2e (Qf9 l) e.person e.at_ e.item := by unfold Qf9; rw [List.foldl_append]; rfl
theorem Qka (width:Int) (z:List Ev) : (Qq width z).ds = Q0b (z.filter wpB) ∧ (Qq width z).ps = Qy6 width (z.filter wpB) ∧ (Qq width z).ss = Qf9 (z.filter wpB) := by
 induction z using Qy with
 | h0 => exact ⟨rfl,rfl,rfl⟩
 | h1 l a ih =>
   rw [Qb5,List.filter_append]
   unfold Qcy
   cases hw : wpB a with
   | true =>
     have hk := Q6a hw
     have h0 : 0 < Qo a := by simpa [wpB] using hw
     have e1 : [a].filter wpB = [a] := by simp [hw]
     rw [e1,Qsr,Qtc,Qsk,if_neg (by omega),if_neg (by omega),if_pos h0,← ih.1,← ih.2.1,← ih.2.2]
     exact ⟨rfl,rfl,rfl⟩
   | false =>
     have h0 : ¬ 0 < Qo a := by simpa [wpB] using hw
     have e1 : [a].filter wpB = [] := by simp [hw]
     rw [e1,List.append_nil,← ih.1,← ih.2.1,← ih.2.2]
     split
     · exact ⟨rfl,rfl,rfl⟩
     split
     · exact ⟨rfl,rfl,rfl⟩
     exact ⟨rfl,rfl,rfl⟩
def Q2j (l:List Ev) (half:Int) (key:ByteArray) (now:Int) : Int := ((l.filter fun e => decide (e.item = key)).map fun e => Qo e * Q7 (now - e.at_) half).sum
theorem Qv4 (f:Int → Int) (t n:Int) : ∀ r : List (Int × Int),((Xc r t ((Qe r t).getD 0 + n)).map fun x => x.2 * f x.1).sum = (r.map fun x => x.2 * f x.1).sum + n * f t
 | [] => by simp [Xc,Qe]
 | x :: r => by
   have ih := Qv4 f t n r
   unfold Xc Qe
   by_cases h : t = x.1
   · rw [if_pos h,if_pos h]
     simp only [Option.getD_some,List.map_cons,List.sum_cons]
     rw [Int.add_mul,h]
     omega
   · rw [if_neg h,if_neg h]
     simp only [List.map_cons,List.sum_cons]
     rw [ih]
     omega
theorem Q7c (half:Int) (key:ByteArray) (now:Int) : ∀ l : List Ev,(∀ e ∈ l,wpB e = true) → Qml half now ((Qe (Q0b l) key).getD []) = Q2j l half key now := by
 refine Qy (fun _ => by simp [Q0b,Qe,Qml,Q2j]) fun l e ih h => ?_
 have ih := ih fun x hx => h x (by simp [hx])
 have hw : 0 < Qo e := by simpa [wpB] using h e (by simp)
 rw [Qsr]
 unfold Q2j Qpv at *
 rw [if_neg (by omega),List.filter_append,List.map_append,List.sum_append,← ih,Xn]
 by_cases hk : key = e.item
 · subst hk
   rw [if_pos rfl]
   simp only [Option.getD_some]
   have hs := Qv4 (fun t => Q7 (now - t) half) e.at_ (Qo e) ((Qe (Q0b l) e.item).getD [])
   unfold Qml
   rw [hs]
   simp
 · rw [if_neg hk]
   have : decide (e.item = key) = false := by simp; exact fun h => hk h.symm
   simp [this]
theorem Q28 : ∀ l : List Ev,∀ key r,Qe (Q0b l) key = some r → ∀ x ∈ r,∃ e ∈ l,e.at_ = x.1 ∧ e.item = key := by
 refine Qy (fun key r h => by simp [Q0b,Qe] at h) fun l e ih key r h x hx => ?_
 rw [Qsr] at h
 unfold Qpv at h
 split at h
 · obtain ⟨y,hy,h1⟩ := ih key r h x hx
   exact ⟨y,by simp [hy],h1⟩
 · rw [Xn] at h
   by_cases hk : key = e.item
   · rw [if_pos hk] at h
     injection h with h
     subst h
     rcases Qe3 hx with rfl | hx
     · exact ⟨e,by simp,rfl,hk.symm⟩
     · cases hl : Qe (Q0b l) e.item with
       | none => rw [hl] at hx; simp at hx
       | some r =>
         rw [hl] at hx
         obtain ⟨y,hy,h1⟩ := ih e.item r hl x hx
         exact ⟨y,by simp [hy],h1.1,h1.2.trans hk.symm⟩
   · rw [if_neg hk] at h
     obtain ⟨y,hy,h1⟩ := ih key r h x hx
     exact ⟨y,by simp [hy],h1⟩
theorem Qbw (age half:Int) : 0 ≤ Q7 age half ∧ Q7 age half ≤ 1048576 := by
 unfold Q7
 split
 · omega
 split
 · omega
 · rw [Int.fdiv_eq_ediv_of_nonneg _ (by exact Int.le_of_lt (Int.pow_pos (by omega)))]
   exact ⟨Int.ediv_nonneg (by omega) (Int.le_of_lt (Int.pow_pos (by omega))),Int.ediv_le_self _ (by omega)⟩
theorem Qbo {α:Type} (f:α → Int) (M:Int) : ∀ l : List α,(∀ x ∈ l,0 ≤ f x ∧ f x ≤ M) → 0 ≤ (l.map f).sum ∧ (l.map f).sum ≤ l.length * M
 | [],_ => by simp
 | x :: l,h => by
   have h1 := h x (by simp)
   have ih := Qbo f M l fun y hy => h y (by simp [hy])
   simp only [List.map_cons,List.sum_cons,List.length_cons]
   have : ((l.length + 1 : Nat) : Int) * M = l.length * M + M := by
    rw [show ((l.length + 1 : Nat) : Int) = (l.length : Int) + 1 by omega,Int.add_mul]; omega
   rw [this]
   omega
theorem Q08 {l:List Ev} (hm:∀ e ∈ l,Xp e = true) (half:Int) (key:ByteArray) (now:Int) : 0 ≤ Q2j l half key now ∧ Q2j l half key now ≤ l.length * 5242880 := by
 have h := Qbo (fun e:Ev => Qo e * Q7 (now - e.at_) half) 5242880 (l.filter fun e => decide (e.item = key)) fun e he => by
  have h1 := Qb1 (hm e (List.mem_filter.1 he).1)
  have h2 := Qbw (now - e.at_) half
  refine ⟨Int.mul_nonneg h1.1 h2.1,?_⟩
  calc Qo e * Q7 (now - e.at_) half ≤ 5 * 1048576 := Int.mul_le_mul h1.2 h2.2 h2.1 (by omega)
   _ = 5242880 := by omega
 have hl := List.length_filter_le (fun e:Ev => decide (e.item = key)) l
 unfold Q2j
 refine ⟨h.1,Int.le_trans h.2 ?_⟩
 exact Int.mul_le_mul_of_nonneg_right (by omega) (by omega)
def paE (l:List Ev) (width:Int) (key:ByteArray) (lo hi:Int) : Int := ((l.filter fun e => decide (e.item = key) && (decide (lo ≤ e.at_ / Q8 width) && decide (e.at_ / Q8 width < hi))).map Qo).sum
def paS (s:Qam) (key:ByteArray) (lo hi:Int) : Int := ((s.filter fun x => decide (x.1.1 = key) && (decide (lo ≤ x.1.2) && decide (x.1.2 < hi))).map (·.2)).sum
theorem Qvh (key:ByteArray) (lo hi:Int) (c:PK) (n:Int) : ∀ s : Qam,paS (Xc s c ((Qe s c).getD 0 + n)) key lo hi = paS s key lo hi + if (decide (c.1 = key) && (decide (lo ≤ c.2) && decide (c.2 < hi))) = true then n else 0
 | [] => by
   unfold paS
   simp only [Xc,Qe,Option.getD_none,Int.zero_add,List.filter_cons,List.filter_nil]
   split <;> simp
 | x :: s => by
   have ih := Qvh key lo hi c n s
   unfold paS at *
   unfold Xc Qe
   by_cases h : c = x.1
   · rw [if_pos h,if_pos h]
     simp only [Option.getD_some,List.filter_cons]
     rw [← h]
     split
     · simp only [List.map_cons,List.sum_cons]; omega
     · simp
   · rw [if_neg h,if_neg h]
     simp only [List.filter_cons]
     split
     · simp only [List.map_cons,List.sum_cons]; rw [ih]; omega
     · exact ih
theorem Q4d (width:Int) (key:ByteArray) (lo hi:Int) : ∀ l : List Ev,(∀ e ∈ l,wpB e = true) → paS (Qy6 width l) key lo hi = paE l width key lo hi := by
 refine Qy (fun _ => by simp [Qy6,paS,paE]) fun l e ih h => ?_
 have ih := ih fun x hx => h x (by simp [hx])
 have hw : 0 < Qo e := by simpa [wpB] using h e (by simp)
 rw [Qtc]
 unfold Qon paE at *
 rw [if_neg (by omega),Qvh,ih,List.filter_append,List.map_append,List.sum_append]
 simp only [List.filter_cons,List.filter_nil]
 split <;> simp
theorem Qvv {l:List Ev} (hm:∀ e ∈ l,Xp e = true) (width:Int) (key:ByteArray) (lo hi:Int) : 0 ≤ paE l width key lo hi ∧ paE l width key lo hi ≤ l.length * 5 := by
 have h := Qbo Qo 5 (l.filter fun e => decide (e.item = key) && (decide (lo ≤ e.at_ / Q8 width) && decide (e.at_ / Q8 width < hi))) fun e he => Qb1 (hm e (List.mem_filter.1 he).1)
 have hl := List.length_filter_le (fun e:Ev => decide (e.item = key) && (decide (lo ≤ e.at_ / Q8 width) && decide (e.at_ / Q8 width < hi))) l
 unfold paE
 refine ⟨h.1,Int.le_trans h.2 ?_⟩
 exact Int.mul_le_mul_of_nonneg_right (by omega) (by omega)
def Qab (l:List ByteArray) : List ByteArray := l.mergeSort fun a b => !bLt b a
theorem Q1p (a b c:ByteArray) (h1:(!bLt b a) = true) (h2:(!bLt c b) = true) : (!bLt c a) = true := by
 rw [Bool.not_eq_true'] at *
 cases h : bLt c a with
 | false => rfl
 | true =>
   cases hab : bLt a b with
   | true => rw [Qb4 h hab] at h2; cases h2
   | false => rw [Qce hab h1] at h; rw [h] at h2; cases h2
theorem Qzr (a b:ByteArray) : ((!bLt b a) || (!bLt a b)) = true := by
 cases h : bLt b a with
 | false => rfl
 | true => rw [Qcv h]; rfl
theorem Qcb (l:List ByteArray) : (Qab l).Perm l := List.mergeSort_perm _ _
theorem Qhf (l:List ByteArray) : Srt bLt (Qab l) := by
 have := List.pairwise_mergeSort (le := fun a b => !bLt b a) Q1p Qzr l
 exact this.imp fun h => by simpa using h
theorem Qcs {l z:List ByteArray} (hp:z.Perm l) (hs:Srt bLt z) : z = Qab l :=
 List.Perm.eq_of_pairwise (le := fun a b => bLt b a = false) (fun a b _ _ h1 h2 => Qce h2 h1) hs (Qhf l) (hp.trans (Qcb l).symm)
theorem Qk3 {l:List ByteArray} {x:ByteArray} : x ∈ Qab l ↔ x ∈ l := (Qcb l).mem_iff
theorem Qee (l:List ByteArray) : (Qab l).length = l.length := (Qcb l).length_eq
def Qdr (l:List Int) : List Int := l.mergeSort fun x y => decide (x ≤ y)
theorem Qdb (l:List Int) : (Qdr l).Perm l := List.mergeSort_perm _ _
theorem Qli (l:List Int) : (Qdr l).Pairwise (· ≤ ·) := by
 have := List.pairwise_mergeSort (le := fun x y : Int => decide (x ≤ y)) (fun a b c h1 h2 => by simp at *; omega) (fun a b => by simp; omega) l
 exact this.imp fun h => by simpa using h
theorem Qrv {l z:List Int} (hp:z.Perm l) (hs:z.Pairwise (· ≤ ·)) : z = Qdr l :=
 List.Perm.eq_of_pairwise (le := (· ≤ ·)) (fun a b _ _ h1 h2 => Int.le_antisymm h1 h2) hs (Qli l) (hp.trans (Qdb l).symm)
theorem Qlk {l:List Int} {x:Int} : x ∈ Qdr l ↔ x ∈ l := (Qdb l).mem_iff
theorem Qp6 (l:List Int) : (Qdr l).length = l.length := (Qdb l).length_eq
section
open Go.Maps Go.Sort Go.Shelf Go.WideElems
open Go.WideMaps (keyOf_string_mk)
open Go.WideShapes (sorted_perm)
theorem Qwl {κ:Type} {enc:κ → Value} {P:Program} {k:TypeId} {w:World} {b:Nat} {L:List (κ × Value)} (hm:MapAt w b enc L) (hinj:∀ a b,enc a = enc b → a = b) (lit:κ → Lit) (hk:∀ x ∈ L,keyOf P k (enc x.1) = some (lit x.1)) (hl:L.length ≤ 1000000000) :
 ∃ es : List (Lit × DataW Unit),w.ownsMap P k (fun _ => some (.nil,[])) b L.length (.map es) ∧ es.Perm (L.map fun x => (lit x.1,.nil)) := by
 obtain ⟨E,clock,hE,rfl⟩ := hm
 have hEl : (strip E).length = E.length := by simp [strip]
 have hrd : ∀ x ∈ E,rd (H := Unit) P k (fun _ => some (.nil,[])) (mkE enc x) = some (lit x.1,.nil) := fun x hx =>
  Go.WideElems.rd_mk (P := P) (k := k) (R := fun _ => some (.nil,[])) (val := x.2.1) (born := x.2.2) (yv := (.nil,[])) (hk (x.1,x.2.1) (List.mem_map.2 ⟨x,hx,rfl⟩)) rfl
 refine ⟨_,⟨_,clock,hE.block,⟨?_,⟨?_,?_,?_⟩,?_⟩,?_,rfl⟩,?_⟩
 · rw [hEl] at hl; simp only [List.size_toArray,List.length_map]; unfold maxLen; omega
 · intro x hx
   simp only [List.mem_map] at hx
   obtain ⟨y,hy,rfl⟩ := hx
   exact hE.below y hy
 · simp only [List.map_map]
   rw [List.nodup_iff_pairwise_ne,List.pairwise_map]
   exact hE.rising.imp fun h => by simp only [mkE,Function.comp]; omega
 · simp only [List.map_map]
   rw [List.nodup_iff_pairwise_ne,List.pairwise_map]
   exact hE.keys.imp fun h e => h (hinj _ _ e)
 · intro x hx
   simp only [List.mem_map] at hx
   obtain ⟨y,hy,rfl⟩ := hx
   exact ⟨_,hrd y hy⟩
 · rw [hEl]; simp
 · refine (sorted_perm _).trans ?_
   have : (E.map (mkE enc)).toArray.toList.map (rg (H := Unit) P k (fun _ => some (.nil,[]))) = (strip E).map fun x => (lit x.1,.nil) := by
    simp only [strip,List.map_map]
    exact List.map_congr_left fun x hx => rg_of (hrd x hx)
   rw [this]
theorem Qel {α:Type} {enc:α → List Value} {sz:Nat} {te:TypeId} {base:Nat} {w:World} {v:Value} {l:List α} {n:Nat} {xs:List Value} (h:w.ownsRow base te sz v n xs) (hn:n = l.length) (hx:xs = l.flatMap enc) :
 ∃ A c,v = .slice A l.length c ∧ Own enc sz te base w A c l := by
 subst hn hx
 unfold Own
 rcases h with ⟨h1,⟨h2,h3⟩ | ⟨g,cap,cur,h2,h3⟩⟩
 · refine ⟨none,0,by rw [h2,h3],h1,.inl ⟨by rw [h3],h3⟩⟩
 · exact ⟨_,cap,h2,h1,.inr ⟨g,cap,cur,rfl,h3⟩⟩
theorem Qhp {α:Type} {enc:α → List Value} {sz:Nat} {te:TypeId} {b1 b2:Nat} {w:World} {A:Option Addr} {c:Nat} {l:List α} (h:Own enc sz te b1 w A c l) (hb:b2 ≤ b1) : Own enc sz te b2 w A c l := by
 unfold Own at *
 rcases h with ⟨h1,h2 | ⟨g,cap,cur,h2,h3,h4⟩⟩
 · exact ⟨h1,.inl h2⟩
 · exact ⟨h1,.inr ⟨g,cap,cur,h2,by omega,h4⟩⟩
theorem Qhn {α:Type} (f:α → Value) (l:List α) : l.flatMap (fun x => [f x]) = l.map f := by induction l with | nil => rfl | cons a l ih => simp [ih]
theorem Qi9 {P:Program} {ρ6:Ren} (S:SlLaysZ.n6 P ρ6) (hsort:∀ m,AnyZ.SortsIn P ρ6 Fence.wide m) (e9:∀ args w,(callFunc (ρ6.f 9) args).run P w = .ok (.enter (ρ6.f 9) args) w) {g:Nat} {lb:Array Value} (eg:∀ args w,(callFunc g args).run P w = .ok (.enter g args) w)
 (hok:Qwo P (ρ6.f 6)) {w:World} {l:List ByteArray} {N:Nat} {Q:List (List UInt8) → Prop} (hQ:∀ ss,Q ss → ss.Perm (l.map fun x => x.data.toList)) (hN:N ≤ 1000000000) (hseq:SeqGives Fence.wide 2 P g lb encStr Q N w) :
 Cal P (ρ6.f 6) [.func (.func g) #[] lb] w fun r w' => ∃ A c,r = .slice A (Qab l).length c ∧ Own Qcj 1 (ρ6.t 26) w.heap.size w' A c (Qab l) ∧ Ext w w' := by
 have hS := AnyZ.sorted_in S Fence.wide 5 trivial trivial trivial trivial rfl (by omega) (hsort _) e9 g lb trivial eg _ N (by unfold maxLen; omega) (by omega) w hseq
 refine ⟨hok,(callsIn_wide.1 hS).mono ?_⟩
 rintro e w' ⟨v,ss,rfl,hp,hrow,_,hb⟩
 have hkeys := hQ ss hp
 have hz : (ss.mergeSort fun x y => decide (x ≤ y)).map (fun x => (⟨x.toArray⟩ : ByteArray)) = Qab l := by
  apply Qcs
  · have h1 := (List.mergeSort_perm ss fun x y => decide (x ≤ y)).trans hkeys
    have h2 := h1.map (fun x => (⟨x.toArray⟩ : ByteArray))
    simpa [List.map_map,Function.comp_def] using h2
  · unfold Srt
    rw [List.pairwise_map]
    have := List.pairwise_mergeSort (le := fun x y : List UInt8 => decide (x ≤ y)) (fun a b c h1 h2 => by simp only [decide_eq_true_eq] at *; exact List.le_trans h1 h2) (fun a b => by simp only [Bool.or_eq_true,decide_eq_true_eq]; exact List.le_total a b) ss
    refine this.imp fun {a b} h => ?_
    simp only [decide_eq_true_eq] at h
    unfold bLt
    rw [ByteArray.toList_eq,ByteArray.toList_eq,bytesLess_eq]
    simpa using h
 obtain ⟨A,c,hv,ho⟩ := Qel (enc := Qcj) (l := Qab l) hrow (by rw [← hz]; simp) (by
  rw [← hz,show Qcj = fun x => [Value.string x] from rfl,Qhn,List.map_map]; rfl)
 exact ⟨v,rfl,A,c,hv,ho,hb⟩
theorem Qjm {P:Program} {ρ6:Ren} (S:SlLaysZI.n6 P ρ6) (hsort:∀ m,AnyZI.SortsIn P ρ6 Fence.wide m) (e9:∀ args w,(callFunc (ρ6.f 9) args).run P w = .ok (.enter (ρ6.f 9) args) w) {g:Nat} {lb:Array Value} (eg:∀ args w,(callFunc g args).run P w = .ok (.enter g args) w)
 (hok:Qwo P (ρ6.f 6)) {w:World} {l:List Int} {N:Nat} {Q:List Int → Prop} (hQ:∀ ss,Q ss → ss.Perm l) (hN:N ≤ 1000000000) (hseq:SeqGives Fence.wide 2 P g lb (Value.int .i64) Q N w) :
 Cal P (ρ6.f 6) [.func (.func g) #[] lb] w fun r w' => ∃ A c,r = .slice A (Qdr l).length c ∧ Own Qm6 1 (ρ6.t 26) w.heap.size w' A c (Qdr l) ∧ Ext w w' := by
 have hS := AnyZI.sorted_in S Fence.wide 5 trivial trivial trivial trivial rfl (by omega) (hsort _) e9 g lb trivial eg _ N (by unfold maxLen; omega) (by omega) w hseq
 refine ⟨hok,(callsIn_wide.1 hS).mono ?_⟩
 rintro e w' ⟨v,ss,rfl,hp,hrow,_,hb⟩
 have hz : (ss.mergeSort fun x y => decide (x ≤ y)) = Qdr l := Qrv ((Qdb ss).trans (hQ ss hp)) (Qli ss)
 obtain ⟨A,c,hv,ho⟩ := Qel (enc := Qm6) (l := Qdr l) hrow (by rw [← hz]; simp) (by
  rw [← hz,show Qm6 = fun x => [Value.int .i64 x] from rfl,Qhn])
 exact ⟨v,rfl,A,c,hv,ho,hb⟩
theorem Qr9 {P:Program} {ρ7:Ren} (K:SlLaysZ.n10 P ρ7) {w:World} {Bm b:Nat} {L:List (ByteArray × Value)} (hc:w.cell? ⟨Bm,0,none⟩ = some (.map (some b))) (hm:MapAt w b Value.string L) (hk:∀ x ∈ L,x.1.size ≤ 1000000) (hl:L.length ≤ 1000000000) :
 ∃ N Q,N ≤ 1000000000 ∧ (∀ ss : List (List UInt8),Q ss → ss.Perm ((L.map (·.1)).map fun x => x.data.toList)) ∧ SeqGives Fence.wide 2 P (ρ7.f 10) #[.pointer (some ⟨Bm,0,none⟩)] encStr Q N w := by
 obtain ⟨es,hown,hes⟩ := Qwl (P := P) (k := ρ7.t 26) hm (fun a b e => by simpa using e) (fun x => .string x.data.toList) (fun x hx => keyOf_string_mk K.t26 (by have := hk x hx; unfold maxLen; omega)) hl
 have hsz : Maps.size (.map es) = L.length := by
  have := hes.length_eq
  simp at this
  simpa [Maps.size] using this
 refine ⟨_,_,?_,fun ss hp => ?_,AnyZ.keys_gives K Fence.wide 2 trivial rfl (by omega) Bm b _ _ w (cell_lt hc) hc hown⟩
 · rw [hsz]; exact hl
 · refine hp.trans ?_
   simp only [strKeys]
   refine (hes.map _).trans ?_
   rw [List.map_map,List.map_map]
   exact List.Perm.refl _
theorem Q0z {P:Program} {ρ7:Ren} (K:SlLaysZI.n10 P ρ7) {w:World} {Bm b:Nat} {L:List (Int × Value)} (hc:w.cell? ⟨Bm,0,none⟩ = some (.map (some b))) (hm:MapAt w b vi L) (hk:∀ x ∈ L,0 ≤ x.1 ∧ x.1 ≤ 4611686018427387904) (hl:L.length ≤ 1000000000) :
 ∃ N Q,N ≤ 1000000000 ∧ (∀ ss : List Int,Q ss → ss.Perm (L.map (·.1))) ∧ SeqGives Fence.wide 2 P (ρ7.f 10) #[.pointer (some ⟨Bm,0,none⟩)] (Value.int .i64) Q N w := by
 obtain ⟨es,hown,hes⟩ := Qwl (P := P) (k := ρ7.t 26) hm (fun a b e => by simpa [vi] using e) (fun x => .int .i64 x) (fun x hx => keyOf_int_mk K.t26 (by
  have := hk x hx
  simp only [Lit.wf,Bool.and_eq_true,decide_eq_true_eq,show IntKind.i64.min = -9223372036854775808 from by decide,show IntKind.i64.max = 9223372036854775807 from by decide]
  omega)) hl
 have hsz : Maps.size (.map es) = L.length := by
  have := hes.length_eq
  simp at this
  simpa [Maps.size] using this
 refine ⟨_,_,?_,fun ss hp => ?_,AnyZI.keys_gives K Fence.wide 2 trivial rfl (by omega) Bm b _ _ w (cell_lt hc) hc hown⟩
 · rw [hsz]; exact hl
 · refine hp.trans ?_
   simp only [intKeys]
   refine (hes.map _).trans ?_
   rw [List.map_map]
   exact List.Perm.refl _
theorem Qu8 (w:World) (v:Value) (t:TypeId) : (w.alloc (.cells #[v] t)).cell? ⟨w.heap.size,0,none⟩ = some v := by
 exact cell_one_new w v t 0 v rfl
theorem Qrs {P:Program} {ρ7:Ren} (K:SlLaysZ.n7 P ρ7) (hok:Qwo P (ρ7.f 7)) (mb:Option Nat) (w:World) :
 Cal P (ρ7.f 7) [.map mb] w fun r w' => r = .func (.func (ρ7.f 10)) #[] #[.pointer (some ⟨w.heap.size,0,none⟩)] ∧ w'.cell? ⟨w.heap.size,0,none⟩ = some (.map mb) ∧ Ext w w' := by
 refine ⟨hok,(callsIn_wide.1 (AnyZ.keys_in K Fence.wide 5 trivial rfl mb w)).mono ?_⟩
 rintro e w' ⟨rfl,rfl⟩
 exact ⟨_,rfl,rfl,Qu8 _ _ _,(Below.refl _ _).alloc (Nat.le_refl _) _⟩
theorem Qzh {P:Program} {ρ7:Ren} (K:SlLaysZI.n7 P ρ7) (hok:Qwo P (ρ7.f 7)) (mb:Option Nat) (w:World) :
 Cal P (ρ7.f 7) [.map mb] w fun r w' => r = .func (.func (ρ7.f 10)) #[] #[.pointer (some ⟨w.heap.size,0,none⟩)] ∧ w'.cell? ⟨w.heap.size,0,none⟩ = some (.map mb) ∧ Ext w w' := by
 refine ⟨hok,(callsIn_wide.1 (AnyZI.keys_in K Fence.wide 5 trivial rfl mb w)).mono ?_⟩
 rintro e w' ⟨rfl,rfl⟩
 exact ⟨_,rfl,rfl,Qu8 _ _ _,(Below.refl _ _).alloc (Nat.le_refl _) _⟩
end
end Go.Proofs.YtoancknoinilaaaGreatDoor
namespace Go.Proofs.YtoancknoinilaaaGreatDoor
open Go.Se Go.RowKit
open Go.Maps Go.Sort Go.Shelf
theorem Qkp : Qab [] = [] := by simp [Qab]
theorem Qp9 : Qdr [] = [] := by simp [Qdr]
theorem Q4g (m:Nat) : AnyZ.SortsIn Tryz.prog Tryz.sorted223_ren Fence.wide m :=
 ⟨fun blk off cap ss W h1 h2 h3 => callsIn_wide.2 (AnyM.slices_Sort_string Tryz.sort250 blk off cap ss W h1 h2 h3),fun p cap W => callsIn_wide.2 (AnyM.slices_Sort_string_none Tryz.sort250 p cap W)⟩
theorem Q4m (m:Nat) : AnyZI.SortsIn Tryz.prog Tryz.sorted297_ren Fence.wide m :=
 ⟨fun blk off cap ss W h1 h2 h3 => callsIn_wide.2 (AnyM.slices_Sort_int Tryz.sort324 blk off cap ss W h1 h2 h3),fun p cap W => callsIn_wide.2 (AnyM.slices_Sort_int_none Tryz.sort324 p cap W)⟩
theorem Qnm (mb:Option Nat) (w:World) : Cal Tryz.prog 252 [.map mb] w fun r w' => r = .func (.func 289) #[] #[.pointer (some ⟨w.heap.size,0,none⟩)] ∧ w'.cell? ⟨w.heap.size,0,none⟩ = some (.map mb) ∧ Ext w w' :=
 Qrs Tryz.keys252 ⟨_,Tryz.func252,rfl,rfl⟩ mb w
theorem Qjh {w:World} {Bm b:Nat} {L:List (ByteArray × Value)} (hc:w.cell? ⟨Bm,0,none⟩ = some (.map (some b))) (hm:MapAt w b Value.string L) (hk:∀ x ∈ L,x.1.size ≤ 1000000) (hl:L.length ≤ 1000000000) :
 Cal Tryz.prog 223 [.func (.func 289) #[] #[.pointer (some ⟨Bm,0,none⟩)]] w fun r w' => ∃ A c,r = .slice A (Qab (L.map (·.1))).length c ∧ Own Qcj 1 9 w.heap.size w' A c (Qab (L.map (·.1))) ∧ Ext w w' := by
 obtain ⟨N,Q,h1,h2,h3⟩ := Qr9 { Tryz.keys252 with } hc hm hk hl
 exact Qi9 Tryz.sorted223 Q4g (enters_of Tryz.func250 (by kernel_rfl) rfl) (enters_of Tryz.func289 (by kernel_rfl) rfl) ⟨_,Tryz.func223,rfl,rfl⟩ h2 h1 h3
theorem Qxp (mb:Option Nat) (w:World) : Cal Tryz.prog 224 [.map mb] w fun r w' => r = .func (.func 259) #[] #[.pointer (some ⟨w.heap.size,0,none⟩)] ∧ w'.cell? ⟨w.heap.size,0,none⟩ = some (.map mb) ∧ Ext w w' :=
 Qrs Tryz.keys224 ⟨_,Tryz.func224,rfl,rfl⟩ mb w
theorem Qp0 {w:World} {Bm b:Nat} {L:List (ByteArray × Value)} (hc:w.cell? ⟨Bm,0,none⟩ = some (.map (some b))) (hm:MapAt w b Value.string L) (hk:∀ x ∈ L,x.1.size ≤ 1000000) (hl:L.length ≤ 1000000000) :
 Cal Tryz.prog 223 [.func (.func 259) #[] #[.pointer (some ⟨Bm,0,none⟩)]] w fun r w' => ∃ A c,r = .slice A (Qab (L.map (·.1))).length c ∧ Own Qcj 1 9 w.heap.size w' A c (Qab (L.map (·.1))) ∧ Ext w w' := by
 obtain ⟨N,Q,h1,h2,h3⟩ := Qr9 { Tryz.keys224 with } hc hm hk hl
 exact Qi9 Tryz.sorted223 Q4g (enters_of Tryz.func250 (by kernel_rfl) rfl) (enters_of Tryz.func259 (by kernel_rfl) rfl) ⟨_,Tryz.func223,rfl,rfl⟩ h2 h1 h3
theorem Qm8 (mb:Option Nat) (w:World) : Cal Tryz.prog 298 [.map mb] w fun r w' => r = .func (.func 325) #[] #[.pointer (some ⟨w.heap.size,0,none⟩)] ∧ w'.cell? ⟨w.heap.size,0,none⟩ = some (.map mb) ∧ Ext w w' :=
 Qzh Tryz.keys298 ⟨_,Tryz.func298,rfl,rfl⟩ mb w
theorem Qrq {w:World} {Bm b:Nat} {L:List (Int × Value)} (hc:w.cell? ⟨Bm,0,none⟩ = some (.map (some b))) (hm:MapAt w b vi L) (hk:∀ x ∈ L,0 ≤ x.1 ∧ x.1 ≤ 4611686018427387904) (hl:L.length ≤ 1000000000) :
 Cal Tryz.prog 297 [.func (.func 325) #[] #[.pointer (some ⟨Bm,0,none⟩)]] w fun r w' => ∃ A c,r = .slice A (Qdr (L.map (·.1))).length c ∧ Own Qm6 1 3 w.heap.size w' A c (Qdr (L.map (·.1))) ∧ Ext w w' := by
 obtain ⟨N,Q,h1,h2,h3⟩ := Q0z { Tryz.keys298 with } hc hm hk hl
 exact Qjm Tryz.sorted297 Q4m (enters_of Tryz.func324 (by kernel_rfl) rfl) (enters_of Tryz.func325 (by kernel_rfl) rfl) ⟨_,Tryz.func297,rfl,rfl⟩ h2 h1 h3
theorem Qs7 {w:World} {Bm:Nat} (hc:w.cell? ⟨Bm,0,none⟩ = some (.map none)) :
 Cal Tryz.prog 297 [.func (.func 325) #[] #[.pointer (some ⟨Bm,0,none⟩)]] w fun r w' => ∃ A c,r = .slice A 0 c ∧ Own Qm6 1 3 w.heap.size w' A c [] ∧ Ext w w' := by
 have := Qjm Tryz.sorted297 Q4m (enters_of Tryz.func324 (by kernel_rfl) rfl) (enters_of Tryz.func325 (by kernel_rfl) rfl) ⟨_,Tryz.func297,rfl,rfl⟩ (l := []) (fun ss (h:ss = []) => by rw [h]) (Nat.zero_le _) (AnyZI.keys_gives_nil { Tryz.keys298 with } Fence.wide 2 trivial rfl Bm w (cell_lt hc) hc)
 simp only [Qkp,Qp9,List.length_nil] at this
 exact this
end Go.Proofs.YtoancknoinilaaaGreatDoor
namespace Go.Proofs.YtoancknoinilaaaGreatDoor
open Go.Se Go.RowKit
def Q06 : List ByteArray → List ByteArray
 | [] => []
 | a :: l => if a ∈ l then Q06 l else a :: Q06 l
theorem Qf0 {x:ByteArray} : ∀ {l:List ByteArray},x ∈ Q06 l ↔ x ∈ l
 | [] => Iff.rfl
 | a :: l => by
   have ih := Qf0 (x := x) (l := l)
   unfold Q06
   split
   · next h =>
     rw [ih,List.mem_cons]
     constructor
     · exact .inr
     · rintro (rfl | h1)
       · exact h
       · exact h1
   · rw [List.mem_cons,List.mem_cons,ih]
theorem Qd6 : ∀ l : List ByteArray,(Q06 l).Nodup
 | [] => List.nodup_nil
 | a :: l => by
   have ih := Qd6 l
   unfold Q06
   split
   · exact ih
   · next h => exact List.nodup_cons.2 ⟨fun h1 => h (Qf0.1 h1),ih⟩
def Qe0 (l:List ByteArray) : List ByteArray := Qab (Q06 l)
theorem Qc1 {l:List ByteArray} {x:ByteArray} : x ∈ Qe0 l ↔ x ∈ l := by unfold Qe0; rw [Qk3,Qf0]
theorem Qmw (l:List ByteArray) : (Qe0 l).Nodup := (Qcb _).nodup_iff.2 (Qd6 l)
theorem Qt6 {K l:List ByteArray} (hn:K.Nodup) (hm:∀ x,x ∈ K ↔ x ∈ l) : Qab K = Qe0 l := by
 have hp : K.Perm (Q06 l) := Qft hn (Qd6 l) (fun x hx => Qf0.2 ((hm x).1 hx)) (fun x hx => (hm x).2 (Qf0.1 hx))
 exact Qcs ((Qcb K).trans hp) (Qhf K)
theorem Qm4 {k l:List ByteArray} (hm:∀ x,x ∈ k ↔ x ∈ l) : Qe0 k = Qe0 l := Qt6 (Qd6 k) fun x => Qf0.trans (hm x)
theorem Q29 (l:List ByteArray) : (Qe0 l).length ≤ l.length := by
 unfold Qe0
 rw [Qee]
 induction l with
 | nil => simp [Q06]
 | cons a l ih => unfold Q06; split <;> simp <;> omega
theorem Qda {β:Type} {L:List (ByteArray × β)} (h:L.Pairwise (fun x y => x.1 ≠ y.1)) : (L.map (·.1)).Nodup := by
 rw [List.nodup_iff_pairwise_ne,List.pairwise_map]; exact h
theorem Q3n {β:Type} {L:List (ByteArray × β)} {k:ByteArray} : k ∈ L.map (·.1) ↔ (Qe L k).isSome = true := by
 cases h : Qe L k with
 | none =>
   have := Qde.1 h
   simp only [List.mem_map,Option.isSome_none,Bool.false_eq_true,iff_false]
   rintro ⟨x,hx,rfl⟩
   exact this x hx rfl
 | some v =>
   have := Qcq h
   simp only [Option.isSome_some,iff_true,List.mem_map]
   exact ⟨_,this,rfl⟩
abbrev Grp := Int × Int × List ByteArray
def Qcc (gap:Int) (acc:List Grp) (t:Int) (its:List ByteArray) : List Grp :=
 match acc.getLast? with
 | some g => if gap < t - g.2.1 then acc ++ [(t,t,its)] else acc.dropLast ++ [(g.1,t,g.2.2 ++ its)]
 | none => [(t,t,its)]
abbrev Qds := List (Int × List (ByteArray × Bool))
def Xi (k:Qds) (t:Int) : List ByteArray := ((Qe k t).getD []).map (·.1)
def Qe5 (gap:Int) (k:Qds) (ts:List Int) : List Grp := ts.foldl (fun acc t => Qcc gap acc t (Xi k t)) []
def Q7h (gap:Int) (k:Qds) : List Grp := Qe5 gap k (Qdr (k.map (·.1)))
theorem Qgb (gap:Int) (k:Qds) (ts:List Int) (t:Int) : Qe5 gap k (ts ++ [t]) = Qcc gap (Qe5 gap k ts) t (Xi k t) := by unfold Qe5; rw [List.foldl_append]; rfl
structure Sn where
 person : ByteArray
 from_ : Int
 to_ : Int
 items : List ByteArray
deriving DecidableEq,Inhabited
def Q2f (person:ByteArray) (g:Grp) : Sn := ⟨person,g.1,g.2.1,Qe0 g.2.2⟩
def Qem (gap:Int) (ss:Ses) (person:ByteArray) : List Sn := (Q7h gap ((Qe ss person).getD [])).map (Q2f person)
def Qfy (gap:Int) (ss:Ses) : List Sn := (Qab (ss.map (·.1))).flatMap (Qem gap ss)
theorem Q50 (gap:Int) (acc:List Grp) (t:Int) (its:List ByteArray) : (Qcc gap acc t its).length ≤ acc.length + 1 := by
 unfold Qcc
 split
 · next g h =>
   split
   · simp
   · simp
 · simp
theorem Q1c (gap:Int) (k:Qds) : ∀ ts : List Int,(Qe5 gap k ts).length ≤ ts.length := by
 refine Qy (by simp [Qe5]) fun l t ih => ?_
 rw [Qgb]
 have := Q50 gap (Qe5 gap k l) t (Xi k t)
 simp; omega
theorem Q3o (gap:Int) (k:Qds) : (Q7h gap k).length ≤ k.length := by
 have := Q1c gap k (Qdr (k.map (·.1)))
 rw [Qp6,List.length_map] at this
 exact this
def hasB (a:ByteArray) (s:Sn) : Bool := decide (a ∈ s.items)
def Xk (S:List Sn) (a:ByteArray) : Nat := (S.filter (hasB a)).length
def Qaa (S:List Sn) (a b:ByteArray) : Nat := (S.filter fun s => hasB a s && hasB b s).length
theorem Qfi (S:List Sn) (a:ByteArray) : Xk S a ≤ S.length := List.length_filter_le _ _
theorem Qgv (S:List Sn) (a b:ByteArray) : Qaa S a b ≤ S.length := List.length_filter_le _ _
theorem Qib (S:List Sn) (a b:ByteArray) : Qaa S a b ≤ Xk S a := by
 unfold Qaa Xk
 induction S with
 | nil => simp
 | cons s S ih =>
   simp only [List.filter_cons]
   cases hasB a s <;> cases hasB b s <;> simp <;> omega
theorem Qrd (S:List Sn) (a b:ByteArray) : Qaa S a b = Qaa S b a := by
 unfold Qaa
 congr 1
 apply List.filter_congr
 intro s _
 rw [Bool.and_comm]
theorem Qh8 (S:List Sn) (a:ByteArray) : Qaa S a a = Xk S a := by
 unfold Qaa Xk
 congr 1
 apply List.filter_congr
 intro s _
 simp
def Qgs (S:List Sn) (a b:ByteArray) : Int × Int :=
 if Xk S a = 0 ∨ Xk S b = 0 then (0,1) else if a = b then (1,1) else ((Qaa S a b:Int) * Qaa S a b,(Xk S a:Int) * Xk S b)
def Qtw (a b:Int × Int) : Bool := decide (a.1 * b.2 < b.1 * a.2)
def Qbs (S:List Sn) (item:ByteArray) (b:Int × Int) (e:Ev) : Int × Int :=
 if Qo e ≤ 0 ∨ e.item = item then b else if Qtw b (Qgs S item e.item) = true then Qgs S item e.item else b
def Qe8 (S:List Sn) (item:ByteArray) (h:List Ev) : Int × Int := h.foldl (Qbs S item) (0,1)
theorem Qgd (S:List Sn) (item:ByteArray) (h:List Ev) (e:Ev) : Qe8 S item (h ++ [e]) = Qbs S item (Qe8 S item h) e := by unfold Qe8; rw [List.foldl_append]; rfl
def Qq2 (N:Int) (r:Int × Int) : Prop := 0 ≤ r.1 ∧ r.1 ≤ N ∧ 1 ≤ r.2 ∧ r.2 ≤ N
theorem Qua {S:List Sn} {N:Int} (hN:(S.length : Int) * S.length ≤ N) (h1:1 ≤ N) (a b:ByteArray) : Qq2 N (Qgs S a b) := by
 unfold Qgs
 have ha := Qfi S a
 have hb := Qfi S b
 have hp := Qgv S a b
 split
 · exact ⟨by simp,by simp; omega,by simp,by simp; omega⟩
 split
 · exact ⟨by simp,by simpa using h1,by simp,by simpa using h1⟩
 · next h0 _ =>
   have h2 : (1:Int) ≤ Xk S a := by omega
   have h3 : (1:Int) ≤ Xk S b := by omega
   have e1 : ((Qaa S a b:Int) * Qaa S a b) ≤ (S.length : Int) * S.length := Int.mul_le_mul (by omega) (by omega) (by omega) (by omega)
   have e2 : ((Xk S a:Int) * Xk S b) ≤ (S.length : Int) * S.length := Int.mul_le_mul (by omega) (by omega) (by omega) (by omega)
   have e3 : (1:Int) * 1 ≤ (Xk S a:Int) * Xk S b := Int.mul_le_mul h2 h3 (by omega) (by omega)
   exact ⟨Int.mul_nonneg (by omega) (by omega),by simp only; omega,by simp only; omega,by simp only; omega⟩
theorem Qzo {S:List Sn} {N:Int} (hN:(S.length : Int) * S.length ≤ N) (h1:1 ≤ N) (item:ByteArray) : ∀ h : List Ev,Qq2 N (Qe8 S item h) := by
 refine Qy ⟨by simp [Qe8],by simp [Qe8]; omega,by simp [Qe8],by simp [Qe8]; omega⟩ fun l e ih => ?_
 rw [Qgd]
 unfold Qbs
 split
 · exact ih
 split
 · exact Qua hN h1 _ _
 · exact ih
def flB (person maker:ByteArray) (e:Ev) : Bool := decide (e.person = person) && (decide (e.text = maker) && (decide (e.kind = 7) || decide (e.kind = 8)))
def Qmc (z:List Ev) (person maker:ByteArray) : Bool := match (z.filter (flB person maker)).getLast? with
 | some e => decide (e.kind = 7)
 | none => false
theorem Qqt (person maker:ByteArray) : ∀ rs : List Row,(Qe (X7 rs).follows (person,maker)) = ((evs rs).filter (flB person maker)).getLast?.map fun e => decide (e.kind = 7) := by
 refine Qy (by simp [X7,evs,Cw0,Qe]) fun rs r ih => ?_
 rw [Qfg,Qpr,List.filter_append]
 have hB : (Qc8 (X7 rs) r.1).follows = (Qcn (X7 rs) r.1).follows := by
  unfold Qc8 Qnt
  split <;> rfl
 rw [hB]
 unfold Qcn
 cases hf : flB person maker r.1 with
 | true =>
   simp only [flB,Bool.and_eq_true,Bool.or_eq_true,decide_eq_true_eq] at hf
   obtain ⟨h1,h2,h3⟩ := hf
   rw [if_neg (by omega),if_neg (by omega),if_neg (by omega),if_pos h3]
   have hf2 : flB person maker r.1 = true := by simp [flB,h1,h2,h3]
   simp only [List.filter_cons,hf2,if_true,List.filter_nil,List.getLast?_append,List.getLast?_singleton,Option.some_or,Option.map_some]
   rw [show ((person,maker) : LK) = mkr r.1 by unfold mkr; rw [h1,h2],Q9]
 | false =>
   simp only [List.filter_cons,hf,Bool.false_eq_true,if_false,List.filter_nil,List.append_nil]
   rw [← ih]
   split
   · rfl
   split
   · rfl
   split
   · rfl
   split
   · next h3 =>
     show Qe (Xc _ _ _) _ = _
     rw [Xn,if_neg]
     intro he
     unfold mkr at he
     injection he with h1 h2
     simp [flB,← h1,← h2] at hf
     omega
   split
   · rfl
   · rfl
theorem Qnr (z:List Ev) (person maker:ByteArray) : Qmc (Qav z) person maker = Qmc z person maker := by
 unfold Qmc Qav
 rw [List.filter_filter]
 have : (fun a => flB person maker a && peB a) = flB person maker := by
  funext a
  cases h : flB person maker a with
  | false => rfl
  | true =>
    simp only [flB,Bool.and_eq_true,Bool.or_eq_true,decide_eq_true_eq] at h
    have : peB a = true := by simp [peB,thB]; omega
    rw [this]; rfl
 rw [this]
def Qba (fl:List (LK × Bool)) (person:ByteArray) (h:List Ev) : List (ByteArray × Bool) :=
 h.foldl (fun m e => if e.kind = 7 ∧ (Qe fl (person,e.text)).getD false = true then Xc m e.text true else m) []
theorem Qew (fl:List (LK × Bool)) (person:ByteArray) (h:List Ev) (e:Ev) : Qba fl person (h ++ [e]) = if e.kind = 7 ∧ (Qe fl (person,e.text)).getD false = true then Xc (Qba fl person h) e.text true else Qba fl person h := by unfold Qba; rw [List.foldl_append]; rfl
theorem Qmz (fl:List (LK × Bool)) (person:ByteArray) (x:ByteArray) : ∀ h : List Ev,x ∈ (Qba fl person h).map (·.1) ↔ ∃ e ∈ h,e.kind = 7 ∧ e.text = x ∧ (Qe fl (person,x)).getD false = true := by
 refine Qy (by simp [Qba]) fun h e ih => ?_
 rw [Qew]
 split
 · next hc =>
   rw [Qeo]
   constructor
   · intro hx
     have : x = e.text ∨ x ∈ (Qba fl person h).map (·.1) := by
      split at hx
      · exact .inr hx
      · rcases List.mem_append.1 hx with hx | hx
        · exact .inr hx
        · exact .inl (by simpa using hx)
     rcases this with rfl | hx
     · exact ⟨e,by simp,hc.1,rfl,hc.2⟩
     · obtain ⟨y,hy,h1⟩ := ih.1 hx
       exact ⟨y,by simp [hy],h1⟩
   · rintro ⟨y,hy,h1,rfl,h2⟩
     rcases List.mem_append.1 hy with hy | hy
     · have := ih.2 ⟨y,hy,h1,rfl,h2⟩
       split
       · exact this
       · exact List.mem_append.2 (.inl this)
     · have hy : y = e := by simpa using hy
       subst hy
       split
       · assumption
       · simp
 · next hc =>
   rw [ih]
   constructor
   · rintro ⟨y,hy,h1⟩; exact ⟨y,by simp [hy],h1⟩
   · rintro ⟨y,hy,h1,rfl,h2⟩
     rcases List.mem_append.1 hy with hy | hy
     · exact ⟨y,hy,h1,rfl,h2⟩
     · have hy : y = e := by simpa using hy
       subst hy
       exact absurd ⟨h1,h2⟩ hc
theorem Q56 {rs:List Row} (person maker:ByteArray) : maker ∈ (Qba (X7 rs).follows person (hist (evs rs) person)).map (·.1) ↔ Qmc (evs rs) person maker = true := by
 rw [Qmz,Qqt]
 unfold Qmc
 cases hl : ((evs rs).filter (flB person maker)).getLast? with
 | none => simp
 | some e =>
   have he := List.mem_of_getLast? hl
   have hm := List.mem_filter.1 he
   have hb := hm.2
   simp only [flB,Bool.and_eq_true,Bool.or_eq_true,decide_eq_true_eq] at hb
   simp only [Option.map_some,Option.getD_some,decide_eq_true_eq]
   constructor
   · rintro ⟨_,_,_,_,h⟩; exact h
   · intro h
     exact ⟨e,List.mem_filter.2 ⟨hm.1,by simpa using hb.1⟩,h,hb.2.1,h⟩
def Qjr (half now:Int) (e:Ev) : Int := Qo e * Q7 (now - e.at_) half
def Qb9 (n:Int) (m:List (ByteArray × Int)) (t:ByteArray) : List (ByteArray × Int) := Xc m t (IntKind.i64.wrap ((Qe m t).getD 0 + n))
def Qd4 (half now:Int) (m:List (ByteArray × Int)) (r:Row) : List (ByteArray × Int) := if now < r.1.at_ then m else r.2.foldl (Qb9 (Qjr half now r.1)) m
def Quz (half now:Int) (rows:List Row) : List (ByteArray × Int) := rows.foldl (Qd4 half now) []
theorem Qhs (half now:Int) (l:List Row) (r:Row) : Quz half now (l ++ [r]) = Qd4 half now (Quz half now l) r := by unfold Quz; rw [List.foldl_append]; rfl
theorem Qtq (n:Int) (m:List (ByteArray × Int)) (l:List ByteArray) (t:ByteArray) : (l ++ [t]).foldl (Qb9 n) m = Qb9 n (l.foldl (Qb9 n) m) t := by rw [List.foldl_append]; rfl
def Q6y (half now:Int) (rows:List Row) : List (ByteArray × Int) := (Quz half now rows).filter fun x => decide (0 < x.2)
def rowsOf (rs:List Row) (person:ByteArray) : List Row := rs.filter fun r => decide (r.1.person = person)
theorem Qnb {half now:Int} {e:Ev} (hm:Xp e = true) : 0 ≤ Qjr half now e ∧ Qjr half now e ≤ 5242880 := by
 have h1 := Qb1 hm
 have h2 := Qbw (now - e.at_) half
 unfold Qjr
 refine ⟨Int.mul_nonneg h1.1 h2.1,?_⟩
 have : Qo e * Q7 (now - e.at_) half ≤ 5 * 1048576 := Int.mul_le_mul h1.2 h2.2 h2.1 (by omega)
 omega
theorem Qyb (tg:List ByteArray) (n:Int) (l:List (ByteArray × Int)) : ((tg.foldl (Qb9 n) l).length) ≤ l.length + tg.length := by
 induction tg generalizing l with
 | nil => simp
 | cons t tg ih =>
   have := ih (Qb9 n l t)
   have h2 := Qez t (IntKind.i64.wrap ((Qe l t).getD 0 + n)) l
   simp only [List.foldl_cons,List.length_cons]
   unfold Qb9 at *
   omega
theorem Qws (half now:Int) : ∀ rows : List Row,(Quz half now rows).length ≤ (rows.map fun r => r.2.length).sum := by
 refine Qy (by simp [Quz]) fun l r ih => ?_
 rw [Qhs,List.map_append,List.sum_append]
 unfold Qd4
 split
 · simp; omega
 · have := Qyb r.2 (Qjr half now r.1) (Quz half now l)
   simp; omega
theorem Qsi (n:Int) (tg:List ByteArray) : ∀ l : List (ByteArray × Int),l.Pairwise (fun x y => x.1 ≠ y.1) → (tg.foldl (Qb9 n) l).Pairwise (fun x y => x.1 ≠ y.1) := by
 induction tg with
 | nil => intro l h; exact h
 | cons t tg ih => intro l h; exact ih _ (Qbb h)
theorem Qz9 (half now:Int) : ∀ rows : List Row,(Quz half now rows).Pairwise (fun x y => x.1 ≠ y.1) := by
 refine Qy (by simp [Quz]) fun l r ih => ?_
 rw [Qhs]
 unfold Qd4
 split
 · exact ih
 · exact Qsi _ _ _ ih
def Qvf (half now:Int) (rows:List Row) (t:ByteArray) : Int := ((rows.filter fun r => decide (r.1.at_ ≤ now) && decide (t ∈ r.2)).map fun r => Qjr half now r.1).sum
theorem Q6d (n:Int) (t:ByteArray) : ∀ (tg:List ByteArray),tg.Nodup → ∀ m : List (ByteArray × Int),(Qe (tg.foldl (Qb9 n) m) t) = if t ∈ tg then some (IntKind.i64.wrap ((Qe m t).getD 0 + n)) else Qe m t := by
 intro tg
 induction tg with
 | nil => intro _ m; simp
 | cons a tg ih =>
   intro hn m
   rw [List.nodup_cons] at hn
   rw [List.foldl_cons,ih hn.2]
   unfold Qb9
   by_cases h1 : t = a
   · subst h1
     rw [if_neg hn.1,Xn,if_pos rfl,if_pos (by simp)]
   · rw [Xn,if_neg h1]
     by_cases h2 : t ∈ tg
     · rw [if_pos h2,if_pos (by simp [h2])]
     · rw [if_neg h2,if_neg (by simp [h1,h2])]
theorem Qzi (half now:Int) (t:ByteArray) : ∀ rows : List Row,(∀ r ∈ rows,Xp r.1 = true ∧ r.2.Nodup) → rows.length < 1000000 → ((Qe (Quz half now rows) t).getD 0 = Qvf half now rows t) ∧ 0 ≤ Qvf half now rows t ∧ Qvf half now rows t ≤ rows.length * 5242880 ∧ ((Qe (Quz half now rows) t).isSome = true ↔ ∃ r ∈ rows,r.1.at_ ≤ now ∧ t ∈ r.2) := by
 refine Qy (fun _ _ => by simp [Quz,Qvf,Qe]) fun l r ih h hl => ?_
 have hl' : l.length < 1000000 := by simp at hl; omega
 obtain ⟨i1,i2,i3,i4⟩ := ih (fun x hx => h x (by simp [hx])) hl'
 have hr := h r (by simp)
 have hb := Qnb (half := half) (now := now) hr.1
 have hlen : (((l ++ [r]).length : Nat) : Int) = l.length + 1 := by simp
 rw [Qhs]
 unfold Qd4
 have hS : Qvf half now (l ++ [r]) t = Qvf half now l t + if r.1.at_ ≤ now ∧ t ∈ r.2 then Qjr half now r.1 else 0 := by
  unfold Qvf
  rw [List.filter_append,List.map_append,List.sum_append]
  by_cases hc : r.1.at_ ≤ now ∧ t ∈ r.2
  · simp [hc.1,hc.2]
  · have : (decide (r.1.at_ ≤ now) && decide (t ∈ r.2)) = false := by
     rw [Bool.and_eq_false_iff]
     by_cases h1 : r.1.at_ ≤ now
     · exact .inr (by simpa using fun h2 => hc ⟨h1,h2⟩)
     · exact .inl (by simpa using h1)
    rw [if_neg hc]
    simp [this]
 rw [hS]
 by_cases hnow : now < r.1.at_
 · rw [if_pos hnow,if_neg (by omega)]
   refine ⟨by rw [i1]; omega,by omega,by rw [hlen,Int.add_mul]; omega,i4.trans ⟨?_,?_⟩⟩
   · rintro ⟨x,hx,h1⟩; exact ⟨x,by simp [hx],h1⟩
   · rintro ⟨x,hx,h1,h2⟩
     rcases List.mem_append.1 hx with hx | hx
     · exact ⟨x,hx,h1,h2⟩
     · have : x = r := by simpa using hx
       subst this; omega
 · rw [if_neg hnow,Q6d _ _ _ hr.2]
   by_cases ht : t ∈ r.2
   · rw [if_pos ht,if_pos ⟨by omega,ht⟩,i1]
     refine ⟨?_,by omega,by rw [hlen,Int.add_mul]; omega,by simp only [Option.isSome_some,true_iff]; exact ⟨r,by simp,by omega,ht⟩⟩
     simp only [Option.getD_some]
     exact (wrap_eq rfl ⟨by omega,by omega⟩).symm
   · rw [if_neg ht,if_neg (fun hc => ht hc.2)]
     refine ⟨by rw [i1]; omega,by omega,by rw [hlen,Int.add_mul]; omega,i4.trans ⟨?_,?_⟩⟩
     · rintro ⟨x,hx,h1⟩; exact ⟨x,by simp [hx],h1⟩
     · rintro ⟨x,hx,h1,h2⟩
       rcases List.mem_append.1 hx with hx | hx
       · exact ⟨x,hx,h1,h2⟩
       · have : x = r := by simpa using hx
         subst this; exact absurd h2 ht
theorem Q41 (width:Int) : ∀ l : List Ev,(Qy6 width l).Pairwise (fun x y => x.1 ≠ y.1) := by
 refine Qy (by simp [Qy6]) fun l e ih => ?_
 rw [Qtc]
 unfold Qon
 split
 · exact ih
 · exact Qbb ih
theorem Qfe {α:Type} (f:α → Int) : ∀ {l:List α},(∀ x ∈ l,f x = 0) → (l.map f).sum = 0
 | [],_ => rfl
 | x :: l,h => by
   have h1 := h x (by simp)
   have h2 := Qfe f (l := l) fun y hy => h y (by simp [hy])
   simp [h1,h2]
theorem Qby {κ β:Type} [DecidableEq κ] (x:κ × β) (l:List (κ × β)) (k:κ) : Qe (x :: l) k = if k = x.1 then some x.2 else Qe l k := rfl
theorem Qlg {s:Qam} {key:ByteArray} {lo hi:Int} (h:hi ≤ lo) : paS s key lo hi = 0 := by
 unfold paS
 have : (s.filter fun x => decide (x.1.1 = key) && (decide (lo ≤ x.1.2) && decide (x.1.2 < hi))) = [] := by
  rw [List.filter_eq_nil_iff]
  intro x _
  simp
  omega
 rw [this]; rfl
theorem Qou (x:PK × Int) (s:Qam) (key:ByteArray) (lo hi:Int) : paS (x :: s) key lo hi = (if x.1.1 = key ∧ lo ≤ x.1.2 ∧ x.1.2 < hi then x.2 else 0) + paS s key lo hi := by
 unfold paS
 rw [List.filter_cons]
 by_cases h : x.1.1 = key ∧ lo ≤ x.1.2 ∧ x.1.2 < hi
 · rw [if_pos (by simp [h.1,h.2.1,h.2.2]),if_pos h]; simp
 · rw [if_neg (by simpa using h),if_neg h]; omega
theorem Q25 {s:Qam} (hp:s.Pairwise (fun x y => x.1 ≠ y.1)) (key:ByteArray) (lo hi:Int) (h:lo ≤ hi) : paS s key lo (hi + 1) = paS s key lo hi + (Qe s (key,hi)).getD 0 := by
 induction s with
 | nil => simp [paS,Qe]
 | cons x s ih =>
   rw [List.pairwise_cons] at hp
   have ih := ih hp.2
   rw [Qou,Qou,ih,Qby]
   by_cases hk : (key,hi) = x.1
   · rw [if_pos hk]
     have h0 : Qe s (key,hi) = none := Qde.2 fun y hy => by rw [hk]; exact fun e => hp.1 y hy e.symm
     rw [h0,if_pos (by rw [← hk]; simp; omega),if_neg (by rw [← hk]; simp)]
     simp
     omega
   · rw [if_neg hk]
     have : (x.1.1 = key ∧ lo ≤ x.1.2 ∧ x.1.2 < hi + 1) ↔ (x.1.1 = key ∧ lo ≤ x.1.2 ∧ x.1.2 < hi) := by
      constructor
      · rintro ⟨h1,h2,h3⟩
        refine ⟨h1,h2,?_⟩
        have : x.1.2 ≠ hi := fun e => hk (by rw [← h1,← e])
        omega
      · rintro ⟨h1,h2,h3⟩; exact ⟨h1,h2,by omega⟩
     by_cases hc : x.1.1 = key ∧ lo ≤ x.1.2 ∧ x.1.2 < hi
     · rw [if_pos hc,if_pos (this.2 hc)]; omega
     · rw [if_neg hc,if_neg (fun h => hc (this.1 h))]; omega
def Q2h (s:Qam) (key:ByteArray) (lo hi:Int) (row:List Int) : Int := ((row.filter fun n => decide (lo ≤ n) && decide (n < hi)).map fun n => (Qe s (key,n)).getD 0).sum
theorem Qzk (s:Qam) (key:ByteArray) (lo hi:Int) (row:List Int) (n:Int) : Q2h s key lo hi (row ++ [n]) = Q2h s key lo hi row + if lo ≤ n ∧ n < hi then (Qe s (key,n)).getD 0 else 0 := by
 unfold Q2h
 rw [List.filter_append,List.map_append,List.sum_append]
 by_cases h : lo ≤ n ∧ n < hi
 · simp [h.1,h.2]
 · rw [if_neg h]
   have : (decide (lo ≤ n) && decide (n < hi)) = false := by simpa using fun h1 => by omega
   simp [this]
theorem Q21 {s:Qam} (hp:s.Pairwise (fun x y => x.1 ≠ y.1)) (key:ByteArray) (lo hi:Int) : Q2h s key lo hi (Qan s key) = paS s key lo hi := by
 unfold Q2h Qan paS
 rw [List.filter_map,List.map_map,List.filter_filter]
 have : (s.filter fun a => (Function.comp (fun n => decide (lo ≤ n) && decide (n < hi)) fun x : PK × Int => x.1.2) a && decide (a.1.1 = key)) = s.filter fun x => decide (x.1.1 = key) && (decide (lo ≤ x.1.2) && decide (x.1.2 < hi)) := by
  apply List.filter_congr
  intro x _
  simp only [Function.comp]
  rw [Bool.and_comm]
 rw [this]
 congr 1
 apply List.map_congr_left
 intro x hx
 have hm := List.mem_filter.1 hx
 have hk : x.1.1 = key := by have := hm.2; simp at this; exact this.1
 simp only [Function.comp]
 rw [← hk,Qen hp (show ((x.1.1,x.1.2),x.2) ∈ s from hm.1)]
 rfl
theorem Ql0 {s:Qam} {N:Int} (h:Qfs s N) (hN:0 ≤ N) (key:ByteArray) (lo hi:Int) : 0 ≤ paS s key lo hi ∧ paS s key lo hi ≤ s.length * N := by
 have hb := Qbo (fun x:PK × Int => x.2) N (s.filter fun x => decide (x.1.1 = key) && (decide (lo ≤ x.1.2) && decide (x.1.2 < hi))) fun x hx => by
  have := h x (List.mem_filter.1 hx).1
  exact ⟨by omega,this.2⟩
 have hl := List.length_filter_le (fun x:PK × Int => decide (x.1.1 = key) && (decide (lo ≤ x.1.2) && decide (x.1.2 < hi))) s
 unfold paS
 refine ⟨hb.1,Int.le_trans hb.2 (Int.mul_le_mul_of_nonneg_right (by omega) hN)⟩
end Go.Proofs.YtoancknoinilaaaGreatDoor
