/- Several texts in one: Rd3, Pl1, Rd1, Rd2, Pl2, Pl3, Pl4. -/
import Derived.Test.YtnnnbjjenknpeaaGreatDoorGF
import Derived.Laws.IdiomRangeMap
import Derived.Test.YtnnnbjjenknpeaaGreatDoorHKeyL
set_option linter.unusedVariables false
set_option linter.unusedSimpArgs false
namespace Go.Proofs.YtnnnbjjenknpeaaGreatDoor
open Go.Se Go.RowKit
theorem Qi0 (a b:Int) : IntKind.i64.wrap (IntKind.i64.wrap a + b) = IntKind.i64.wrap (a + b) := by
 simp only [IntKind.wrap,IntKind.bits,IntKind.signed]
 simp
 split <;> split <;> split <;> omega
theorem Qx1 (a b:Int) : IntKind.i64.wrap (a + IntKind.i64.wrap b) = IntKind.i64.wrap (a + b) := by
 rw [Int.add_comm,Qi0,Int.add_comm]
theorem Q1r : IntKind.i64.wrap 0 = 0 := by decide
def X9 (age half:Int) : Int := if age < 0 then 0 else if 20 < age / max half 1 then 0 else (1048576:Int).fdiv (2 ^ (age / max half 1).toNat)
theorem Qhb (age half:Int) (ha:-4611686018427387904 ≤ age ∧ age ≤ 4611686018427387904) (w:World) :
 Cal Tryz.prog 160 [.int .i64 age,.int .i64 half] w fun r w' => r = .int .i64 (X9 age half) ∧ w' = w := by
 have hm : max half 1 ≠ 0 := by omega
 refine Fi Tryz.func160 rfl _ rfl rfl ?_;conv=>whnf
 constructor
 · intro hc
   have hc : age < 0 := by simpa using hc
   conv=>whnf
   exact ⟨by rw [X9,if_pos hc],rfl⟩
 · intro hc
   have hc : ¬ age < 0 := by simpa using hc
   have h1 : age.tdiv (max half 1) = age / max half 1 := Int.tdiv_eq_ediv_of_nonneg (by omega)
   have h2 : 0 ≤ age / max half 1 := Int.ediv_nonneg (by omega) (by omega)
   have h3 : age / max half 1 ≤ age := Int.ediv_le_self _ (by omega)
   have hw : X9 age half = if 20 < age / max half 1 then 0 else (1048576:Int).fdiv (2 ^ (age / max half 1).toNat) := by rw [X9,if_neg hc]
   rw [hw]
   clear hw
   conv=>whnf
   refine ⟨age / max half 1,⟨hm,wrap_eq h1.symm ⟨by omega,by omega⟩⟩,?_⟩;conv=>whnf
   generalize age / max half 1 = n at h2 h3 ⊢
   constructor
   · intro hn
     have hn : 20 < n := by simpa using hn
     conv=>whnf
     exact ⟨by rw [if_pos hn],rfl⟩
   · intro hn
     have hn : ¬ 20 < n := by simpa using hn
     have hmin : min n.toNat IntKind.i64.bits = n.toNat := by simp only [IntKind.bits]; omega
     conv=>whnf
     refine ⟨(1048576:Int).fdiv (2 ^ n.toNat),⟨h2,by rw [hmin]⟩,?_⟩;conv=>whnf
     exact ⟨by rw [if_neg hn],rfl⟩
def Ql2 (half now:Int) (r:List (Int × Int)) : Int := (r.map fun x => x.2 * X9 (now - x.1) half).sum
theorem Qvd {l m:List Int} (h:l.Perm m) : l.sum = m.sum := by
 induction h with
 | nil => rfl
 | cons a _ ih => simp [ih]
 | swap a b l => simp only [List.sum_cons]; omega
 | trans _ _ h1 h2 => exact h1.trans h2
theorem Qxo {half now:Int} {r s:List (Int × Int)} (h:r.Perm s) : Ql2 half now r = Ql2 half now s := Qvd (h.map _)
def Qgv (s:Qrj) (half:Int) (key:ByteArray) (now:Int) : Int := IntKind.i64.wrap (Ql2 half now ((Qg s key).getD []))
theorem Q0c {P:Program} {w:World} {mt kt et:TypeId} (ht:P.underlying mt = some (.map kt et)) {R:Value → World → Prop}
 (h:∀ w',Ext w w' → w'.heap[w.heap.size]? = some (.mapIter none 0 #[] 0) → R (.pointer (some ⟨w.heap.size,0,none⟩)) w') : Qj4 P (Instr.range mt (.map none)) w R := by
 refine ⟨_,_,Go.run_range_nilMap w mt kt et ht,h _ ((Below.refl _ _).alloc (Nat.le_refl _) _) (heap_alloc_new w _)⟩
theorem Q2y {P:Program} {w:World} {r:Nat} {a b:Nat} {s:Array Nat} {ty:TypeId} (hr:w.heap[r]? = some (.mapIter none a s b)) {R:Value → World → Prop} (h:R (.tuple #[.bool false]) w) : Qj4 P (Instr.next (.pointer (some ⟨r,0,none⟩)) false ty) w R := by
 refine ⟨_,_,?_,h⟩
 simp only [Instr.next,getObj,Sem.run_bind,Sem.run,hr,Result.andThen]
 rfl
theorem Qxz {vs L:List (Int × Int)} (h:(X7 vi vs).Perm (X7 vi L)) : vs.Perm L := by
 have h1 := h.map (fun x:Int × Value => (x.1,match x.2 with | .int _ n => n | _ => 0))
 simpa [X7,List.map_map,Function.comp_def,vi] using h1
theorem Qv9 (w:World) (S:Nat → Prop) (p:Nat) (half n:Int) (s:Qrj) (h:Qt6 w S p half n s) (key:ByteArray) (now:Int) (hnow:0 ≤ now ∧ now ≤ 1099511627776) (ht:∀ r,Qg s key = some r → ∀ x ∈ r,0 ≤ x.1 ∧ x.1 ≤ 1099511627776) :
 Cal Tryz.prog 152 [.pointer (some ⟨p,0,none⟩),.string key,.int .i64 now] w fun r w' => r = .int .i64 (Qgv s half key now) ∧ Ext w w' := by
 obtain ⟨bm,h⟩ := h
 have hplt := h.head.lt
 have hhead := h.head
 refine Fi Tryz.func152 rfl _ rfl rfl ?_;conv=>whnf
 constructor
 · intro hc
   have hc : now < 0 := by simpa using hc
   omega
 intro _
 conv=>whnf
 refine ⟨.map (some bm),h.head.one rfl,?_⟩;conv=>whnf
 rcases h.sums.look X0 Q3q (Qs Xl) (e := ty270) ty270_ok rfl key with ⟨hno,hrd⟩ | ⟨b,m,Sk,hsome,hrd,hIv,hSk,_⟩
 · have hres : Qgv s half key now = 0 := by unfold Qgv; rw [hno]; exact Q1r
   rw [hres]
   refine ⟨_,hrd .same Qp,?_⟩;conv=>whnf
   refine Q0c Qxx fun w2 hx2 hr2 => ?_
   generalize w.heap.size = r at hr2 ⊢
   conv=>whnf
   refine Qj Qa (fun (_:Unit) w' => w' = w2) (fun _ => [(19,.pointer (some ⟨r,0,none⟩)),(7,.int .i64 0)]) (fun _ => 0) () rfl ⟨rfl,rfl,trivial⟩ ?_
   rintro _ w3 rfl
   conv=>whnf
   refine Q2y hr2 ?_
   conv=>whnf
   constructor
   · intro hh; cases hh
   intro _
   conv=>whnf
   exact ⟨rfl,hx2⟩
 · have hm := hIv.2
   have ht := ht m hsome
   have hres : Qgv s half key now = IntKind.i64.wrap (Ql2 half now m) := by unfold Qgv; rw [hsome]; rfl
   rw [hres]
   refine ⟨_,hrd .same Qp,?_⟩;conv=>whnf
   refine map_range Qxx hm fun w3 hi3 hx3 => ?_
   have hrw : w.heap.size ≤ w.heap.size := Nat.le_refl _
   generalize hr : w.heap.size = r at hi3 ⊢
   conv=>whnf
   refine Qj Qa (fun (q:List (Int × Int) × Int) w' => Ext w w' ∧ Iter w' r b vi (X7 vi m) (X7 vi q.1) ∧ q.2 = IntKind.i64.wrap (Ql2 half now q.1))
    (fun | (vs,z) => [(0,.pointer (some ⟨p,0,none⟩)),(2,.int .i64 now),(19,.pointer (some ⟨r,0,none⟩)),(7,.int .i64 z)]) (fun q => m.length - q.1.length) ([],0) ⟨hx3,hi3,Q1r.symm⟩ ⟨rfl,rfl,rfl,rfl,trivial⟩ ?_
   clear hi3 hx3
   rintro ⟨vs,z⟩ w4 ⟨hx4,hi4,hz⟩
   simp only at hi4 hz
   conv=>whnf
   refine Qf6 hi4 (fun hp => ?_) (fun x w5 hin hnew hlt hi5 ho5 hen => ?_)
   · have hp := Qxz hp
     conv=>whnf
     constructor
     · intro hh; cases hh
     intro _
     conv=>whnf
     exact ⟨by rw [hz,Qxo hp],hx4⟩
   · obtain ⟨y,hy,rfl⟩ := List.mem_map.1 hin
     have hlt : vs.length < m.length := by simpa [X7] using hlt
     have hvs : X7 vi vs ++ [(y.1,vi y.2)] = X7 vi (vs ++ [y]) := by simp [X7]
     rw [hvs] at hi5
     have hx5 := ho5.ext hx4 (by omega)
     have hty := ht y hy
     have hsn : IntKind.i64.wrap (Ql2 half now (vs ++ [y])) = IntKind.i64.wrap (z + IntKind.i64.wrap (y.2 * X9 (now - y.1) half)) := by
      rw [hz,Qi0,Qx1]
      simp [Ql2]
     conv=>whnf
     constructor
     · intro _
       conv=>whnf
       refine Qbo (hen w5 rfl rfl) ?_
       conv=>whnf
       refine ⟨now - y.1,wrap_eq rfl ⟨by omega,by omega⟩,?_⟩;conv=>whnf
       refine ⟨_,(hhead.ext hx5).one rfl,?_⟩;conv=>whnf
       refine (Qhb (now - y.1) half ⟨by omega,by omega⟩ w5).mono ?_
       rintro _ _ ⟨rfl,rfl⟩
       conv=>whnf
       refine ⟨_,rfl,?_⟩;conv=>whnf
       refine ⟨_,rfl,?_⟩;conv=>whnf
       exact ⟨(vs ++ [y],_),by simp; omega,⟨hx5,hi5,hsn.symm⟩,⟨rfl,rfl,rfl,rfl,trivial⟩⟩
     · intro hh; cases hh
instance memDec (a:ByteArray) (l:List ByteArray) : Decidable (a ∈ l) := decidable_of_iff (l.any (fun b => decide (b = a)) = true) (by simp)
def wpB (e:Ev) : Bool := decide (0 < Qu e)
theorem Q1q {e:Ev} (h:wpB e = true) : e.kind = 1 ∨ e.kind = 2 ∨ e.kind = 3 ∨ e.kind = 4 := by
 have h : 0 < Qu e := by simpa [wpB] using h
 unfold Qu at h
 by_cases h1 : e.kind = 1
 · exact .inl h1
 by_cases h2 : e.kind = 2
 · exact .inr (.inl h2)
 by_cases h3 : e.kind = 3
 · exact .inr (.inr (.inl h3))
 by_cases h4 : e.kind = 4
 · exact .inr (.inr (.inr h4))
 rw [if_neg h1,if_neg h2,if_neg h3,if_neg h4] at h
 omega
def Qyv (l:List Ev) : Qrj := l.foldl (fun s e => Qo2 s e.item e.at_ (Qu e)) []
def Qx7 (width:Int) (l:List Ev) : Qac := l.foldl (fun s e => Qoe s (e.item,e.at_ / Q3 width) (Qu e)) []
def Qb3 (l:List Ev) : Ses := l.foldl (fun s e => Ql7 s e.person e.at_ e.item) []
theorem Qr4 (l:List Ev) (e:Ev) : Qyv (l ++ [e]) = Qo2 (Qyv l) e.item e.at_ (Qu e) := by unfold Qyv; rw [List.foldl_append]; rfl
theorem Qs0 (width:Int) (l:List Ev) (e:Ev) : Qx7 width (l ++ [e]) = Qoe (Qx7 width l) (e.item,e.at_ / Q3 width) (Qu e) := by unfold Qx7; rw [List.foldl_append]; rfl
theorem Qe0 (l:List Ev) (e:Ev) : Qb3 (l ++ [e]) = Ql7 (Qb3 l) e.person e.at_ e.item := by unfold Qb3; rw [List.foldl_append]; rfl
theorem Qjl (width:Int) (z:List Ev) : (Qn width z).ds = Qyv (z.filter wpB) ∧ (Qn width z).ps = Qx7 width (z.filter wpB) ∧ (Qn width z).ss = Qb3 (z.filter wpB) := by
 induction z using Qq with
 | h0 => exact ⟨rfl,rfl,rfl⟩
 | h1 l a ih =>
   rw [Qbu,List.filter_append]
   unfold Qct
   cases hw : wpB a with
   | true =>
     have hk := Q1q hw
     have h0 : 0 < Qu a := by simpa [wpB] using hw
     have e1 : [a].filter wpB = [a] := by simp [hw]
     rw [e1,Qr4,Qs0,Qe0,if_neg (by omega),if_neg (by omega),if_pos h0,← ih.1,← ih.2.1,← ih.2.2]
     exact ⟨rfl,rfl,rfl⟩
   | false =>
     have h0 : ¬ 0 < Qu a := by simpa [wpB] using hw
     have e1 : [a].filter wpB = [] := by simp [hw]
     rw [e1,List.append_nil,← ih.1,← ih.2.1,← ih.2.2]
     split
     · exact ⟨rfl,rfl,rfl⟩
     split
     · exact ⟨rfl,rfl,rfl⟩
     exact ⟨rfl,rfl,rfl⟩
def Qz9 (l:List Ev) (half:Int) (key:ByteArray) (now:Int) : Int := ((l.filter fun e => decide (e.item = key)).map fun e => Qu e * X9 (now - e.at_) half).sum
theorem Qvk (f:Int → Int) (t n:Int) : ∀ r : List (Int × Int),((Q7 r t ((Qg r t).getD 0 + n)).map fun x => x.2 * f x.1).sum = (r.map fun x => x.2 * f x.1).sum + n * f t
 | [] => by simp [Q7,Qg]
 | x :: r => by
   have ih := Qvk f t n r
   unfold Q7 Qg
   by_cases h : t = x.1
   · rw [if_pos h,if_pos h]
     simp only [Option.getD_some,List.map_cons,List.sum_cons]
     rw [Int.add_mul,h]
     omega
   · rw [if_neg h,if_neg h]
     simp only [List.map_cons,List.sum_cons]
     rw [ih]
     omega
theorem Q6x (half:Int) (key:ByteArray) (now:Int) : ∀ l : List Ev,(∀ e ∈ l,wpB e = true) → Ql2 half now ((Qg (Qyv l) key).getD []) = Qz9 l half key now := by
 refine Qq (fun _ => by simp [Qyv,Qg,Ql2,Qz9]) fun l e ih h => ?_
 have ih := ih fun x hx => h x (by simp [hx])
 have hw : 0 < Qu e := by simpa [wpB] using h e (by simp)
 rw [Qr4]
 unfold Qz9 Qo2 at *
 rw [if_neg (by omega),List.filter_append,List.map_append,List.sum_append,← ih,Q5]
 by_cases hk : key = e.item
 · subst hk
   rw [if_pos rfl]
   simp only [Option.getD_some]
   have hs := Qvk (fun t => X9 (now - t) half) e.at_ (Qu e) ((Qg (Qyv l) e.item).getD [])
   unfold Ql2
   rw [hs]
   simp
 · rw [if_neg hk]
   have : decide (e.item = key) = false := by simp; exact fun h => hk h.symm
   simp [this]
theorem Q2e : ∀ l : List Ev,∀ key r,Qg (Qyv l) key = some r → ∀ x ∈ r,∃ e ∈ l,e.at_ = x.1 ∧ e.item = key := by
 refine Qq (fun key r h => by simp [Qyv,Qg] at h) fun l e ih key r h x hx => ?_
 rw [Qr4] at h
 unfold Qo2 at h
 split at h
 · obtain ⟨y,hy,h1⟩ := ih key r h x hx
   exact ⟨y,by simp [hy],h1⟩
 · rw [Q5] at h
   by_cases hk : key = e.item
   · rw [if_pos hk] at h
     injection h with h
     subst h
     rcases Qer hx with rfl | hx
     · exact ⟨e,by simp,rfl,hk.symm⟩
     · cases hl : Qg (Qyv l) e.item with
       | none => rw [hl] at hx; simp at hx
       | some r =>
         rw [hl] at hx
         obtain ⟨y,hy,h1⟩ := ih e.item r hl x hx
         exact ⟨y,by simp [hy],h1.1,h1.2.trans hk.symm⟩
   · rw [if_neg hk] at h
     obtain ⟨y,hy,h1⟩ := ih key r h x hx
     exact ⟨y,by simp [hy],h1⟩
theorem Qd1 (age half:Int) : 0 ≤ X9 age half ∧ X9 age half ≤ 1048576 := by
 unfold X9
 split
 · omega
 split
 · omega
 · rw [Int.fdiv_eq_ediv_of_nonneg _ (by exact Int.le_of_lt (Int.pow_pos (by omega)))]
   exact ⟨Int.ediv_nonneg (by omega) (Int.le_of_lt (Int.pow_pos (by omega))),Int.ediv_le_self _ (by omega)⟩
theorem Qbz {α:Type} (f:α → Int) (M:Int) : ∀ l : List α,(∀ x ∈ l,0 ≤ f x ∧ f x ≤ M) → 0 ≤ (l.map f).sum ∧ (l.map f).sum ≤ l.length * M
 | [],_ => by simp
 | x :: l,h => by
   have h1 := h x (by simp)
   have ih := Qbz f M l fun y hy => h y (by simp [hy])
   simp only [List.map_cons,List.sum_cons,List.length_cons]
   have : ((l.length + 1 : Nat) : Int) * M = l.length * M + M := by
    rw [show ((l.length + 1 : Nat) : Int) = (l.length : Int) + 1 by omega,Int.add_mul]; omega
   rw [this]
   omega
theorem Qqj {l:List Ev} (hm:∀ e ∈ l,Xm e = true) (half:Int) (key:ByteArray) (now:Int) : 0 ≤ Qz9 l half key now ∧ Qz9 l half key now ≤ l.length * 5242880 := by
 have h := Qbz (fun e:Ev => Qu e * X9 (now - e.at_) half) 5242880 (l.filter fun e => decide (e.item = key)) fun e he => by
  have h1 := Qgc (hm e (List.mem_filter.1 he).1)
  have h2 := Qd1 (now - e.at_) half
  refine ⟨Int.mul_nonneg h1.1 h2.1,?_⟩
  calc Qu e * X9 (now - e.at_) half ≤ 5 * 1048576 := Int.mul_le_mul h1.2 h2.2 h2.1 (by omega)
   _ = 5242880 := by omega
 have hl := List.length_filter_le (fun e:Ev => decide (e.item = key)) l
 unfold Qz9
 refine ⟨h.1,Int.le_trans h.2 ?_⟩
 exact Int.mul_le_mul_of_nonneg_right (by omega) (by omega)
def paE (l:List Ev) (width:Int) (key:ByteArray) (lo hi:Int) : Int := ((l.filter fun e => decide (e.item = key) && (decide (lo ≤ e.at_ / Q3 width) && decide (e.at_ / Q3 width < hi))).map Qu).sum
def paS (s:Qac) (key:ByteArray) (lo hi:Int) : Int := ((s.filter fun x => decide (x.1.1 = key) && (decide (lo ≤ x.1.2) && decide (x.1.2 < hi))).map (·.2)).sum
theorem Qvb (key:ByteArray) (lo hi:Int) (c:PK) (n:Int) : ∀ s : Qac,paS (Q7 s c ((Qg s c).getD 0 + n)) key lo hi = paS s key lo hi + if (decide (c.1 = key) && (decide (lo ≤ c.2) && decide (c.2 < hi))) = true then n else 0
 | [] => by
   unfold paS
   simp only [Q7,Qg,Option.getD_none,Int.zero_add,List.filter_cons,List.filter_nil]
   split <;> simp
 | x :: s => by
   have ih := Qvb key lo hi c n s
   unfold paS at *
   unfold Q7 Qg
   by_cases h : c = x.1
   · rw [if_pos h,if_pos h]
     simp only [Option.getD_some,List.filter_cons]
     rw [← h]
     split
     · simp only [List.map_cons,List.sum_cons]; omega
     · simp
   · rw [if_neg h,if_neg h]
     simp only [List.filter_cons]
     split
     · simp only [List.map_cons,List.sum_cons]; rw [ih]; omega
     · exact ih
theorem Q38 (width:Int) (key:ByteArray) (lo hi:Int) : ∀ l : List Ev,(∀ e ∈ l,wpB e = true) → paS (Qx7 width l) key lo hi = paE l width key lo hi := by
 refine Qq (fun _ => by simp [Qx7,paS,paE]) fun l e ih h => ?_
 have ih := ih fun x hx => h x (by simp [hx])
 have hw : 0 < Qu e := by simpa [wpB] using h e (by simp)
 rw [Qs0]
 unfold Qoe paE at *
 rw [if_neg (by omega),Qvb,ih,List.filter_append,List.map_append,List.sum_append]
 simp only [List.filter_cons,List.filter_nil]
 split <;> simp
theorem Qvc {l:List Ev} (hm:∀ e ∈ l,Xm e = true) (width:Int) (key:ByteArray) (lo hi:Int) : 0 ≤ paE l width key lo hi ∧ paE l width key lo hi ≤ l.length * 5 := by
 have h := Qbz Qu 5 (l.filter fun e => decide (e.item = key) && (decide (lo ≤ e.at_ / Q3 width) && decide (e.at_ / Q3 width < hi))) fun e he => Qgc (hm e (List.mem_filter.1 he).1)
 have hl := List.length_filter_le (fun e:Ev => decide (e.item = key) && (decide (lo ≤ e.at_ / Q3 width) && decide (e.at_ / Q3 width < hi))) l
 unfold paE
 refine ⟨h.1,Int.le_trans h.2 ?_⟩
 exact Int.mul_le_mul_of_nonneg_right (by omega) (by omega)
def Xv (l:List ByteArray) : List ByteArray := l.mergeSort fun a b => !bLt b a
theorem Qzg (a b c:ByteArray) (h1:(!bLt b a) = true) (h2:(!bLt c b) = true) : (!bLt c a) = true := by
 rw [Bool.not_eq_true'] at *
 cases h : bLt c a with
 | false => rfl
 | true =>
   cases hab : bLt a b with
   | true => rw [Qbt h hab] at h2; cases h2
   | false => rw [Qb7 hab h1] at h; rw [h] at h2; cases h2
theorem Qzf (a b:ByteArray) : ((!bLt b a) || (!bLt a b)) = true := by
 cases h : bLt b a with
 | false => rfl
 | true => rw [Qch h]; rfl
theorem Qa9 (l:List ByteArray) : (Xv l).Perm l := List.mergeSort_perm _ _
theorem Qh0 (l:List ByteArray) : Srt bLt (Xv l) := by
 have := List.pairwise_mergeSort (le := fun a b => !bLt b a) Qzg Qzf l
 exact this.imp fun h => by simpa using h
theorem Qcp {l z:List ByteArray} (hp:z.Perm l) (hs:Srt bLt z) : z = Xv l :=
 List.Perm.eq_of_pairwise (le := fun a b => bLt b a = false) (fun a b _ _ h1 h2 => Qb7 h2 h1) hs (Qh0 l) (hp.trans (Qa9 l).symm)
theorem Qhz {l:List ByteArray} {x:ByteArray} : x ∈ Xv l ↔ x ∈ l := (Qa9 l).mem_iff
theorem Qel (l:List ByteArray) : (Xv l).length = l.length := (Qa9 l).length_eq
def Qdm (l:List Int) : List Int := l.mergeSort fun x y => decide (x ≤ y)
theorem Qc7 (l:List Int) : (Qdm l).Perm l := List.mergeSort_perm _ _
theorem Qle (l:List Int) : (Qdm l).Pairwise (· ≤ ·) := by
 have := List.pairwise_mergeSort (le := fun x y : Int => decide (x ≤ y)) (fun a b c h1 h2 => by simp at *; omega) (fun a b => by simp; omega) l
 exact this.imp fun h => by simpa using h
theorem Qqx {l z:List Int} (hp:z.Perm l) (hs:z.Pairwise (· ≤ ·)) : z = Qdm l :=
 List.Perm.eq_of_pairwise (le := (· ≤ ·)) (fun a b _ _ h1 h2 => Int.le_antisymm h1 h2) hs (Qle l) (hp.trans (Qc7 l).symm)
theorem Qld {l:List Int} {x:Int} : x ∈ Qdm l ↔ x ∈ l := (Qc7 l).mem_iff
theorem Qqu (l:List Int) : (Qdm l).length = l.length := (Qc7 l).length_eq
section
open Go.Maps Go.Sort Go.Shelf Go.WideElems
open Go.WideMaps (keyOf_string_mk)
open Go.WideShapes (sorted_perm)
theorem Quv {κ:Type} {enc:κ → Value} {P:Program} {k:TypeId} {w:World} {b:Nat} {L:List (κ × Value)} (hm:MapAt w b enc L) (hinj:∀ a b,enc a = enc b → a = b) (lit:κ → Lit) (hk:∀ x ∈ L,keyOf P k (enc x.1) = some (lit x.1)) (hl:L.length ≤ 1000000000) :
 ∃ es : List (Lit × DataW Unit),w.ownsMap P k (fun _ => some (.nil,[])) b L.length (.map es) ∧ es.Perm (L.map fun x => (lit x.1,.nil)) := by
 obtain ⟨E,clock,hE,rfl⟩ := hm
 have hEl : (strip E).length = E.length := by simp [strip]
 have hrd : ∀ x ∈ E,rd (H := Unit) P k (fun _ => some (.nil,[])) (mkE enc x) = some (lit x.1,.nil) := fun x hx =>
  Go.WideElems.rd_mk (P := P) (k := k) (R := fun _ => some (.nil,[])) (val := x.2.1) (born := x.2.2) (yv := (.nil,[])) (hk (x.1,x.2.1) (List.mem_map.2 ⟨x,hx,rfl⟩)) rfl
 refine ⟨_,⟨_,clock,hE.block,⟨?_,⟨?_,?_,?_⟩,?_⟩,?_,rfl⟩,?_⟩
 · rw [hEl] at hl; simp only [List.size_toArray,List.length_map]; unfold maxLen; omega
 · intro x hx
   simp only [List.mem_map] at hx
   obtain ⟨y,hy,rfl⟩ := hx
   exact hE.below y hy
 · simp only [List.map_map]
   rw [List.nodup_iff_pairwise_ne,List.pairwise_map]
   exact hE.rising.imp fun h => by simp only [mkE,Function.comp]; omega
 · simp only [List.map_map]
   rw [List.nodup_iff_pairwise_ne,List.pairwise_map]
   exact hE.keys.imp fun h e => h (hinj _ _ e)
 · intro x hx
   simp only [List.mem_map] at hx
   obtain ⟨y,hy,rfl⟩ := hx
   exact ⟨_,hrd y hy⟩
 · rw [hEl]; simp
 · refine (sorted_perm _).trans ?_
   have : (E.map (mkE enc)).toArray.toList.map (rg (H := Unit) P k (fun _ => some (.nil,[]))) = (strip E).map fun x => (lit x.1,.nil) := by
    simp only [strip,List.map_map]
    exact List.map_congr_left fun x hx => rg_of (hrd x hx)
   rw [this]
theorem Qei {α:Type} {enc:α → List Value} {sz:Nat} {te:TypeId} {base:Nat} {w:World} {v:Value} {l:List α} {n:Nat} {xs:List Value} (h:w.ownsRow base te sz v n xs) (hn:n = l.length) (hx:xs = l.flatMap enc) :
 ∃ A c,v = .slice A l.length c ∧ Own enc sz te base w A c l := by
 subst hn hx
 unfold Own
 rcases h with ⟨h1,⟨h2,h3⟩ | ⟨g,cap,cur,h2,h3⟩⟩
 · refine ⟨none,0,by rw [h2,h3],h1,.inl ⟨by rw [h3],h3⟩⟩
 · exact ⟨_,cap,h2,h1,.inr ⟨g,cap,cur,rfl,h3⟩⟩
theorem Qhe {α:Type} {enc:α → List Value} {sz:Nat} {te:TypeId} {b1 b2:Nat} {w:World} {A:Option Addr} {c:Nat} {l:List α} (h:Own enc sz te b1 w A c l) (hb:b2 ≤ b1) : Own enc sz te b2 w A c l := by
 unfold Own at *
 rcases h with ⟨h1,h2 | ⟨g,cap,cur,h2,h3,h4⟩⟩
 · exact ⟨h1,.inl h2⟩
 · exact ⟨h1,.inr ⟨g,cap,cur,h2,by omega,h4⟩⟩
theorem Qhp {α:Type} (f:α → Value) (l:List α) : l.flatMap (fun x => [f x]) = l.map f := by induction l with | nil => rfl | cons a l ih => simp [ih]
theorem Qjd {P:Program} {ρ6:Ren} (S:SlLaysZ.n6 P ρ6) (hsort:∀ m,AnyZ.SortsIn P ρ6 Fence.wide m) (e9:∀ args w,(callFunc (ρ6.f 9) args).run P w = .ok (.enter (ρ6.f 9) args) w) {g:Nat} {lb:Array Value} (eg:∀ args w,(callFunc g args).run P w = .ok (.enter g args) w)
 (hok:Qnb P (ρ6.f 6)) {w:World} {l:List ByteArray} {N:Nat} {Q:List (List UInt8) → Prop} (hQ:∀ ss,Q ss → ss.Perm (l.map fun x => x.data.toList)) (hN:N ≤ 1000000000) (hseq:SeqGives Fence.wide 2 P g lb encStr Q N w) :
 Cal P (ρ6.f 6) [.func (.func g) #[] lb] w fun r w' => ∃ A c,r = .slice A (Xv l).length c ∧ Own Qdq 1 (ρ6.t 26) w.heap.size w' A c (Xv l) ∧ Ext w w' := by
 have hS := AnyZ.sorted_in S Fence.wide 5 trivial trivial trivial trivial rfl (by omega) (hsort _) e9 g lb trivial eg _ N (by unfold maxLen; omega) (by omega) w hseq
 refine ⟨hok,(callsIn_wide.1 hS).mono ?_⟩
 rintro e w' ⟨v,ss,rfl,hp,hrow,_,hb⟩
 have hkeys := hQ ss hp
 have hz : (ss.mergeSort fun x y => decide (x ≤ y)).map (fun x => (⟨x.toArray⟩ : ByteArray)) = Xv l := by
  apply Qcp
  · have h1 := (List.mergeSort_perm ss fun x y => decide (x ≤ y)).trans hkeys
    have h2 := h1.map (fun x => (⟨x.toArray⟩ : ByteArray))
    simpa [List.map_map,Function.comp_def] using h2
  · unfold Srt
    rw [List.pairwise_map]
    have := List.pairwise_mergeSort (le := fun x y : List UInt8 => decide (x ≤ y)) (fun a b c h1 h2 => by simp only [decide_eq_true_eq] at *; exact List.le_trans h1 h2) (fun a b => by simp only [Bool.or_eq_true,decide_eq_true_eq]; exact List.le_total a b) ss
    refine this.imp fun {a b} h => ?_
    simp only [decide_eq_true_eq] at h
    unfold bLt
    rw [ByteArray.toList_eq,ByteArray.toList_eq,bytesLess_eq]
    simpa using h
 obtain ⟨A,c,hv,ho⟩ := Qei (enc := Qdq) (l := Xv l) hrow (by rw [← hz]; simp) (by
  rw [← hz,show Qdq = fun x => [Value.string x] from rfl,Qhp,List.map_map]; rfl)
 exact ⟨v,rfl,A,c,hv,ho,hb⟩
theorem Qjc {P:Program} {ρ6:Ren} (S:SlLaysZI.n6 P ρ6) (hsort:∀ m,AnyZI.SortsIn P ρ6 Fence.wide m) (e9:∀ args w,(callFunc (ρ6.f 9) args).run P w = .ok (.enter (ρ6.f 9) args) w) {g:Nat} {lb:Array Value} (eg:∀ args w,(callFunc g args).run P w = .ok (.enter g args) w)
 (hok:Qnb P (ρ6.f 6)) {w:World} {l:List Int} {N:Nat} {Q:List Int → Prop} (hQ:∀ ss,Q ss → ss.Perm l) (hN:N ≤ 1000000000) (hseq:SeqGives Fence.wide 2 P g lb (Value.int .i64) Q N w) :
 Cal P (ρ6.f 6) [.func (.func g) #[] lb] w fun r w' => ∃ A c,r = .slice A (Qdm l).length c ∧ Own Qjs 1 (ρ6.t 26) w.heap.size w' A c (Qdm l) ∧ Ext w w' := by
 have hS := AnyZI.sorted_in S Fence.wide 5 trivial trivial trivial trivial rfl (by omega) (hsort _) e9 g lb trivial eg _ N (by unfold maxLen; omega) (by omega) w hseq
 refine ⟨hok,(callsIn_wide.1 hS).mono ?_⟩
 rintro e w' ⟨v,ss,rfl,hp,hrow,_,hb⟩
 have hz : (ss.mergeSort fun x y => decide (x ≤ y)) = Qdm l := Qqx ((Qc7 ss).trans (hQ ss hp)) (Qle ss)
 obtain ⟨A,c,hv,ho⟩ := Qei (enc := Qjs) (l := Qdm l) hrow (by rw [← hz]; simp) (by
  rw [← hz,show Qjs = fun x => [Value.int .i64 x] from rfl,Qhp])
 exact ⟨v,rfl,A,c,hv,ho,hb⟩
theorem Qp3 {P:Program} {ρ7:Ren} (K:SlLaysZ.n10 P ρ7) {w:World} {Bm b:Nat} {L:List (ByteArray × Value)} (hc:w.cell? ⟨Bm,0,none⟩ = some (.map (some b))) (hm:MapAt w b Value.string L) (hk:∀ x ∈ L,x.1.size ≤ 1000000) (hl:L.length ≤ 1000000000) :
 ∃ N Q,N ≤ 1000000000 ∧ (∀ ss : List (List UInt8),Q ss → ss.Perm ((L.map (·.1)).map fun x => x.data.toList)) ∧ SeqGives Fence.wide 2 P (ρ7.f 10) #[.pointer (some ⟨Bm,0,none⟩)] encStr Q N w := by
 obtain ⟨es,hown,hes⟩ := Quv (P := P) (k := ρ7.t 26) hm (fun a b e => by simpa using e) (fun x => .string x.data.toList) (fun x hx => keyOf_string_mk K.t26 (by have := hk x hx; unfold maxLen; omega)) hl
 have hsz : Maps.size (.map es) = L.length := by
  have := hes.length_eq
  simp at this
  simpa [Maps.size] using this
 refine ⟨_,_,?_,fun ss hp => ?_,AnyZ.keys_gives K Fence.wide 2 trivial rfl (by omega) Bm b _ _ w (cell_lt hc) hc hown⟩
 · rw [hsz]; exact hl
 · refine hp.trans ?_
   simp only [strKeys]
   refine (hes.map _).trans ?_
   rw [List.map_map,List.map_map]
   exact List.Perm.refl _
theorem Qzb {P:Program} {ρ7:Ren} (K:SlLaysZI.n10 P ρ7) {w:World} {Bm b:Nat} {L:List (Int × Value)} (hc:w.cell? ⟨Bm,0,none⟩ = some (.map (some b))) (hm:MapAt w b vi L) (hk:∀ x ∈ L,0 ≤ x.1 ∧ x.1 ≤ 4611686018427387904) (hl:L.length ≤ 1000000000) :
 ∃ N Q,N ≤ 1000000000 ∧ (∀ ss : List Int,Q ss → ss.Perm (L.map (·.1))) ∧ SeqGives Fence.wide 2 P (ρ7.f 10) #[.pointer (some ⟨Bm,0,none⟩)] (Value.int .i64) Q N w := by
 obtain ⟨es,hown,hes⟩ := Quv (P := P) (k := ρ7.t 26) hm (fun a b e => by simpa [vi] using e) (fun x => .int .i64 x) (fun x hx => keyOf_int_mk K.t26 (by
  have := hk x hx
  simp only [Lit.wf,Bool.and_eq_true,decide_eq_true_eq,show IntKind.i64.min = -9223372036854775808 from by decide,show IntKind.i64.max = 9223372036854775807 from by decide]
  omega)) hl
 have hsz : Maps.size (.map es) = L.length := by
  have := hes.length_eq
  simp at this
  simpa [Maps.size] using this
 refine ⟨_,_,?_,fun ss hp => ?_,AnyZI.keys_gives K Fence.wide 2 trivial rfl (by omega) Bm b _ _ w (cell_lt hc) hc hown⟩
 · rw [hsz]; exact hl
 · refine hp.trans ?_
   simp only [intKeys]
   refine (hes.map _).trans ?_
   rw [List.map_map]
   exact List.Perm.refl _
theorem Qu6 (w:World) (v:Value) (t:TypeId) : (w.alloc (.cells #[v] t)).cell? ⟨w.heap.size,0,none⟩ = some v := by
 exact cell_one_new w v t 0 v rfl
theorem Qp2 {P:Program} {ρ7:Ren} (K:SlLaysZ.n7 P ρ7) (hok:Qnb P (ρ7.f 7)) (mb:Option Nat) (w:World) :
 Cal P (ρ7.f 7) [.map mb] w fun r w' => r = .func (.func (ρ7.f 10)) #[] #[.pointer (some ⟨w.heap.size,0,none⟩)] ∧ w'.cell? ⟨w.heap.size,0,none⟩ = some (.map mb) ∧ Ext w w' := by
 refine ⟨hok,(callsIn_wide.1 (AnyZ.keys_in K Fence.wide 5 trivial rfl mb w)).mono ?_⟩
 rintro e w' ⟨rfl,rfl⟩
 exact ⟨_,rfl,rfl,Qu6 _ _ _,(Below.refl _ _).alloc (Nat.le_refl _) _⟩
theorem Qza {P:Program} {ρ7:Ren} (K:SlLaysZI.n7 P ρ7) (hok:Qnb P (ρ7.f 7)) (mb:Option Nat) (w:World) :
 Cal P (ρ7.f 7) [.map mb] w fun r w' => r = .func (.func (ρ7.f 10)) #[] #[.pointer (some ⟨w.heap.size,0,none⟩)] ∧ w'.cell? ⟨w.heap.size,0,none⟩ = some (.map mb) ∧ Ext w w' := by
 refine ⟨hok,(callsIn_wide.1 (AnyZI.keys_in K Fence.wide 5 trivial rfl mb w)).mono ?_⟩
 rintro e w' ⟨rfl,rfl⟩
 exact ⟨_,rfl,rfl,Qu6 _ _ _,(Below.refl _ _).alloc (Nat.le_refl _) _⟩
end
end Go.Proofs.YtnnnbjjenknpeaaGreatDoor
namespace Go.Proofs.YtnnnbjjenknpeaaGreatDoor
open Go.Se Go.RowKit
open Go.Maps Go.Sort Go.Shelf
theorem Qlg : Xv [] = [] := by simp [Xv]
theorem Qqv : Qdm [] = [] := by simp [Qdm]
theorem Q4h (m:Nat) : AnyZ.SortsIn Tryz.prog Tryz.sorted171_ren Fence.wide m :=
 ⟨fun blk off cap ss W h1 h2 h3 => callsIn_wide.2 (AnyM.slices_Sort_string Tryz.sort215 blk off cap ss W h1 h2 h3),fun p cap W => callsIn_wide.2 (AnyM.slices_Sort_string_none Tryz.sort215 p cap W)⟩
theorem Q4g (m:Nat) : AnyZI.SortsIn Tryz.prog Tryz.sorted246_ren Fence.wide m :=
 ⟨fun blk off cap ss W h1 h2 h3 => callsIn_wide.2 (AnyM.slices_Sort_int Tryz.sort284 blk off cap ss W h1 h2 h3),fun p cap W => callsIn_wide.2 (AnyM.slices_Sort_int_none Tryz.sort284 p cap W)⟩
theorem Qmp (mb:Option Nat) (w:World) : Cal Tryz.prog 230 [.map mb] w fun r w' => r = .func (.func 269) #[] #[.pointer (some ⟨w.heap.size,0,none⟩)] ∧ w'.cell? ⟨w.heap.size,0,none⟩ = some (.map mb) ∧ Ext w w' :=
 Qp2 Tryz.keys230 ⟨_,Tryz.func230,rfl,rfl⟩ mb w
theorem Qjb {w:World} {Bm b:Nat} {L:List (ByteArray × Value)} (hc:w.cell? ⟨Bm,0,none⟩ = some (.map (some b))) (hm:MapAt w b Value.string L) (hk:∀ x ∈ L,x.1.size ≤ 1000000) (hl:L.length ≤ 1000000000) :
 Cal Tryz.prog 171 [.func (.func 269) #[] #[.pointer (some ⟨Bm,0,none⟩)]] w fun r w' => ∃ A c,r = .slice A (Xv (L.map (·.1))).length c ∧ Own Qdq 1 9 w.heap.size w' A c (Xv (L.map (·.1))) ∧ Ext w w' := by
 obtain ⟨N,Q,h1,h2,h3⟩ := Qp3 { Tryz.keys230 with } hc hm hk hl
 exact Qjd Tryz.sorted171 Q4h (enters_of Tryz.func215 (by kernel_rfl) rfl) (enters_of Tryz.func269 (by kernel_rfl) rfl) ⟨_,Tryz.func171,rfl,rfl⟩ h2 h1 h3
theorem Qwo (mb:Option Nat) (w:World) : Cal Tryz.prog 172 [.map mb] w fun r w' => r = .func (.func 216) #[] #[.pointer (some ⟨w.heap.size,0,none⟩)] ∧ w'.cell? ⟨w.heap.size,0,none⟩ = some (.map mb) ∧ Ext w w' :=
 Qp2 Tryz.keys172 ⟨_,Tryz.func172,rfl,rfl⟩ mb w
theorem Qq1 {w:World} {Bm b:Nat} {L:List (ByteArray × Value)} (hc:w.cell? ⟨Bm,0,none⟩ = some (.map (some b))) (hm:MapAt w b Value.string L) (hk:∀ x ∈ L,x.1.size ≤ 1000000) (hl:L.length ≤ 1000000000) :
 Cal Tryz.prog 171 [.func (.func 216) #[] #[.pointer (some ⟨Bm,0,none⟩)]] w fun r w' => ∃ A c,r = .slice A (Xv (L.map (·.1))).length c ∧ Own Qdq 1 9 w.heap.size w' A c (Xv (L.map (·.1))) ∧ Ext w w' := by
 obtain ⟨N,Q,h1,h2,h3⟩ := Qp3 { Tryz.keys172 with } hc hm hk hl
 exact Qjd Tryz.sorted171 Q4h (enters_of Tryz.func215 (by kernel_rfl) rfl) (enters_of Tryz.func216 (by kernel_rfl) rfl) ⟨_,Tryz.func171,rfl,rfl⟩ h2 h1 h3
theorem Qmq (mb:Option Nat) (w:World) : Cal Tryz.prog 247 [.map mb] w fun r w' => r = .func (.func 285) #[] #[.pointer (some ⟨w.heap.size,0,none⟩)] ∧ w'.cell? ⟨w.heap.size,0,none⟩ = some (.map mb) ∧ Ext w w' :=
 Qza Tryz.keys247 ⟨_,Tryz.func247,rfl,rfl⟩ mb w
theorem Qq0 {w:World} {Bm b:Nat} {L:List (Int × Value)} (hc:w.cell? ⟨Bm,0,none⟩ = some (.map (some b))) (hm:MapAt w b vi L) (hk:∀ x ∈ L,0 ≤ x.1 ∧ x.1 ≤ 4611686018427387904) (hl:L.length ≤ 1000000000) :
 Cal Tryz.prog 246 [.func (.func 285) #[] #[.pointer (some ⟨Bm,0,none⟩)]] w fun r w' => ∃ A c,r = .slice A (Qdm (L.map (·.1))).length c ∧ Own Qjs 1 3 w.heap.size w' A c (Qdm (L.map (·.1))) ∧ Ext w w' := by
 obtain ⟨N,Q,h1,h2,h3⟩ := Qzb { Tryz.keys247 with } hc hm hk hl
 exact Qjc Tryz.sorted246 Q4g (enters_of Tryz.func284 (by kernel_rfl) rfl) (enters_of Tryz.func285 (by kernel_rfl) rfl) ⟨_,Tryz.func246,rfl,rfl⟩ h2 h1 h3
theorem Qth {w:World} {Bm:Nat} (hc:w.cell? ⟨Bm,0,none⟩ = some (.map none)) :
 Cal Tryz.prog 246 [.func (.func 285) #[] #[.pointer (some ⟨Bm,0,none⟩)]] w fun r w' => ∃ A c,r = .slice A 0 c ∧ Own Qjs 1 3 w.heap.size w' A c [] ∧ Ext w w' := by
 have := Qjc Tryz.sorted246 Q4g (enters_of Tryz.func284 (by kernel_rfl) rfl) (enters_of Tryz.func285 (by kernel_rfl) rfl) ⟨_,Tryz.func246,rfl,rfl⟩ (l := []) (fun ss (h:ss = []) => by rw [h]) (Nat.zero_le _) (AnyZI.keys_gives_nil { Tryz.keys247 with } Fence.wide 2 trivial rfl Bm w (cell_lt hc) hc)
 simp only [Qlg,Qqv,List.length_nil] at this
 exact this
end Go.Proofs.YtnnnbjjenknpeaaGreatDoor
namespace Go.Proofs.YtnnnbjjenknpeaaGreatDoor
open Go.Se Go.RowKit
def Qx4 : List ByteArray → List ByteArray
 | [] => []
 | a :: l => if a ∈ l then Qx4 l else a :: Qx4 l
theorem Qf2 {x:ByteArray} : ∀ {l:List ByteArray},x ∈ Qx4 l ↔ x ∈ l
 | [] => Iff.rfl
 | a :: l => by
   have ih := Qf2 (x := x) (l := l)
   unfold Qx4
   split
   · next h =>
     rw [ih,List.mem_cons]
     constructor
     · exact .inr
     · rintro (rfl | h1)
       · exact h
       · exact h1
   · rw [List.mem_cons,List.mem_cons,ih]
theorem Qea : ∀ l : List ByteArray,(Qx4 l).Nodup
 | [] => List.nodup_nil
 | a :: l => by
   have ih := Qea l
   unfold Qx4
   split
   · exact ih
   · next h => exact List.nodup_cons.2 ⟨fun h1 => h (Qf2.1 h1),ih⟩
def Qen (l:List ByteArray) : List ByteArray := Xv (Qx4 l)
theorem Qc2 {l:List ByteArray} {x:ByteArray} : x ∈ Qen l ↔ x ∈ l := by unfold Qen; rw [Qhz,Qf2]
theorem Qm1 (l:List ByteArray) : (Qen l).Nodup := (Qa9 _).nodup_iff.2 (Qea l)
theorem Qs9 {K l:List ByteArray} (hn:K.Nodup) (hm:∀ x,x ∈ K ↔ x ∈ l) : Xv K = Qen l := by
 have hp : K.Perm (Qx4 l) := Qcn hn (Qea l) (fun x hx => Qf2.2 ((hm x).1 hx)) (fun x hx => (hm x).2 (Qf2.1 hx))
 exact Qcp ((Qa9 K).trans hp) (Qh0 K)
theorem Qm0 {k l:List ByteArray} (hm:∀ x,x ∈ k ↔ x ∈ l) : Qen k = Qen l := Qs9 (Qea k) fun x => Qf2.trans (hm x)
theorem Q3c (l:List ByteArray) : (Qen l).length ≤ l.length := by
 unfold Qen
 rw [Qel]
 induction l with
 | nil => simp [Qx4]
 | cons a l ih => unfold Qx4; split <;> simp <;> omega
theorem Qca {β:Type} {L:List (ByteArray × β)} (h:L.Pairwise (fun x y => x.1 ≠ y.1)) : (L.map (·.1)).Nodup := by
 rw [List.nodup_iff_pairwise_ne,List.pairwise_map]; exact h
theorem Qjv {β:Type} {L:List (ByteArray × β)} {k:ByteArray} : k ∈ L.map (·.1) ↔ (Qg L k).isSome = true := by
 cases h : Qg L k with
 | none =>
   have := Qc4.1 h
   simp only [List.mem_map,Option.isSome_none,Bool.false_eq_true,iff_false]
   rintro ⟨x,hx,rfl⟩
   exact this x hx rfl
 | some v =>
   have := Qcg h
   simp only [Option.isSome_some,iff_true,List.mem_map]
   exact ⟨_,this,rfl⟩
abbrev Grp := Int × Int × List ByteArray
def Qbv (gap:Int) (acc:List Grp) (t:Int) (its:List ByteArray) : List Grp :=
 match acc.getLast? with
 | some g => if gap < t - g.2.1 then acc ++ [(t,t,its)] else acc.dropLast ++ [(g.1,t,g.2.2 ++ its)]
 | none => [(t,t,its)]
abbrev Qdn := List (Int × List (ByteArray × Bool))
def Xf (k:Qdn) (t:Int) : List ByteArray := ((Qg k t).getD []).map (·.1)
def Qev (gap:Int) (k:Qdn) (ts:List Int) : List Grp := ts.foldl (fun acc t => Qbv gap acc t (Xf k t)) []
def Q6g (gap:Int) (k:Qdn) : List Grp := Qev gap k (Qdm (k.map (·.1)))
theorem Qf4 (gap:Int) (k:Qdn) (ts:List Int) (t:Int) : Qev gap k (ts ++ [t]) = Qbv gap (Qev gap k ts) t (Xf k t) := by unfold Qev; rw [List.foldl_append]; rfl
structure Sn where
 person : ByteArray
 from_ : Int
 to_ : Int
 items : List ByteArray
deriving DecidableEq,Inhabited
def Qx8 (person:ByteArray) (g:Grp) : Sn := ⟨person,g.1,g.2.1,Qen g.2.2⟩
def Qbr (gap:Int) (ss:Ses) (person:ByteArray) : List Sn := (Q6g gap ((Qg ss person).getD [])).map (Qx8 person)
def Qe3 (gap:Int) (ss:Ses) : List Sn := (Xv (ss.map (·.1))).flatMap (Qbr gap ss)
theorem Q5e (gap:Int) (acc:List Grp) (t:Int) (its:List ByteArray) : (Qbv gap acc t its).length ≤ acc.length + 1 := by
 unfold Qbv
 split
 · next g h =>
   split
   · simp
   · simp
 · simp
theorem Qy0 (gap:Int) (k:Qdn) : ∀ ts : List Int,(Qev gap k ts).length ≤ ts.length := by
 refine Qq (by simp [Qev]) fun l t ih => ?_
 rw [Qf4]
 have := Q5e gap (Qev gap k l) t (Xf k t)
 simp; omega
theorem Q2q (gap:Int) (k:Qdn) : (Q6g gap k).length ≤ k.length := by
 have := Qy0 gap k (Qdm (k.map (·.1)))
 rw [Qqu,List.length_map] at this
 exact this
def hasB (a:ByteArray) (s:Sn) : Bool := decide (a ∈ s.items)
def Xu (S:List Sn) (a:ByteArray) : Nat := (S.filter (hasB a)).length
def Qc0 (S:List Sn) (a b:ByteArray) : Nat := (S.filter fun s => hasB a s && hasB b s).length
theorem Qfu (S:List Sn) (a:ByteArray) : Xu S a ≤ S.length := List.length_filter_le _ _
theorem Qsx (S:List Sn) (a b:ByteArray) : Qc0 S a b ≤ S.length := List.length_filter_le _ _
theorem Qqd (S:List Sn) (a b:ByteArray) : Qc0 S a b ≤ Xu S a := by
 unfold Qc0 Xu
 induction S with
 | nil => simp
 | cons s S ih =>
   simp only [List.filter_cons]
   cases hasB a s <;> cases hasB b s <;> simp <;> omega
theorem Qz2 (S:List Sn) (a b:ByteArray) : Qc0 S a b = Qc0 S b a := by
 unfold Qc0
 congr 1
 apply List.filter_congr
 intro s _
 rw [Bool.and_comm]
def Qed (S:List Sn) (a b:ByteArray) : Int × Int :=
 if Xu S a = 0 ∨ Xu S b = 0 then (0,1) else if a = b then (1,1) else ((Qc0 S a b:Int) * Qc0 S a b,(Xu S a:Int) * Xu S b)
def Q3a (a b:Int × Int) : Bool := decide (a.1 * b.2 < b.1 * a.2)
def Qcw (S:List Sn) (item:ByteArray) (b:Int × Int) (e:Ev) : Int × Int :=
 if Qu e ≤ 0 ∨ e.item = item then b else if Q3a b (Qed S item e.item) = true then Qed S item e.item else b
def Qgd (S:List Sn) (item:ByteArray) (h:List Ev) : Int × Int := h.foldl (Qcw S item) (0,1)
theorem Qme (S:List Sn) (item:ByteArray) (h:List Ev) (e:Ev) : Qgd S item (h ++ [e]) = Qcw S item (Qgd S item h) e := by unfold Qgd; rw [List.foldl_append]; rfl
def Qo4 (N:Int) (r:Int × Int) : Prop := 0 ≤ r.1 ∧ r.1 ≤ N ∧ 1 ≤ r.2 ∧ r.2 ≤ N
theorem Qzj {S:List Sn} {N:Int} (hN:(S.length : Int) * S.length ≤ N) (h1:1 ≤ N) (a b:ByteArray) : Qo4 N (Qed S a b) := by
 unfold Qed
 have ha := Qfu S a
 have hb := Qfu S b
 have hp := Qsx S a b
 split
 · exact ⟨by simp,by simp; omega,by simp,by simp; omega⟩
 split
 · exact ⟨by simp,by simpa using h1,by simp,by simpa using h1⟩
 · next h0 _ =>
   have h2 : (1:Int) ≤ Xu S a := by omega
   have h3 : (1:Int) ≤ Xu S b := by omega
   have e1 : ((Qc0 S a b:Int) * Qc0 S a b) ≤ (S.length : Int) * S.length := Int.mul_le_mul (by omega) (by omega) (by omega) (by omega)
   have e2 : ((Xu S a:Int) * Xu S b) ≤ (S.length : Int) * S.length := Int.mul_le_mul (by omega) (by omega) (by omega) (by omega)
   have e3 : (1:Int) * 1 ≤ (Xu S a:Int) * Xu S b := Int.mul_le_mul h2 h3 (by omega) (by omega)
   exact ⟨Int.mul_nonneg (by omega) (by omega),by simp only; omega,by simp only; omega,by simp only; omega⟩
theorem Qym {S:List Sn} {N:Int} (hN:(S.length : Int) * S.length ≤ N) (h1:1 ≤ N) (item:ByteArray) : ∀ h : List Ev,Qo4 N (Qgd S item h) := by
 refine Qq ⟨by simp [Qgd],by simp [Qgd]; omega,by simp [Qgd],by simp [Qgd]; omega⟩ fun l e ih => ?_
 rw [Qme]
 unfold Qcw
 split
 · exact ih
 split
 · exact Qzj hN h1 _ _
 · exact ih
def flB (person maker:ByteArray) (e:Ev) : Bool := decide (e.person = person) && (decide (e.text = maker) && (decide (e.kind = 7) || decide (e.kind = 8)))
def Qrl (z:List Ev) (person maker:ByteArray) : Bool := match (z.filter (flB person maker)).getLast? with
 | some e => decide (e.kind = 7)
 | none => false
theorem Qpt (person maker:ByteArray) : ∀ rs : List Row,(Qg (Xb rs).follows (person,maker)) = ((evs rs).filter (flB person maker)).getLast?.map fun e => decide (e.kind = 7) := by
 refine Qq (by simp [Xb,evs,Cw0,Qg]) fun rs r ih => ?_
 rw [Qdw,Qjn,List.filter_append]
 have hB : (Qcz (Xb rs) r.1).follows = (Qb2 (Xb rs) r.1).follows := by
  unfold Qcz Qk1
  split <;> rfl
 rw [hB]
 unfold Qb2
 cases hf : flB person maker r.1 with
 | true =>
   simp only [flB,Bool.and_eq_true,Bool.or_eq_true,decide_eq_true_eq] at hf
   obtain ⟨h1,h2,h3⟩ := hf
   rw [if_neg (by omega),if_neg (by omega),if_neg (by omega),if_pos h3]
   have hf2 : flB person maker r.1 = true := by simp [flB,h1,h2,h3]
   simp only [List.filter_cons,hf2,if_true,List.filter_nil,List.getLast?_append,List.getLast?_singleton,Option.some_or,Option.map_some]
   rw [show ((person,maker) : LK) = mkr r.1 by unfold mkr; rw [h1,h2],Qy]
 | false =>
   simp only [List.filter_cons,hf,Bool.false_eq_true,if_false,List.filter_nil,List.append_nil]
   rw [← ih]
   split
   · rfl
   split
   · rfl
   split
   · rfl
   split
   · next h3 =>
     show Qg (Q7 _ _ _) _ = _
     rw [Q5,if_neg]
     intro he
     unfold mkr at he
     injection he with h1 h2
     simp [flB,← h1,← h2] at hf
     omega
   split
   · rfl
   · rfl
theorem Qwi (z:List Ev) (person maker:ByteArray) : Qrl (Xc z) person maker = Qrl z person maker := by
 unfold Qrl Xc
 rw [List.filter_filter]
 have : (fun a => flB person maker a && peB a) = flB person maker := by
  funext a
  cases h : flB person maker a with
  | false => rfl
  | true =>
    simp only [flB,Bool.and_eq_true,Bool.or_eq_true,decide_eq_true_eq] at h
    have : peB a = true := by simp [peB,thB]; omega
    rw [this]; rfl
 rw [this]
def Qa2 (fl:List (LK × Bool)) (person:ByteArray) (h:List Ev) : List (ByteArray × Bool) :=
 h.foldl (fun m e => if e.kind = 7 ∧ (Qg fl (person,e.text)).getD false = true then Q7 m e.text true else m) []
theorem Qeu (fl:List (LK × Bool)) (person:ByteArray) (h:List Ev) (e:Ev) : Qa2 fl person (h ++ [e]) = if e.kind = 7 ∧ (Qg fl (person,e.text)).getD false = true then Q7 (Qa2 fl person h) e.text true else Qa2 fl person h := by unfold Qa2; rw [List.foldl_append]; rfl
theorem Qmk (fl:List (LK × Bool)) (person:ByteArray) (x:ByteArray) : ∀ h : List Ev,x ∈ (Qa2 fl person h).map (·.1) ↔ ∃ e ∈ h,e.kind = 7 ∧ e.text = x ∧ (Qg fl (person,x)).getD false = true := by
 refine Qq (by simp [Qa2]) fun h e ih => ?_
 rw [Qeu]
 split
 · next hc =>
   rw [Qd9]
   constructor
   · intro hx
     have : x = e.text ∨ x ∈ (Qa2 fl person h).map (·.1) := by
      split at hx
      · exact .inr hx
      · rcases List.mem_append.1 hx with hx | hx
        · exact .inr hx
        · exact .inl (by simpa using hx)
     rcases this with rfl | hx
     · exact ⟨e,by simp,hc.1,rfl,hc.2⟩
     · obtain ⟨y,hy,h1⟩ := ih.1 hx
       exact ⟨y,by simp [hy],h1⟩
   · rintro ⟨y,hy,h1,rfl,h2⟩
     rcases List.mem_append.1 hy with hy | hy
     · have := ih.2 ⟨y,hy,h1,rfl,h2⟩
       split
       · exact this
       · exact List.mem_append.2 (.inl this)
     · have hy : y = e := by simpa using hy
       subst hy
       split
       · assumption
       · simp
 · next hc =>
   rw [ih]
   constructor
   · rintro ⟨y,hy,h1⟩; exact ⟨y,by simp [hy],h1⟩
   · rintro ⟨y,hy,h1,rfl,h2⟩
     rcases List.mem_append.1 hy with hy | hy
     · exact ⟨y,hy,h1,rfl,h2⟩
     · have hy : y = e := by simpa using hy
       subst hy
       exact absurd ⟨h1,h2⟩ hc
theorem Q5a {rs:List Row} (person maker:ByteArray) : maker ∈ (Qa2 (Xb rs).follows person (hist (evs rs) person)).map (·.1) ↔ Qrl (evs rs) person maker = true := by
 rw [Qmk,Qpt]
 unfold Qrl
 cases hl : ((evs rs).filter (flB person maker)).getLast? with
 | none => simp
 | some e =>
   have he := List.mem_of_getLast? hl
   have hm := List.mem_filter.1 he
   have hb := hm.2
   simp only [flB,Bool.and_eq_true,Bool.or_eq_true,decide_eq_true_eq] at hb
   simp only [Option.map_some,Option.getD_some,decide_eq_true_eq]
   constructor
   · rintro ⟨_,_,_,_,h⟩; exact h
   · intro h
     exact ⟨e,List.mem_filter.2 ⟨hm.1,by simpa using hb.1⟩,h,hb.2.1,h⟩
def Qo3 (half now:Int) (e:Ev) : Int := Qu e * X9 (now - e.at_) half
def Qb5 (n:Int) (m:List (ByteArray × Int)) (t:ByteArray) : List (ByteArray × Int) := Q7 m t (IntKind.i64.wrap ((Qg m t).getD 0 + n))
def Qd7 (half now:Int) (m:List (ByteArray × Int)) (r:Row) : List (ByteArray × Int) := if now < r.1.at_ then m else r.2.foldl (Qb5 (Qo3 half now r.1)) m
def Qt0 (half now:Int) (rows:List Row) : List (ByteArray × Int) := rows.foldl (Qd7 half now) []
theorem Qh9 (half now:Int) (l:List Row) (r:Row) : Qt0 half now (l ++ [r]) = Qd7 half now (Qt0 half now l) r := by unfold Qt0; rw [List.foldl_append]; rfl
theorem Qt2 (n:Int) (m:List (ByteArray × Int)) (l:List ByteArray) (t:ByteArray) : (l ++ [t]).foldl (Qb5 n) m = Qb5 n (l.foldl (Qb5 n) m) t := by rw [List.foldl_append]; rfl
def Q6n (half now:Int) (rows:List Row) : List (ByteArray × Int) := (Qt0 half now rows).filter fun x => decide (0 < x.2)
def rowsOf (rs:List Row) (person:ByteArray) : List Row := rs.filter fun r => decide (r.1.person = person)
theorem Qm6 {half now:Int} {e:Ev} (hm:Xm e = true) : 0 ≤ Qo3 half now e ∧ Qo3 half now e ≤ 5242880 := by
 have h1 := Qgc hm
 have h2 := Qd1 (now - e.at_) half
 unfold Qo3
 refine ⟨Int.mul_nonneg h1.1 h2.1,?_⟩
 have : Qu e * X9 (now - e.at_) half ≤ 5 * 1048576 := Int.mul_le_mul h1.2 h2.2 h2.1 (by omega)
 omega
theorem Qxw (tg:List ByteArray) (n:Int) (l:List (ByteArray × Int)) : ((tg.foldl (Qb5 n) l).length) ≤ l.length + tg.length := by
 induction tg generalizing l with
 | nil => simp
 | cons t tg ih =>
   have := ih (Qb5 n l t)
   have h2 := Qeq t (IntKind.i64.wrap ((Qg l t).getD 0 + n)) l
   simp only [List.foldl_cons,List.length_cons]
   unfold Qb5 at *
   omega
theorem Qvn (half now:Int) : ∀ rows : List Row,(Qt0 half now rows).length ≤ (rows.map fun r => r.2.length).sum := by
 refine Qq (by simp [Qt0]) fun l r ih => ?_
 rw [Qh9,List.map_append,List.sum_append]
 unfold Qd7
 split
 · simp; omega
 · have := Qxw r.2 (Qo3 half now r.1) (Qt0 half now l)
   simp; omega
theorem Qt1 (n:Int) (tg:List ByteArray) : ∀ l : List (ByteArray × Int),l.Pairwise (fun x y => x.1 ≠ y.1) → (tg.foldl (Qb5 n) l).Pairwise (fun x y => x.1 ≠ y.1) := by
 induction tg with
 | nil => intro l h; exact h
 | cons t tg ih => intro l h; exact ih _ (Qa6 h)
theorem Q1j (half now:Int) : ∀ rows : List Row,(Qt0 half now rows).Pairwise (fun x y => x.1 ≠ y.1) := by
 refine Qq (by simp [Qt0]) fun l r ih => ?_
 rw [Qh9]
 unfold Qd7
 split
 · exact ih
 · exact Qt1 _ _ _ ih
def Qvo (half now:Int) (rows:List Row) (t:ByteArray) : Int := ((rows.filter fun r => decide (r.1.at_ ≤ now) && decide (t ∈ r.2)).map fun r => Qo3 half now r.1).sum
theorem Q53 (n:Int) (t:ByteArray) : ∀ (tg:List ByteArray),tg.Nodup → ∀ m : List (ByteArray × Int),(Qg (tg.foldl (Qb5 n) m) t) = if t ∈ tg then some (IntKind.i64.wrap ((Qg m t).getD 0 + n)) else Qg m t := by
 intro tg
 induction tg with
 | nil => intro _ m; simp
 | cons a tg ih =>
   intro hn m
   rw [List.nodup_cons] at hn
   rw [List.foldl_cons,ih hn.2]
   unfold Qb5
   by_cases h1 : t = a
   · subst h1
     rw [if_neg hn.1,Q5,if_pos rfl,if_pos (by simp)]
   · rw [Q5,if_neg h1]
     by_cases h2 : t ∈ tg
     · rw [if_pos h2,if_pos (by simp [h2])]
     · rw [if_neg h2,if_neg (by simp [h1,h2])]
theorem Q1k (half now:Int) (t:ByteArray) : ∀ rows : List Row,(∀ r ∈ rows,Xm r.1 = true ∧ r.2.Nodup) → rows.length < 1000000 → ((Qg (Qt0 half now rows) t).getD 0 = Qvo half now rows t) ∧ 0 ≤ Qvo half now rows t ∧ Qvo half now rows t ≤ rows.length * 5242880 ∧ ((Qg (Qt0 half now rows) t).isSome = true ↔ ∃ r ∈ rows,r.1.at_ ≤ now ∧ t ∈ r.2) := by
 refine Qq (fun _ _ => by simp [Qt0,Qvo,Qg]) fun l r ih h hl => ?_
 have hl' : l.length < 1000000 := by simp at hl; omega
 obtain ⟨i1,i2,i3,i4⟩ := ih (fun x hx => h x (by simp [hx])) hl'
 have hr := h r (by simp)
 have hb := Qm6 (half := half) (now := now) hr.1
 have hlen : (((l ++ [r]).length : Nat) : Int) = l.length + 1 := by simp
 rw [Qh9]
 unfold Qd7
 have hS : Qvo half now (l ++ [r]) t = Qvo half now l t + if r.1.at_ ≤ now ∧ t ∈ r.2 then Qo3 half now r.1 else 0 := by
  unfold Qvo
  rw [List.filter_append,List.map_append,List.sum_append]
  by_cases hc : r.1.at_ ≤ now ∧ t ∈ r.2
  · simp [hc.1,hc.2]
  · have : (decide (r.1.at_ ≤ now) && decide (t ∈ r.2)) = false := by
     rw [Bool.and_eq_false_iff]
     by_cases h1 : r.1.at_ ≤ now
     · exact .inr (by simpa using fun h2 => hc ⟨h1,h2⟩)
     · exact .inl (by simpa using h1)
    rw [if_neg hc]
    simp [this]
 rw [hS]
 by_cases hnow : now < r.1.at_
 · rw [if_pos hnow,if_neg (by omega)]
   refine ⟨by rw [i1]; omega,by omega,by rw [hlen,Int.add_mul]; omega,i4.trans ⟨?_,?_⟩⟩
   · rintro ⟨x,hx,h1⟩; exact ⟨x,by simp [hx],h1⟩
   · rintro ⟨x,hx,h1,h2⟩
     rcases List.mem_append.1 hx with hx | hx
     · exact ⟨x,hx,h1,h2⟩
     · have : x = r := by simpa using hx
       subst this; omega
 · rw [if_neg hnow,Q53 _ _ _ hr.2]
   by_cases ht : t ∈ r.2
   · rw [if_pos ht,if_pos ⟨by omega,ht⟩,i1]
     refine ⟨?_,by omega,by rw [hlen,Int.add_mul]; omega,by simp only [Option.isSome_some,true_iff]; exact ⟨r,by simp,by omega,ht⟩⟩
     simp only [Option.getD_some]
     exact (wrap_eq rfl ⟨by omega,by omega⟩).symm
   · rw [if_neg ht,if_neg (fun hc => ht hc.2)]
     refine ⟨by rw [i1]; omega,by omega,by rw [hlen,Int.add_mul]; omega,i4.trans ⟨?_,?_⟩⟩
     · rintro ⟨x,hx,h1⟩; exact ⟨x,by simp [hx],h1⟩
     · rintro ⟨x,hx,h1,h2⟩
       rcases List.mem_append.1 hx with hx | hx
       · exact ⟨x,hx,h1,h2⟩
       · have : x = r := by simpa using hx
         subst this; exact absurd h2 ht
theorem Q5s (width:Int) : ∀ l : List Ev,(Qx7 width l).Pairwise (fun x y => x.1 ≠ y.1) := by
 refine Qq (by simp [Qx7]) fun l e ih => ?_
 rw [Qs0]
 unfold Qoe
 split
 · exact ih
 · exact Qa6 ih
theorem Qje {α:Type} (f:α → Int) : ∀ {l:List α},(∀ x ∈ l,f x = 0) → (l.map f).sum = 0
 | [],_ => rfl
 | x :: l,h => by
   have h1 := h x (by simp)
   have h2 := Qje f (l := l) fun y hy => h y (by simp [hy])
   simp [h1,h2]
theorem Qbm {κ β:Type} [DecidableEq κ] (x:κ × β) (l:List (κ × β)) (k:κ) : Qg (x :: l) k = if k = x.1 then some x.2 else Qg l k := rfl
theorem Qk6 {s:Qac} {key:ByteArray} {lo hi:Int} (h:hi ≤ lo) : paS s key lo hi = 0 := by
 unfold paS
 have : (s.filter fun x => decide (x.1.1 = key) && (decide (lo ≤ x.1.2) && decide (x.1.2 < hi))) = [] := by
  rw [List.filter_eq_nil_iff]
  intro x _
  simp
  omega
 rw [this]; rfl
theorem Qoa (x:PK × Int) (s:Qac) (key:ByteArray) (lo hi:Int) : paS (x :: s) key lo hi = (if x.1.1 = key ∧ lo ≤ x.1.2 ∧ x.1.2 < hi then x.2 else 0) + paS s key lo hi := by
 unfold paS
 rw [List.filter_cons]
 by_cases h : x.1.1 = key ∧ lo ≤ x.1.2 ∧ x.1.2 < hi
 · rw [if_pos (by simp [h.1,h.2.1,h.2.2]),if_pos h]; simp
 · rw [if_neg (by simpa using h),if_neg h]; omega
theorem Q25 {s:Qac} (hp:s.Pairwise (fun x y => x.1 ≠ y.1)) (key:ByteArray) (lo hi:Int) (h:lo ≤ hi) : paS s key lo (hi + 1) = paS s key lo hi + (Qg s (key,hi)).getD 0 := by
 induction s with
 | nil => simp [paS,Qg]
 | cons x s ih =>
   rw [List.pairwise_cons] at hp
   have ih := ih hp.2
   rw [Qoa,Qoa,ih,Qbm]
   by_cases hk : (key,hi) = x.1
   · rw [if_pos hk]
     have h0 : Qg s (key,hi) = none := Qc4.2 fun y hy => by rw [hk]; exact fun e => hp.1 y hy e.symm
     rw [h0,if_pos (by rw [← hk]; simp; omega),if_neg (by rw [← hk]; simp)]
     simp
     omega
   · rw [if_neg hk]
     have : (x.1.1 = key ∧ lo ≤ x.1.2 ∧ x.1.2 < hi + 1) ↔ (x.1.1 = key ∧ lo ≤ x.1.2 ∧ x.1.2 < hi) := by
      constructor
      · rintro ⟨h1,h2,h3⟩
        refine ⟨h1,h2,?_⟩
        have : x.1.2 ≠ hi := fun e => hk (by rw [← h1,← e])
        omega
      · rintro ⟨h1,h2,h3⟩; exact ⟨h1,h2,by omega⟩
     by_cases hc : x.1.1 = key ∧ lo ≤ x.1.2 ∧ x.1.2 < hi
     · rw [if_pos hc,if_pos (this.2 hc)]; omega
     · rw [if_neg hc,if_neg (fun h => hc (this.1 h))]; omega
def Q1v (s:Qac) (key:ByteArray) (lo hi:Int) (row:List Int) : Int := ((row.filter fun n => decide (lo ≤ n) && decide (n < hi)).map fun n => (Qg s (key,n)).getD 0).sum
theorem Q0k (s:Qac) (key:ByteArray) (lo hi:Int) (row:List Int) (n:Int) : Q1v s key lo hi (row ++ [n]) = Q1v s key lo hi row + if lo ≤ n ∧ n < hi then (Qg s (key,n)).getD 0 else 0 := by
 unfold Q1v
 rw [List.filter_append,List.map_append,List.sum_append]
 by_cases h : lo ≤ n ∧ n < hi
 · simp [h.1,h.2]
 · rw [if_neg h]
   have : (decide (lo ≤ n) && decide (n < hi)) = false := by simpa using fun h1 => by omega
   simp [this]
theorem Q3b {s:Qac} (hp:s.Pairwise (fun x y => x.1 ≠ y.1)) (key:ByteArray) (lo hi:Int) : Q1v s key lo hi (Qae s key) = paS s key lo hi := by
 unfold Q1v Qae paS
 rw [List.filter_map,List.map_map,List.filter_filter]
 have : (s.filter fun a => (Function.comp (fun n => decide (lo ≤ n) && decide (n < hi)) fun x : PK × Int => x.1.2) a && decide (a.1.1 = key)) = s.filter fun x => decide (x.1.1 = key) && (decide (lo ≤ x.1.2) && decide (x.1.2 < hi)) := by
  apply List.filter_congr
  intro x _
  simp only [Function.comp]
  rw [Bool.and_comm]
 rw [this]
 congr 1
 apply List.map_congr_left
 intro x hx
 have hm := List.mem_filter.1 hx
 have hk : x.1.1 = key := by have := hm.2; simp at this; exact this.1
 simp only [Function.comp]
 rw [← hk,Qef hp (show ((x.1.1,x.1.2),x.2) ∈ s from hm.1)]
 rfl
theorem Qk5 {s:Qac} {N:Int} (h:Qe7 s N) (hN:0 ≤ N) (key:ByteArray) (lo hi:Int) : 0 ≤ paS s key lo hi ∧ paS s key lo hi ≤ s.length * N := by
 have hb := Qbz (fun x:PK × Int => x.2) N (s.filter fun x => decide (x.1.1 = key) && (decide (lo ≤ x.1.2) && decide (x.1.2 < hi))) fun x hx => by
  have := h x (List.mem_filter.1 hx).1
  exact ⟨by omega,this.2⟩
 have hl := List.length_filter_le (fun x:PK × Int => decide (x.1.1 = key) && (decide (lo ≤ x.1.2) && decide (x.1.2 < hi))) s
 unfold paS
 refine ⟨hb.1,Int.le_trans hb.2 (Int.mul_le_mul_of_nonneg_right (by omega) hN)⟩
end Go.Proofs.YtnnnbjjenknpeaaGreatDoor
