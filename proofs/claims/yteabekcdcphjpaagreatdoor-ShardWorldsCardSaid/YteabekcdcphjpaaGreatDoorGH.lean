/- Several texts in one: Rd3, Pl1, Rd1, Rd2, Pl2, Pl3, Pl4. -/
import Derived.Test.YteabekcdcphjpaaGreatDoorGF
import Derived.Laws.IdiomRangeMap
import Derived.Test.YteabekcdcphjpaaGreatDoorHKeyL
set_option linter.unusedVariables false
set_option linter.unusedSimpArgs false
namespace Go.Proofs.YteabekcdcphjpaaGreatDoor
open Go.Se Go.RowKit
theorem Qov (a b:Int) : IntKind.i64.wrap (IntKind.i64.wrap a + b) = IntKind.i64.wrap (a + b) := by
 simp only [IntKind.wrap,IntKind.bits,IntKind.signed]
 simp
 split <;> split <;> split <;> omega
theorem Q0u (a b:Int) : IntKind.i64.wrap (a + IntKind.i64.wrap b) = IntKind.i64.wrap (a + b) := by
 rw [Int.add_comm,Qov,Int.add_comm]
theorem Q7n : IntKind.i64.wrap 0 = 0 := by decide
def Qa0 (age half:Int) : Int := if age < 0 then 0 else if 20 < age / max half 1 then 0 else (1048576:Int).fdiv (2 ^ (age / max half 1).toNat)
theorem Qne (age half:Int) (ha:-4611686018427387904 ≤ age ∧ age ≤ 9223372036854775807) (w:World) :
 Cal Tryz.prog 77 [.int .i64 age,.int .i64 half] w fun r w' => r = .int .i64 (Qa0 age half) ∧ w' = w := by
 have hm : max half 1 ≠ 0 := by omega
 refine Fi Tryz.func77 rfl _ rfl rfl ?_;conv=>whnf
 constructor
 · intro hc
   have hc : age < 0 := by simpa using hc
   conv=>whnf
   exact ⟨by rw [Qa0,if_pos hc],rfl⟩
 · intro hc
   have hc : ¬ age < 0 := by simpa using hc
   have h1 : age.tdiv (max half 1) = age / max half 1 := Int.tdiv_eq_ediv_of_nonneg (by omega)
   have h2 : 0 ≤ age / max half 1 := Int.ediv_nonneg (by omega) (by omega)
   have h3 : age / max half 1 ≤ age := Int.ediv_le_self _ (by omega)
   have hw : Qa0 age half = if 20 < age / max half 1 then 0 else (1048576:Int).fdiv (2 ^ (age / max half 1).toNat) := by rw [Qa0,if_neg hc]
   rw [hw]
   clear hw
   conv=>whnf
   refine ⟨age / max half 1,⟨hm,wrap_eq h1.symm ⟨by omega,by omega⟩⟩,?_⟩;conv=>whnf
   generalize age / max half 1 = n at h2 h3 ⊢
   constructor
   · intro hn
     have hn : 20 < n := by simpa using hn
     conv=>whnf
     exact ⟨by rw [if_pos hn],rfl⟩
   · intro hn
     have hn : ¬ 20 < n := by simpa using hn
     have hmin : min n.toNat IntKind.i64.bits = n.toNat := by simp only [IntKind.bits]; omega
     conv=>whnf
     refine ⟨(1048576:Int).fdiv (2 ^ n.toNat),⟨h2,by rw [hmin]⟩,?_⟩;conv=>whnf
     exact ⟨by rw [if_neg hn],rfl⟩
def Qev (half now:Int) (r:List (Int × Int)) : Int := (r.map fun x => x.2 * Qa0 (now - x.1) half).sum
theorem Qia {l m:List Int} (h:l.Perm m) : l.sum = m.sum := by
 induction h with
 | nil => rfl
 | cons a _ ih => simp [ih]
 | swap a b l => simp only [List.sum_cons]; omega
 | trans _ _ h1 h2 => exact h1.trans h2
theorem Q0i {half now:Int} {r s:List (Int × Int)} (h:r.Perm s) : Qev half now r = Qev half now s := Qia (h.map _)
def Xo (s:Qch) (half:Int) (key:ByteArray) (now:Int) : Int := IntKind.i64.wrap (Qev half now ((Qc s key).getD []))
theorem Q3c {P:Program} {w:World} {mt kt et:TypeId} (ht:P.underlying mt = some (.map kt et)) {R:Value → World → Prop}
 (h:∀ w',Ext w w' → w'.heap[w.heap.size]? = some (.mapIter none 0 #[] 0) → R (.pointer (some ⟨w.heap.size,0,none⟩)) w') : Qkj P (Instr.range mt (.map none)) w R := by
 refine ⟨_,_,Go.run_range_nilMap w mt kt et ht,h _ ((Below.refl _ _).alloc (Nat.le_refl _) _) (heap_alloc_new w _)⟩
theorem Q5y {P:Program} {w:World} {r:Nat} {a b:Nat} {s:Array Nat} {ty:TypeId} (hr:w.heap[r]? = some (.mapIter none a s b)) {R:Value → World → Prop} (h:R (.tuple #[.bool false]) w) : Qkj P (Instr.next (.pointer (some ⟨r,0,none⟩)) false ty) w R := by
 refine ⟨_,_,?_,h⟩
 simp only [Instr.next,getObj,Sem.run_bind,Sem.run,hr,Result.andThen]
 rfl
theorem Q0s {vs L:List (Int × Int)} (h:(Xk vi vs).Perm (Xk vi L)) : vs.Perm L := by
 have h1 := h.map (fun x:Int × Value => (x.1,match x.2 with | .int _ n => n | _ => 0))
 simpa [Xk,List.map_map,Function.comp_def,vi] using h1
theorem Qi1 (w:World) (S:Nat → Prop) (p:Nat) (half n:Int) (s:Qch) (h:Qfj w S p half n s) (key:ByteArray) (now:Int) (hnow:0 ≤ now ∧ now ≤ 1099511627776) (ht:∀ r,Qc s key = some r → ∀ x ∈ r,0 ≤ x.1 ∧ x.1 ≤ 1099511627776) :
 Cal Tryz.prog 15 [.pointer (some ⟨p,0,none⟩),.string key,.int .i64 now] w fun r w' => r = .int .i64 (Xo s half key now) ∧ Ext w w' := by
 obtain ⟨bm,h⟩ := h
 have hplt := h.head.lt
 have hhead := h.head
 refine Fi Tryz.func15 rfl _ rfl rfl ?_;conv=>whnf
 constructor
 · intro hc
   have hc : now < 0 := by simpa using hc
   omega
 intro _
 conv=>whnf
 refine ⟨.map (some bm),h.head.one rfl,?_⟩;conv=>whnf
 rcases h.sums.look Q8 Qte (Qp Xi) (e := ty122) ty122_ok rfl key with ⟨hno,hrd⟩ | ⟨b,m,Sk,hsome,hrd,hIv,hSk,_⟩
 · have hres : Xo s half key now = 0 := by unfold Xo; rw [hno]; exact Q7n
   rw [hres]
   refine ⟨_,hrd .same Qo,?_⟩;conv=>whnf
   refine Q3c Qv6 fun w2 hx2 hr2 => ?_
   generalize w.heap.size = r at hr2 ⊢
   conv=>whnf
   refine Qg Qa (fun (_:Unit) w' => w' = w2) (fun _ => [(19,.pointer (some ⟨r,0,none⟩)),(7,.int .i64 0)]) (fun _ => 0) () rfl ⟨rfl,rfl,trivial⟩ ?_
   rintro _ w3 rfl
   conv=>whnf
   refine Q5y hr2 ?_
   conv=>whnf
   constructor
   · intro hh; cases hh
   intro _
   conv=>whnf
   exact ⟨rfl,hx2⟩
 · have hm := hIv.2
   have ht := ht m hsome
   have hres : Xo s half key now = IntKind.i64.wrap (Qev half now m) := by unfold Xo; rw [hsome]; rfl
   rw [hres]
   refine ⟨_,hrd .same Qo,?_⟩;conv=>whnf
   refine map_range Qv6 hm fun w3 hi3 hx3 => ?_
   have hrw : w.heap.size ≤ w.heap.size := Nat.le_refl _
   generalize hr : w.heap.size = r at hi3 ⊢
   conv=>whnf
   refine Qg Qa (fun (q:List (Int × Int) × Int) w' => Ext w w' ∧ Iter w' r b vi (Xk vi m) (Xk vi q.1) ∧ q.2 = IntKind.i64.wrap (Qev half now q.1))
    (fun | (vs,z) => [(0,.pointer (some ⟨p,0,none⟩)),(2,.int .i64 now),(19,.pointer (some ⟨r,0,none⟩)),(7,.int .i64 z)]) (fun q => m.length - q.1.length) ([],0) ⟨hx3,hi3,Q7n.symm⟩ ⟨rfl,rfl,rfl,rfl,trivial⟩ ?_
   clear hi3 hx3
   rintro ⟨vs,z⟩ w4 ⟨hx4,hi4,hz⟩
   simp only at hi4 hz
   conv=>whnf
   refine Qao hi4 (fun hp => ?_) (fun x w5 hin hnew hlt hi5 ho5 hen => ?_)
   · have hp := Q0s hp
     conv=>whnf
     constructor
     · intro hh; cases hh
     intro _
     conv=>whnf
     exact ⟨by rw [hz,Q0i hp],hx4⟩
   · obtain ⟨y,hy,rfl⟩ := List.mem_map.1 hin
     have hlt : vs.length < m.length := by simpa [Xk] using hlt
     have hvs : Xk vi vs ++ [(y.1,vi y.2)] = Xk vi (vs ++ [y]) := by simp [Xk]
     rw [hvs] at hi5
     have hx5 := ho5.ext hx4 (by omega)
     have hty := ht y hy
     have hsn : IntKind.i64.wrap (Qev half now (vs ++ [y])) = IntKind.i64.wrap (z + IntKind.i64.wrap (y.2 * Qa0 (now - y.1) half)) := by
      rw [hz,Qov,Q0u]
      simp [Qev]
     conv=>whnf
     constructor
     · intro _
       conv=>whnf
       refine Xc (hen w5 rfl rfl) ?_
       conv=>whnf
       refine ⟨now - y.1,wrap_eq rfl ⟨by omega,by omega⟩,?_⟩;conv=>whnf
       refine ⟨_,(hhead.ext hx5).one rfl,?_⟩;conv=>whnf
       refine (Qne (now - y.1) half ⟨by omega,by omega⟩ w5).mono ?_
       rintro _ _ ⟨rfl,rfl⟩
       conv=>whnf
       refine ⟨_,rfl,?_⟩;conv=>whnf
       refine ⟨_,rfl,?_⟩;conv=>whnf
       exact ⟨(vs ++ [y],_),by simp; omega,⟨hx5,hi5,hsn.symm⟩,⟨rfl,rfl,rfl,rfl,trivial⟩⟩
     · intro hh; cases hh
instance memDec (a:ByteArray) (l:List ByteArray) : Decidable (a ∈ l) := decidable_of_iff (l.any (fun b => decide (b = a)) = true) (by simp)
def wpB (e:Ev) : Bool := decide (0 < Qw e)
theorem Q4o {e:Ev} (h:wpB e = true) : e.kind = 1 ∨ e.kind = 2 ∨ e.kind = 3 ∨ e.kind = 4 := by
 have h : 0 < Qw e := by simpa [wpB] using h
 unfold Qw at h
 by_cases h1 : e.kind = 1
 · exact .inl h1
 by_cases h2 : e.kind = 2
 · exact .inr (.inl h2)
 by_cases h3 : e.kind = 3
 · exact .inr (.inr (.inl h3))
 by_cases h4 : e.kind = 4
 · exact .inr (.inr (.inr h4))
 rw [if_neg h1,if_neg h2,if_neg h3,if_neg h4] at h
 omega
def Qgw (l:List Ev) : Qch := l.foldl (fun s e => Qiv s e.item e.at_ (Qw e)) []
def Qid (width:Int) (l:List Ev) : Xq := l.foldl (fun s e => Qie s (e.item,e.at_ / Qq width) (Qw e)) []
def Qdn (l:List Ev) : Ses := l.foldl (fun s e => Qq7 s e.person e.at_ e.item) []
theorem Qph (l:List Ev) (e:Ev) : Qgw (l ++ [e]) = Qiv (Qgw l) e.item e.at_ (Qw e) := by unfold Qgw; rw [List.foldl_append]; rfl
theorem Qmj (width:Int) (l:List Ev) (e:Ev) : Qid width (l ++ [e]) = Qie (Qid width l) (e.item,e.at_ / Qq width) (Qw e) := by unfold Qid; rw [List.foldl_append]; rfl
theorem Qqq (l:List Ev) (e:Ev) : Qdn (l ++ [e]) = Qq7 (Qdn l) e.person e.at_ e.item := by unfold Qdn; rw [List.foldl_append]; rfl
theorem Qcs (width:Int) (z:List Ev) : (Qe width z).ds = Qgw (z.filter wpB) ∧ (Qe width z).ps = Qid width (z.filter wpB) ∧ (Qe width z).ss = Qdn (z.filter wpB) := by
 induction z using Qy with
 | h0 => exact ⟨rfl,rfl,rfl⟩
 | h1 l a ih =>
   rw [Qce,List.filter_append]
   unfold Qc6
   cases hw : wpB a with
   | true =>
     have hk := Q4o hw
     have h0 : 0 < Qw a := by simpa [wpB] using hw
     have e1 : [a].filter wpB = [a] := by simp [hw]
     rw [e1,Qph,Qmj,Qqq,if_neg (by omega),if_neg (by omega),if_pos h0,← ih.1,← ih.2.1,← ih.2.2]
     exact ⟨rfl,rfl,rfl⟩
   | false =>
     have h0 : ¬ 0 < Qw a := by simpa [wpB] using hw
     have e1 : [a].filter wpB = [] := by simp [hw]
     rw [e1,List.append_nil,← ih.1,← ih.2.1,← ih.2.2]
     split
     · exact ⟨rfl,rfl,rfl⟩
     split
     · exact ⟨rfl,rfl,rfl⟩
     exact ⟨rfl,rfl,rfl⟩
def Q6b (l:List Ev) (half:Int) (key:ByteArray) (now:Int) : Int := ((l.filter fun e => decide (e.item = key)).map fun e => Qw e * Qa0 (now - e.at_) half).sum
theorem Qqu (f:Int → Int) (t n:Int) : ∀ r : List (Int × Int),((Qz r t ((Qc r t).getD 0 + n)).map fun x => x.2 * f x.1).sum = (r.map fun x => x.2 * f x.1).sum + n * f t
 | [] => by simp [Qz,Qc]
 | x :: r => by
   have ih := Qqu f t n r
   unfold Qz Qc
   by_cases h : t = x.1
   · rw [if_pos h,if_pos h]
     simp only [Option.getD_some,List.map_cons,List.sum_cons]
     rw [Int.add_mul,h]
     omega
   · rw [if_neg h,if_neg h]
     simp only [List.map_cons,List.sum_cons]
     rw [ih]
     omega
theorem Q7a (half:Int) (key:ByteArray) (now:Int) : ∀ l : List Ev,(∀ e ∈ l,wpB e = true) → Qev half now ((Qc (Qgw l) key).getD []) = Q6b l half key now := by
 refine Qy (fun _ => by simp [Qgw,Qc,Qev,Q6b]) fun l e ih h => ?_
 have ih := ih fun x hx => h x (by simp [hx])
 have hw : 0 < Qw e := by simpa [wpB] using h e (by simp)
 rw [Qph]
 unfold Q6b Qiv at *
 rw [if_neg (by omega),List.filter_append,List.map_append,List.sum_append,← ih,Q5]
 by_cases hk : key = e.item
 · subst hk
   rw [if_pos rfl]
   simp only [Option.getD_some]
   have hs := Qqu (fun t => Qa0 (now - t) half) e.at_ (Qw e) ((Qc (Qgw l) e.item).getD [])
   unfold Qev
   rw [hs]
   simp
 · rw [if_neg hk]
   have : decide (e.item = key) = false := by simp; exact fun h => hk h.symm
   simp [this]
theorem Q5e : ∀ l : List Ev,∀ key r,Qc (Qgw l) key = some r → ∀ x ∈ r,∃ e ∈ l,e.at_ = x.1 ∧ e.item = key := by
 refine Qy (fun key r h => by simp [Qgw,Qc] at h) fun l e ih key r h x hx => ?_
 rw [Qph] at h
 unfold Qiv at h
 split at h
 · obtain ⟨y,hy,h1⟩ := ih key r h x hx
   exact ⟨y,by simp [hy],h1⟩
 · rw [Q5] at h
   by_cases hk : key = e.item
   · rw [if_pos hk] at h
     injection h with h
     subst h
     rcases Qbw hx with rfl | hx
     · exact ⟨e,by simp,rfl,hk.symm⟩
     · cases hl : Qc (Qgw l) e.item with
       | none => rw [hl] at hx; simp at hx
       | some r =>
         rw [hl] at hx
         obtain ⟨y,hy,h1⟩ := ih e.item r hl x hx
         exact ⟨y,by simp [hy],h1.1,h1.2.trans hk.symm⟩
   · rw [if_neg hk] at h
     obtain ⟨y,hy,h1⟩ := ih key r h x hx
     exact ⟨y,by simp [hy],h1⟩
theorem Qkd (age half:Int) : 0 ≤ Qa0 age half ∧ Qa0 age half ≤ 1048576 := by
 unfold Qa0
 split
 · omega
 split
 · omega
 · rw [Int.fdiv_eq_ediv_of_nonneg _ (by exact Int.le_of_lt (Int.pow_pos (by omega)))]
   exact ⟨Int.ediv_nonneg (by omega) (Int.le_of_lt (Int.pow_pos (by omega))),Int.ediv_le_self _ (by omega)⟩
theorem Qc3 {α:Type} (f:α → Int) (M:Int) : ∀ l : List α,(∀ x ∈ l,0 ≤ f x ∧ f x ≤ M) → 0 ≤ (l.map f).sum ∧ (l.map f).sum ≤ l.length * M
 | [],_ => by simp
 | x :: l,h => by
   have h1 := h x (by simp)
   have ih := Qc3 f M l fun y hy => h y (by simp [hy])
   simp only [List.map_cons,List.sum_cons,List.length_cons]
   have : ((l.length + 1 : Nat) : Int) * M = l.length * M + M := by
    rw [show ((l.length + 1 : Nat) : Int) = (l.length : Int) + 1 by omega,Int.add_mul]; omega
   rw [this]
   omega
theorem Qsj {l:List Ev} (hm:∀ e ∈ l,Xj e = true) (half:Int) (key:ByteArray) (now:Int) : 0 ≤ Q6b l half key now ∧ Q6b l half key now ≤ l.length * 5242880 := by
 have h := Qc3 (fun e:Ev => Qw e * Qa0 (now - e.at_) half) 5242880 (l.filter fun e => decide (e.item = key)) fun e he => by
  have h1 := Qfc (hm e (List.mem_filter.1 he).1)
  have h2 := Qkd (now - e.at_) half
  refine ⟨Int.mul_nonneg h1.1 h2.1,?_⟩
  calc Qw e * Qa0 (now - e.at_) half ≤ 5 * 1048576 := Int.mul_le_mul h1.2 h2.2 h2.1 (by omega)
   _ = 5242880 := by omega
 have hl := List.length_filter_le (fun e:Ev => decide (e.item = key)) l
 unfold Q6b
 refine ⟨h.1,Int.le_trans h.2 ?_⟩
 exact Int.mul_le_mul_of_nonneg_right (by omega) (by omega)
def paE (l:List Ev) (width:Int) (key:ByteArray) (lo hi:Int) : Int := ((l.filter fun e => decide (e.item = key) && (decide (lo ≤ e.at_ / Qq width) && decide (e.at_ / Qq width < hi))).map Qw).sum
def paS (s:Xq) (key:ByteArray) (lo hi:Int) : Int := ((s.filter fun x => decide (x.1.1 = key) && (decide (lo ≤ x.1.2) && decide (x.1.2 < hi))).map (·.2)).sum
theorem Qp6 (key:ByteArray) (lo hi:Int) (c:PK) (n:Int) : ∀ s : Xq,paS (Qz s c ((Qc s c).getD 0 + n)) key lo hi = paS s key lo hi + if (decide (c.1 = key) && (decide (lo ≤ c.2) && decide (c.2 < hi))) = true then n else 0
 | [] => by
   unfold paS
   simp only [Qz,Qc,Option.getD_none,Int.zero_add,List.filter_cons,List.filter_nil]
   split <;> simp
 | x :: s => by
   have ih := Qp6 key lo hi c n s
   unfold paS at *
   unfold Qz Qc
   by_cases h : c = x.1
   · rw [if_pos h,if_pos h]
     simp only [Option.getD_some,List.filter_cons]
     rw [← h]
     split
     · simp only [List.map_cons,List.sum_cons]; omega
     · simp
   · rw [if_neg h,if_neg h]
     simp only [List.filter_cons]
     split
     · simp only [List.map_cons,List.sum_cons]; rw [ih]; omega
     · exact ih
theorem Xaf (width:Int) (key:ByteArray) (lo hi:Int) : ∀ l : List Ev,(∀ e ∈ l,wpB e = true) → paS (Qid width l) key lo hi = paE l width key lo hi := by
 refine Qy (fun _ => by simp [Qid,paS,paE]) fun l e ih h => ?_
 have ih := ih fun x hx => h x (by simp [hx])
 have hw : 0 < Qw e := by simpa [wpB] using h e (by simp)
 rw [Qmj]
 unfold Qie paE at *
 rw [if_neg (by omega),Qp6,ih,List.filter_append,List.map_append,List.sum_append]
 simp only [List.filter_cons,List.filter_nil]
 split <;> simp
theorem Q58 {l:List Ev} (hm:∀ e ∈ l,Xj e = true) (width:Int) (key:ByteArray) (lo hi:Int) : 0 ≤ paE l width key lo hi ∧ paE l width key lo hi ≤ l.length * 5 := by
 have h := Qc3 Qw 5 (l.filter fun e => decide (e.item = key) && (decide (lo ≤ e.at_ / Qq width) && decide (e.at_ / Qq width < hi))) fun e he => Qfc (hm e (List.mem_filter.1 he).1)
 have hl := List.length_filter_le (fun e:Ev => decide (e.item = key) && (decide (lo ≤ e.at_ / Qq width) && decide (e.at_ / Qq width < hi))) l
 unfold paE
 refine ⟨h.1,Int.le_trans h.2 ?_⟩
 exact Int.mul_le_mul_of_nonneg_right (by omega) (by omega)
def Xr (l:List ByteArray) : List ByteArray := l.mergeSort fun a b => !bLt b a
theorem Q2i (a b c:ByteArray) (h1:(!bLt b a) = true) (h2:(!bLt c b) = true) : (!bLt c a) = true := by
 rw [Bool.not_eq_true'] at *
 cases h : bLt c a with
 | false => rfl
 | true =>
   cases hab : bLt a b with
   | true => rw [Qbb h hab] at h2; cases h2
   | false => rw [Qbz hab h1] at h; rw [h] at h2; cases h2
theorem Q2h (a b:ByteArray) : ((!bLt b a) || (!bLt a b)) = true := by
 cases h : bLt b a with
 | false => rfl
 | true => rw [Qfp h]; rfl
theorem Qcp (l:List ByteArray) : (Xr l).Perm l := List.mergeSort_perm _ _
theorem Qii (l:List ByteArray) : Srt bLt (Xr l) := by
 have := List.pairwise_mergeSort (le := fun a b => !bLt b a) Q2i Q2h l
 exact this.imp fun h => by simpa using h
theorem Qc1 {l z:List ByteArray} (hp:z.Perm l) (hs:Srt bLt z) : z = Xr l :=
 List.Perm.eq_of_pairwise (le := fun a b => bLt b a = false) (fun a b _ _ h1 h2 => Qbz h2 h1) hs (Qii l) (hp.trans (Qcp l).symm)
theorem Qdy {l:List ByteArray} {x:ByteArray} : x ∈ Xr l ↔ x ∈ l := (Qcp l).mem_iff
theorem Qcg (l:List ByteArray) : (Xr l).length = l.length := (Qcp l).length_eq
def Qd3 (l:List Int) : List Int := l.mergeSort fun x y => decide (x ≤ y)
theorem Qdm (l:List Int) : (Qd3 l).Perm l := List.mergeSort_perm _ _
theorem Qmz (l:List Int) : (Qd3 l).Pairwise (· ≤ ·) := by
 have := List.pairwise_mergeSort (le := fun x y : Int => decide (x ≤ y)) (fun a b c h1 h2 => by simp at *; omega) (fun a b => by simp; omega) l
 exact this.imp fun h => by simpa using h
theorem Qss {l z:List Int} (hp:z.Perm l) (hs:z.Pairwise (· ≤ ·)) : z = Qd3 l :=
 List.Perm.eq_of_pairwise (le := (· ≤ ·)) (fun a b _ _ h1 h2 => Int.le_antisymm h1 h2) hs (Qmz l) (hp.trans (Qdm l).symm)
theorem Qmx {l:List Int} {x:Int} : x ∈ Qd3 l ↔ x ∈ l := (Qdm l).mem_iff
theorem Qsq (l:List Int) : (Qd3 l).length = l.length := (Qdm l).length_eq
section
open Go.Maps Go.Sort Go.Shelf Go.WideElems
open Go.WideMaps (keyOf_string_mk)
open Go.WideShapes (sorted_perm)
theorem Qpq {κ:Type} {enc:κ → Value} {P:Program} {k:TypeId} {w:World} {b:Nat} {L:List (κ × Value)} (hm:MapAt w b enc L) (hinj:∀ a b,enc a = enc b → a = b) (lit:κ → Lit) (hk:∀ x ∈ L,keyOf P k (enc x.1) = some (lit x.1)) (hl:L.length ≤ 1000000000) :
 ∃ es : List (Lit × DataW Unit),w.ownsMap P k (fun _ => some (.nil,[])) b L.length (.map es) ∧ es.Perm (L.map fun x => (lit x.1,.nil)) := by
 obtain ⟨E,clock,hE,rfl⟩ := hm
 have hEl : (strip E).length = E.length := by simp [strip]
 have hrd : ∀ x ∈ E,rd (H := Unit) P k (fun _ => some (.nil,[])) (mkE enc x) = some (lit x.1,.nil) := fun x hx =>
  Go.WideElems.rd_mk (P := P) (k := k) (R := fun _ => some (.nil,[])) (val := x.2.1) (born := x.2.2) (yv := (.nil,[])) (hk (x.1,x.2.1) (List.mem_map.2 ⟨x,hx,rfl⟩)) rfl
 refine ⟨_,⟨_,clock,hE.block,⟨?_,⟨?_,?_,?_⟩,?_⟩,?_,rfl⟩,?_⟩
 · rw [hEl] at hl; simp only [List.size_toArray,List.length_map]; unfold maxLen; omega
 · intro x hx
   simp only [List.mem_map] at hx
   obtain ⟨y,hy,rfl⟩ := hx
   exact hE.below y hy
 · simp only [List.map_map]
   rw [List.nodup_iff_pairwise_ne,List.pairwise_map]
   exact hE.rising.imp fun h => by simp only [mkE,Function.comp]; omega
 · simp only [List.map_map]
   rw [List.nodup_iff_pairwise_ne,List.pairwise_map]
   exact hE.keys.imp fun h e => h (hinj _ _ e)
 · intro x hx
   simp only [List.mem_map] at hx
   obtain ⟨y,hy,rfl⟩ := hx
   exact ⟨_,hrd y hy⟩
 · rw [hEl]; simp
 · refine (sorted_perm _).trans ?_
   have : (E.map (mkE enc)).toArray.toList.map (rg (H := Unit) P k (fun _ => some (.nil,[]))) = (strip E).map fun x => (lit x.1,.nil) := by
    simp only [strip,List.map_map]
    exact List.map_congr_left fun x hx => rg_of (hrd x hx)
   rw [this]
theorem Qdj {α:Type} {enc:α → List Value} {sz:Nat} {te:TypeId} {base:Nat} {w:World} {v:Value} {l:List α} {n:Nat} {xs:List Value} (h:w.ownsRow base te sz v n xs) (hn:n = l.length) (hx:xs = l.flatMap enc) :
 ∃ A c,v = .slice A l.length c ∧ Own enc sz te base w A c l := by
 subst hn hx
 unfold Own
 rcases h with ⟨h1,⟨h2,h3⟩ | ⟨g,cap,cur,h2,h3⟩⟩
 · refine ⟨none,0,by rw [h2,h3],h1,.inl ⟨by rw [h3],h3⟩⟩
 · exact ⟨_,cap,h2,h1,.inr ⟨g,cap,cur,rfl,h3⟩⟩
theorem Qrd {α:Type} {enc:α → List Value} {sz:Nat} {te:TypeId} {b1 b2:Nat} {w:World} {A:Option Addr} {c:Nat} {l:List α} (h:Own enc sz te b1 w A c l) (hb:b2 ≤ b1) : Own enc sz te b2 w A c l := by
 unfold Own at *
 rcases h with ⟨h1,h2 | ⟨g,cap,cur,h2,h3,h4⟩⟩
 · exact ⟨h1,.inl h2⟩
 · exact ⟨h1,.inr ⟨g,cap,cur,h2,by omega,h4⟩⟩
theorem Qgk {α:Type} (f:α → Value) (l:List α) : l.flatMap (fun x => [f x]) = l.map f := by induction l with | nil => rfl | cons a l ih => simp [ih]
theorem Qc2 {P:Program} {ρ6:Ren} (S:SlLaysZ.n6 P ρ6) (hsort:∀ m,AnyZ.SortsIn P ρ6 Fence.wide m) (e9:∀ args w,(callFunc (ρ6.f 9) args).run P w = .ok (.enter (ρ6.f 9) args) w) {g:Nat} {lb:Array Value} (eg:∀ args w,(callFunc g args).run P w = .ok (.enter g args) w)
 (hok:Qox P (ρ6.f 6)) {w:World} {l:List ByteArray} {N:Nat} {Q:List (List UInt8) → Prop} (hQ:∀ ss,Q ss → ss.Perm (l.map fun x => x.data.toList)) (hN:N ≤ 1000000000) (hseq:SeqGives Fence.wide 2 P g lb encStr Q N w) :
 Cal P (ρ6.f 6) [.func (.func g) #[] lb] w fun r w' => ∃ A c,r = .slice A (Xr l).length c ∧ Own Qbr 1 (ρ6.t 26) w.heap.size w' A c (Xr l) ∧ Ext w w' := by
 have hS := AnyZ.sorted_in S Fence.wide 5 trivial trivial trivial trivial rfl (by omega) (hsort _) e9 g lb trivial eg _ N (by unfold maxLen; omega) (by omega) w hseq
 refine ⟨hok,(callsIn_wide.1 hS).mono ?_⟩
 rintro e w' ⟨v,ss,rfl,hp,hrow,_,hb⟩
 have hkeys := hQ ss hp
 have hz : (ss.mergeSort fun x y => decide (x ≤ y)).map (fun x => (⟨x.toArray⟩ : ByteArray)) = Xr l := by
  apply Qc1
  · have h1 := (List.mergeSort_perm ss fun x y => decide (x ≤ y)).trans hkeys
    have h2 := h1.map (fun x => (⟨x.toArray⟩ : ByteArray))
    simpa [List.map_map,Function.comp_def] using h2
  · unfold Srt
    rw [List.pairwise_map]
    have := List.pairwise_mergeSort (le := fun x y : List UInt8 => decide (x ≤ y)) (fun a b c h1 h2 => by simp only [decide_eq_true_eq] at *; exact List.le_trans h1 h2) (fun a b => by simp only [Bool.or_eq_true,decide_eq_true_eq]; exact List.le_total a b) ss
    refine this.imp fun {a b} h => ?_
    simp only [decide_eq_true_eq] at h
    unfold bLt
    rw [ByteArray.toList_eq,ByteArray.toList_eq,bytesLess_eq]
    simpa using h
 obtain ⟨A,c,hv,ho⟩ := Qdj (enc := Qbr) (l := Xr l) hrow (by rw [← hz]; simp) (by
  rw [← hz,show Qbr = fun x => [Value.string x] from rfl,Qgk,List.map_map]; rfl)
 exact ⟨v,rfl,A,c,hv,ho,hb⟩
theorem Qkb {P:Program} {ρ6:Ren} (S:SlLaysZI.n6 P ρ6) (hsort:∀ m,AnyZI.SortsIn P ρ6 Fence.wide m) (e9:∀ args w,(callFunc (ρ6.f 9) args).run P w = .ok (.enter (ρ6.f 9) args) w) {g:Nat} {lb:Array Value} (eg:∀ args w,(callFunc g args).run P w = .ok (.enter g args) w)
 (hok:Qox P (ρ6.f 6)) {w:World} {l:List Int} {N:Nat} {Q:List Int → Prop} (hQ:∀ ss,Q ss → ss.Perm l) (hN:N ≤ 1000000000) (hseq:SeqGives Fence.wide 2 P g lb (Value.int .i64) Q N w) :
 Cal P (ρ6.f 6) [.func (.func g) #[] lb] w fun r w' => ∃ A c,r = .slice A (Qd3 l).length c ∧ Own Qku 1 (ρ6.t 26) w.heap.size w' A c (Qd3 l) ∧ Ext w w' := by
 have hS := AnyZI.sorted_in S Fence.wide 5 trivial trivial trivial trivial rfl (by omega) (hsort _) e9 g lb trivial eg _ N (by unfold maxLen; omega) (by omega) w hseq
 refine ⟨hok,(callsIn_wide.1 hS).mono ?_⟩
 rintro e w' ⟨v,ss,rfl,hp,hrow,_,hb⟩
 have hz : (ss.mergeSort fun x y => decide (x ≤ y)) = Qd3 l := Qss ((Qdm ss).trans (hQ ss hp)) (Qmz ss)
 obtain ⟨A,c,hv,ho⟩ := Qdj (enc := Qku) (l := Qd3 l) hrow (by rw [← hz]; simp) (by
  rw [← hz,show Qku = fun x => [Value.int .i64 x] from rfl,Qgk])
 exact ⟨v,rfl,A,c,hv,ho,hb⟩
theorem Qh4 {P:Program} {ρ7:Ren} (K:SlLaysZ.n10 P ρ7) {w:World} {Bm b:Nat} {L:List (ByteArray × Value)} (hc:w.cell? ⟨Bm,0,none⟩ = some (.map (some b))) (hm:MapAt w b Value.string L) (hk:∀ x ∈ L,x.1.size ≤ 1000000) (hl:L.length ≤ 1000000000) :
 ∃ N Q,N ≤ 1000000000 ∧ (∀ ss : List (List UInt8),Q ss → ss.Perm ((L.map (·.1)).map fun x => x.data.toList)) ∧ SeqGives Fence.wide 2 P (ρ7.f 10) #[.pointer (some ⟨Bm,0,none⟩)] encStr Q N w := by
 obtain ⟨es,hown,hes⟩ := Qpq (P := P) (k := ρ7.t 26) hm (fun a b e => by simpa using e) (fun x => .string x.data.toList) (fun x hx => keyOf_string_mk K.t26 (by have := hk x hx; unfold maxLen; omega)) hl
 have hsz : Maps.size (.map es) = L.length := by
  have := hes.length_eq
  simp at this
  simpa [Maps.size] using this
 refine ⟨_,_,?_,fun ss hp => ?_,AnyZ.keys_gives K Fence.wide 2 trivial rfl (by omega) Bm b _ _ w (cell_lt hc) hc hown⟩
 · rw [hsz]; exact hl
 · refine hp.trans ?_
   simp only [strKeys]
   refine (hes.map _).trans ?_
   rw [List.map_map,List.map_map]
   exact List.Perm.refl _
theorem Q2e {P:Program} {ρ7:Ren} (K:SlLaysZI.n10 P ρ7) {w:World} {Bm b:Nat} {L:List (Int × Value)} (hc:w.cell? ⟨Bm,0,none⟩ = some (.map (some b))) (hm:MapAt w b vi L) (hk:∀ x ∈ L,0 ≤ x.1 ∧ x.1 ≤ 4611686018427387904) (hl:L.length ≤ 1000000000) :
 ∃ N Q,N ≤ 1000000000 ∧ (∀ ss : List Int,Q ss → ss.Perm (L.map (·.1))) ∧ SeqGives Fence.wide 2 P (ρ7.f 10) #[.pointer (some ⟨Bm,0,none⟩)] (Value.int .i64) Q N w := by
 obtain ⟨es,hown,hes⟩ := Qpq (P := P) (k := ρ7.t 26) hm (fun a b e => by simpa [vi] using e) (fun x => .int .i64 x) (fun x hx => keyOf_int_mk K.t26 (by
  have := hk x hx
  simp only [Lit.wf,Bool.and_eq_true,decide_eq_true_eq,show IntKind.i64.min = -9223372036854775808 from by decide,show IntKind.i64.max = 9223372036854775807 from by decide]
  omega)) hl
 have hsz : Maps.size (.map es) = L.length := by
  have := hes.length_eq
  simp at this
  simpa [Maps.size] using this
 refine ⟨_,_,?_,fun ss hp => ?_,AnyZI.keys_gives K Fence.wide 2 trivial rfl (by omega) Bm b _ _ w (cell_lt hc) hc hown⟩
 · rw [hsz]; exact hl
 · refine hp.trans ?_
   simp only [intKeys]
   refine (hes.map _).trans ?_
   rw [List.map_map]
   exact List.Perm.refl _
theorem Qp0 (w:World) (v:Value) (t:TypeId) : (w.alloc (.cells #[v] t)).cell? ⟨w.heap.size,0,none⟩ = some v := by
 exact cell_one_new w v t 0 v rfl
theorem Qfu {P:Program} {ρ7:Ren} (K:SlLaysZ.n7 P ρ7) (hok:Qox P (ρ7.f 7)) (mb:Option Nat) (w:World) :
 Cal P (ρ7.f 7) [.map mb] w fun r w' => r = .func (.func (ρ7.f 10)) #[] #[.pointer (some ⟨w.heap.size,0,none⟩)] ∧ w'.cell? ⟨w.heap.size,0,none⟩ = some (.map mb) ∧ Ext w w' := by
 refine ⟨hok,(callsIn_wide.1 (AnyZ.keys_in K Fence.wide 5 trivial rfl mb w)).mono ?_⟩
 rintro e w' ⟨rfl,rfl⟩
 exact ⟨_,rfl,rfl,Qp0 _ _ _,(Below.refl _ _).alloc (Nat.le_refl _) _⟩
theorem Q2d {P:Program} {ρ7:Ren} (K:SlLaysZI.n7 P ρ7) (hok:Qox P (ρ7.f 7)) (mb:Option Nat) (w:World) :
 Cal P (ρ7.f 7) [.map mb] w fun r w' => r = .func (.func (ρ7.f 10)) #[] #[.pointer (some ⟨w.heap.size,0,none⟩)] ∧ w'.cell? ⟨w.heap.size,0,none⟩ = some (.map mb) ∧ Ext w w' := by
 refine ⟨hok,(callsIn_wide.1 (AnyZI.keys_in K Fence.wide 5 trivial rfl mb w)).mono ?_⟩
 rintro e w' ⟨rfl,rfl⟩
 exact ⟨_,rfl,rfl,Qp0 _ _ _,(Below.refl _ _).alloc (Nat.le_refl _) _⟩
end
end Go.Proofs.YteabekcdcphjpaaGreatDoor
namespace Go.Proofs.YteabekcdcphjpaaGreatDoor
open Go.Se Go.RowKit
open Go.Maps Go.Sort Go.Shelf
theorem Qih : Xr [] = [] := by simp [Xr]
theorem Qmy : Qd3 [] = [] := by simp [Qd3]
theorem Qs0 (m:Nat) : AnyZ.SortsIn Tryz.prog Tryz.sorted94_ren Fence.wide m :=
 ⟨fun blk off cap ss W h1 h2 h3 => callsIn_wide.2 (AnyM.slices_Sort_string Tryz.sort92 blk off cap ss W h1 h2 h3),fun p cap W => callsIn_wide.2 (AnyM.slices_Sort_string_none Tryz.sort92 p cap W)⟩
theorem Q7h (m:Nat) : AnyZI.SortsIn Tryz.prog Tryz.sorted235_ren Fence.wide m :=
 ⟨fun blk off cap ss W h1 h2 h3 => callsIn_wide.2 (AnyM.slices_Sort_int Tryz.sort263 blk off cap ss W h1 h2 h3),fun p cap W => callsIn_wide.2 (AnyM.slices_Sort_int_none Tryz.sort263 p cap W)⟩
theorem Qy4 (mb:Option Nat) (w:World) : Cal Tryz.prog 234 [.map mb] w fun r w' => r = .func (.func 261) #[] #[.pointer (some ⟨w.heap.size,0,none⟩)] ∧ w'.cell? ⟨w.heap.size,0,none⟩ = some (.map mb) ∧ Ext w w' :=
 Qfu Tryz.keys234 ⟨_,Tryz.func234,rfl,rfl⟩ mb w
theorem Qsv {w:World} {Bm b:Nat} {L:List (ByteArray × Value)} (hc:w.cell? ⟨Bm,0,none⟩ = some (.map (some b))) (hm:MapAt w b Value.string L) (hk:∀ x ∈ L,x.1.size ≤ 1000000) (hl:L.length ≤ 1000000000) :
 Cal Tryz.prog 94 [.func (.func 261) #[] #[.pointer (some ⟨Bm,0,none⟩)]] w fun r w' => ∃ A c,r = .slice A (Xr (L.map (·.1))).length c ∧ Own Qbr 1 9 w.heap.size w' A c (Xr (L.map (·.1))) ∧ Ext w w' := by
 obtain ⟨N,Q,h1,h2,h3⟩ := Qh4 { Tryz.keys234 with } hc hm hk hl
 exact Qc2 Tryz.sorted94 Qs0 (enters_of Tryz.func92 (by kernel_rfl) rfl) (enters_of Tryz.func261 (by kernel_rfl) rfl) ⟨_,Tryz.func94,rfl,rfl⟩ h2 h1 h3
theorem Qy8 (mb:Option Nat) (w:World) : Cal Tryz.prog 104 [.map mb] w fun r w' => r = .func (.func 176) #[] #[.pointer (some ⟨w.heap.size,0,none⟩)] ∧ w'.cell? ⟨w.heap.size,0,none⟩ = some (.map mb) ∧ Ext w w' :=
 Qfu Tryz.keys104 ⟨_,Tryz.func104,rfl,rfl⟩ mb w
theorem Qsy {w:World} {Bm b:Nat} {L:List (ByteArray × Value)} (hc:w.cell? ⟨Bm,0,none⟩ = some (.map (some b))) (hm:MapAt w b Value.string L) (hk:∀ x ∈ L,x.1.size ≤ 1000000) (hl:L.length ≤ 1000000000) :
 Cal Tryz.prog 94 [.func (.func 176) #[] #[.pointer (some ⟨Bm,0,none⟩)]] w fun r w' => ∃ A c,r = .slice A (Xr (L.map (·.1))).length c ∧ Own Qbr 1 9 w.heap.size w' A c (Xr (L.map (·.1))) ∧ Ext w w' := by
 obtain ⟨N,Q,h1,h2,h3⟩ := Qh4 { Tryz.keys104 with } hc hm hk hl
 exact Qc2 Tryz.sorted94 Qs0 (enters_of Tryz.func92 (by kernel_rfl) rfl) (enters_of Tryz.func176 (by kernel_rfl) rfl) ⟨_,Tryz.func94,rfl,rfl⟩ h2 h1 h3
theorem Qn6 (mb:Option Nat) (w:World) : Cal Tryz.prog 236 [.map mb] w fun r w' => r = .func (.func 264) #[] #[.pointer (some ⟨w.heap.size,0,none⟩)] ∧ w'.cell? ⟨w.heap.size,0,none⟩ = some (.map mb) ∧ Ext w w' :=
 Q2d Tryz.keys236 ⟨_,Tryz.func236,rfl,rfl⟩ mb w
theorem Qsx {w:World} {Bm b:Nat} {L:List (Int × Value)} (hc:w.cell? ⟨Bm,0,none⟩ = some (.map (some b))) (hm:MapAt w b vi L) (hk:∀ x ∈ L,0 ≤ x.1 ∧ x.1 ≤ 4611686018427387904) (hl:L.length ≤ 1000000000) :
 Cal Tryz.prog 235 [.func (.func 264) #[] #[.pointer (some ⟨Bm,0,none⟩)]] w fun r w' => ∃ A c,r = .slice A (Qd3 (L.map (·.1))).length c ∧ Own Qku 1 3 w.heap.size w' A c (Qd3 (L.map (·.1))) ∧ Ext w w' := by
 obtain ⟨N,Q,h1,h2,h3⟩ := Q2e { Tryz.keys236 with } hc hm hk hl
 exact Qkb Tryz.sorted235 Q7h (enters_of Tryz.func263 (by kernel_rfl) rfl) (enters_of Tryz.func264 (by kernel_rfl) rfl) ⟨_,Tryz.func235,rfl,rfl⟩ h2 h1 h3
theorem Qvm {w:World} {Bm:Nat} (hc:w.cell? ⟨Bm,0,none⟩ = some (.map none)) :
 Cal Tryz.prog 235 [.func (.func 264) #[] #[.pointer (some ⟨Bm,0,none⟩)]] w fun r w' => ∃ A c,r = .slice A 0 c ∧ Own Qku 1 3 w.heap.size w' A c [] ∧ Ext w w' := by
 have := Qkb Tryz.sorted235 Q7h (enters_of Tryz.func263 (by kernel_rfl) rfl) (enters_of Tryz.func264 (by kernel_rfl) rfl) ⟨_,Tryz.func235,rfl,rfl⟩ (l := []) (fun ss (h:ss = []) => by rw [h]) (Nat.zero_le _) (AnyZI.keys_gives_nil { Tryz.keys236 with } Fence.wide 2 trivial rfl Bm w (cell_lt hc) hc)
 simp only [Qih,Qmy,List.length_nil] at this
 exact this
end Go.Proofs.YteabekcdcphjpaaGreatDoor
namespace Go.Proofs.YteabekcdcphjpaaGreatDoor
open Go.Se Go.RowKit
def Q1w : List ByteArray → List ByteArray
 | [] => []
 | a :: l => if a ∈ l then Q1w l else a :: Q1w l
theorem Qgd {x:ByteArray} : ∀ {l:List ByteArray},x ∈ Q1w l ↔ x ∈ l
 | [] => Iff.rfl
 | a :: l => by
   have ih := Qgd (x := x) (l := l)
   unfold Q1w
   split
   · next h =>
     rw [ih,List.mem_cons]
     constructor
     · exact .inr
     · rintro (rfl | h1)
       · exact h
       · exact h1
   · rw [List.mem_cons,List.mem_cons,ih]
theorem Qen : ∀ l : List ByteArray,(Q1w l).Nodup
 | [] => List.nodup_nil
 | a :: l => by
   have ih := Qen l
   unfold Q1w
   split
   · exact ih
   · next h => exact List.nodup_cons.2 ⟨fun h1 => h (Qgd.1 h1),ih⟩
def Qc8 (l:List ByteArray) : List ByteArray := Xr (Q1w l)
theorem Xz {l:List ByteArray} {x:ByteArray} : x ∈ Qc8 l ↔ x ∈ l := by unfold Qc8; rw [Qdy,Qgd]
theorem Qgp (l:List ByteArray) : (Qc8 l).Nodup := (Qcp _).nodup_iff.2 (Qen l)
theorem Qhj {K l:List ByteArray} (hn:K.Nodup) (hm:∀ x,x ∈ K ↔ x ∈ l) : Xr K = Qc8 l := by
 have hp : K.Perm (Q1w l) := Qcy hn (Qen l) (fun x hx => Qgd.2 ((hm x).1 hx)) (fun x hx => (hm x).2 (Qgd.1 hx))
 exact Qc1 ((Qcp K).trans hp) (Qii K)
theorem Qjq {k l:List ByteArray} (hm:∀ x,x ∈ k ↔ x ∈ l) : Qc8 k = Qc8 l := Qhj (Qen k) fun x => Qgd.trans (hm x)
theorem Qkx (l:List ByteArray) : (Qc8 l).length ≤ l.length := by
 unfold Qc8
 rw [Qcg]
 induction l with
 | nil => simp [Q1w]
 | cons a l ih => unfold Q1w; split <;> simp <;> omega
theorem Qal {β:Type} {L:List (ByteArray × β)} (h:L.Pairwise (fun x y => x.1 ≠ y.1)) : (L.map (·.1)).Nodup := by
 rw [List.nodup_iff_pairwise_ne,List.pairwise_map]; exact h
theorem Qgl {β:Type} {L:List (ByteArray × β)} {k:ByteArray} : k ∈ L.map (·.1) ↔ (Qc L k).isSome = true := by
 cases h : Qc L k with
 | none =>
   have := Qem.1 h
   simp only [List.mem_map,Option.isSome_none,Bool.false_eq_true,iff_false]
   rintro ⟨x,hx,rfl⟩
   exact this x hx rfl
 | some v =>
   have := Xg h
   simp only [Option.isSome_some,iff_true,List.mem_map]
   exact ⟨_,this,rfl⟩
abbrev Grp := Int × Int × List ByteArray
def Qco (gap:Int) (acc:List Grp) (t:Int) (its:List ByteArray) : List Grp :=
 match acc.getLast? with
 | some g => if gap < t - g.2.1 then acc ++ [(t,t,its)] else acc.dropLast ++ [(g.1,t,g.2.2 ++ its)]
 | none => [(t,t,its)]
abbrev Qd1 := List (Int × List (ByteArray × Bool))
def Xl (k:Qd1) (t:Int) : List ByteArray := ((Qc k t).getD []).map (·.1)
def Qfi (gap:Int) (k:Qd1) (ts:List Int) : List Grp := ts.foldl (fun acc t => Qco gap acc t (Xl k t)) []
def Q94 (gap:Int) (k:Qd1) : List Grp := Qfi gap k (Qd3 (k.map (·.1)))
theorem Qgf (gap:Int) (k:Qd1) (ts:List Int) (t:Int) : Qfi gap k (ts ++ [t]) = Qco gap (Qfi gap k ts) t (Xl k t) := by unfold Qfi; rw [List.foldl_append]; rfl
structure Sn where
 person : ByteArray
 from_ : Int
 to_ : Int
 items : List ByteArray
deriving DecidableEq,Inhabited
def Q4s (person:ByteArray) (g:Grp) : Sn := ⟨person,g.1,g.2.1,Qc8 g.2.2⟩
def Qc0 (gap:Int) (ss:Ses) (person:ByteArray) : List Sn := (Q94 gap ((Qc ss person).getD [])).map (Q4s person)
def Qg4 (gap:Int) (ss:Ses) : List Sn := (Xr (ss.map (·.1))).flatMap (Qc0 gap ss)
theorem Q8a (gap:Int) (acc:List Grp) (t:Int) (its:List ByteArray) : (Qco gap acc t its).length ≤ acc.length + 1 := by
 unfold Qco
 split
 · next g h =>
   split
   · simp
   · simp
 · simp
theorem Q14 (gap:Int) (k:Qd1) : ∀ ts : List Int,(Qfi gap k ts).length ≤ ts.length := by
 refine Qy (by simp [Qfi]) fun l t ih => ?_
 rw [Qgf]
 have := Q8a gap (Qfi gap k l) t (Xl k t)
 simp; omega
theorem Q5p (gap:Int) (k:Qd1) : (Q94 gap k).length ≤ k.length := by
 have := Q14 gap k (Qd3 (k.map (·.1)))
 rw [Qsq,List.length_map] at this
 exact this
def hasB (a:ByteArray) (s:Sn) : Bool := decide (a ∈ s.items)
def Xx (S:List Sn) (a:ByteArray) : Nat := (S.filter (hasB a)).length
def Qbv (S:List Sn) (a b:ByteArray) : Nat := (S.filter fun s => hasB a s && hasB b s).length
theorem Qmu (S:List Sn) (a:ByteArray) : Xx S a ≤ S.length := List.length_filter_le _ _
theorem Qmh (S:List Sn) (a b:ByteArray) : Qbv S a b ≤ S.length := List.length_filter_le _ _
theorem Q22 (S:List Sn) (a b:ByteArray) : Qbv S a b ≤ Xx S a := by
 unfold Qbv Xx
 induction S with
 | nil => simp
 | cons s S ih =>
   simp only [List.filter_cons]
   cases hasB a s <;> cases hasB b s <;> simp <;> omega
def Q05 (half now:Int) (e:Ev) : Int := Qw e * Qa0 (now - e.at_) half
def Qck (n:Int) (m:List (ByteArray × Int)) (t:ByteArray) : List (ByteArray × Int) := Qz m t (IntKind.i64.wrap ((Qc m t).getD 0 + n))
def Qel (half now:Int) (m:List (ByteArray × Int)) (r:Row) : List (ByteArray × Int) := if now < r.1.at_ then m else r.2.foldl (Qck (Q05 half now r.1)) m
def Qx1 (half now:Int) (rows:List Row) : List (ByteArray × Int) := rows.foldl (Qel half now) []
theorem Qiq (half now:Int) (l:List Row) (r:Row) : Qx1 half now (l ++ [r]) = Qel half now (Qx1 half now l) r := by unfold Qx1; rw [List.foldl_append]; rfl
theorem Qv5 (n:Int) (m:List (ByteArray × Int)) (l:List ByteArray) (t:ByteArray) : (l ++ [t]).foldl (Qck n) m = Qck n (l.foldl (Qck n) m) t := by rw [List.foldl_append]; rfl
def Q6q (half now:Int) (rows:List Row) : List (ByteArray × Int) := (Qx1 half now rows).filter fun x => decide (0 < x.2)
def rowsOf (rs:List Row) (person:ByteArray) : List Row := rs.filter fun r => decide (r.1.person = person)
theorem Qos {half now:Int} {e:Ev} (hm:Xj e = true) : 0 ≤ Q05 half now e ∧ Q05 half now e ≤ 5242880 := by
 have h1 := Qfc hm
 have h2 := Qkd (now - e.at_) half
 unfold Q05
 refine ⟨Int.mul_nonneg h1.1 h2.1,?_⟩
 have : Qw e * Qa0 (now - e.at_) half ≤ 5 * 1048576 := Int.mul_le_mul h1.2 h2.2 h2.1 (by omega)
 omega
theorem Q0p (tg:List ByteArray) (n:Int) (l:List (ByteArray × Int)) : ((tg.foldl (Qck n) l).length) ≤ l.length + tg.length := by
 induction tg generalizing l with
 | nil => simp
 | cons t tg ih =>
   have := ih (Qck n l t)
   have h2 := Qez t (IntKind.i64.wrap ((Qc l t).getD 0 + n)) l
   simp only [List.foldl_cons,List.length_cons]
   unfold Qck at *
   omega
theorem Qx2 (half now:Int) : ∀ rows : List Row,(Qx1 half now rows).length ≤ (rows.map fun r => r.2.length).sum := by
 refine Qy (by simp [Qx1]) fun l r ih => ?_
 rw [Qiq,List.map_append,List.sum_append]
 unfold Qel
 split
 · simp; omega
 · have := Q0p r.2 (Q05 half now r.1) (Qx1 half now l)
   simp; omega
theorem Qv4 (n:Int) (tg:List ByteArray) : ∀ l : List (ByteArray × Int),l.Pairwise (fun x y => x.1 ≠ y.1) → (tg.foldl (Qck n) l).Pairwise (fun x y => x.1 ≠ y.1) := by
 induction tg with
 | nil => intro l h; exact h
 | cons t tg ih => intro l h; exact ih _ (X8 h)
theorem Q4k (half now:Int) : ∀ rows : List Row,(Qx1 half now rows).Pairwise (fun x y => x.1 ≠ y.1) := by
 refine Qy (by simp [Qx1]) fun l r ih => ?_
 rw [Qiq]
 unfold Qel
 split
 · exact ih
 · exact Qv4 _ _ _ ih
def Q87 (half now:Int) (rows:List Row) (t:ByteArray) : Int := ((rows.filter fun r => decide (r.1.at_ ≤ now) && decide (t ∈ r.2)).map fun r => Q05 half now r.1).sum
theorem Q85 (n:Int) (t:ByteArray) : ∀ (tg:List ByteArray),tg.Nodup → ∀ m : List (ByteArray × Int),(Qc (tg.foldl (Qck n) m) t) = if t ∈ tg then some (IntKind.i64.wrap ((Qc m t).getD 0 + n)) else Qc m t := by
 intro tg
 induction tg with
 | nil => intro _ m; simp
 | cons a tg ih =>
   intro hn m
   rw [List.nodup_cons] at hn
   rw [List.foldl_cons,ih hn.2]
   unfold Qck
   by_cases h1 : t = a
   · subst h1
     rw [if_neg hn.1,Q5,if_pos rfl,if_pos (by simp)]
   · rw [Q5,if_neg h1]
     by_cases h2 : t ∈ tg
     · rw [if_pos h2,if_pos (by simp [h2])]
     · rw [if_neg h2,if_neg (by simp [h1,h2])]
theorem Q88 (half now:Int) (t:ByteArray) : ∀ rows : List Row,(∀ r ∈ rows,Xj r.1 = true ∧ r.2.Nodup) → rows.length < 1000000 → ((Qc (Qx1 half now rows) t).getD 0 = Q87 half now rows t) ∧ 0 ≤ Q87 half now rows t ∧ Q87 half now rows t ≤ rows.length * 5242880 ∧ ((Qc (Qx1 half now rows) t).isSome = true ↔ ∃ r ∈ rows,r.1.at_ ≤ now ∧ t ∈ r.2) := by
 refine Qy (fun _ _ => by simp [Qx1,Q87,Qc]) fun l r ih h hl => ?_
 have hl' : l.length < 1000000 := by simp at hl; omega
 obtain ⟨i1,i2,i3,i4⟩ := ih (fun x hx => h x (by simp [hx])) hl'
 have hr := h r (by simp)
 have hb := Qos (half := half) (now := now) hr.1
 have hlen : (((l ++ [r]).length : Nat) : Int) = l.length + 1 := by simp
 rw [Qiq]
 unfold Qel
 have hS : Q87 half now (l ++ [r]) t = Q87 half now l t + if r.1.at_ ≤ now ∧ t ∈ r.2 then Q05 half now r.1 else 0 := by
  unfold Q87
  rw [List.filter_append,List.map_append,List.sum_append]
  by_cases hc : r.1.at_ ≤ now ∧ t ∈ r.2
  · simp [hc.1,hc.2]
  · have : (decide (r.1.at_ ≤ now) && decide (t ∈ r.2)) = false := by
     rw [Bool.and_eq_false_iff]
     by_cases h1 : r.1.at_ ≤ now
     · exact .inr (by simpa using fun h2 => hc ⟨h1,h2⟩)
     · exact .inl (by simpa using h1)
    rw [if_neg hc]
    simp [this]
 rw [hS]
 by_cases hnow : now < r.1.at_
 · rw [if_pos hnow,if_neg (by omega)]
   refine ⟨by rw [i1]; omega,by omega,by rw [hlen,Int.add_mul]; omega,i4.trans ⟨?_,?_⟩⟩
   · rintro ⟨x,hx,h1⟩; exact ⟨x,by simp [hx],h1⟩
   · rintro ⟨x,hx,h1,h2⟩
     rcases List.mem_append.1 hx with hx | hx
     · exact ⟨x,hx,h1,h2⟩
     · have : x = r := by simpa using hx
       subst this; omega
 · rw [if_neg hnow,Q85 _ _ _ hr.2]
   by_cases ht : t ∈ r.2
   · rw [if_pos ht,if_pos ⟨by omega,ht⟩,i1]
     refine ⟨?_,by omega,by rw [hlen,Int.add_mul]; omega,by simp only [Option.isSome_some,true_iff]; exact ⟨r,by simp,by omega,ht⟩⟩
     simp only [Option.getD_some]
     exact (wrap_eq rfl ⟨by omega,by omega⟩).symm
   · rw [if_neg ht,if_neg (fun hc => ht hc.2)]
     refine ⟨by rw [i1]; omega,by omega,by rw [hlen,Int.add_mul]; omega,i4.trans ⟨?_,?_⟩⟩
     · rintro ⟨x,hx,h1⟩; exact ⟨x,by simp [hx],h1⟩
     · rintro ⟨x,hx,h1,h2⟩
       rcases List.mem_append.1 hx with hx | hx
       · exact ⟨x,hx,h1,h2⟩
       · have : x = r := by simpa using hx
         subst this; exact absurd h2 ht
theorem Q8u (width:Int) : ∀ l : List Ev,(Qid width l).Pairwise (fun x y => x.1 ≠ y.1) := by
 refine Qy (by simp [Qid]) fun l e ih => ?_
 rw [Qmj]
 unfold Qie
 split
 · exact ih
 · exact X8 ih
theorem Qnr {κ β:Type} [DecidableEq κ] (x:κ × β) (l:List (κ × β)) (k:κ) : Qc (x :: l) k = if k = x.1 then some x.2 else Qc l k := rfl
theorem Qmf {s:Xq} {key:ByteArray} {lo hi:Int} (h:hi ≤ lo) : paS s key lo hi = 0 := by
 unfold paS
 have : (s.filter fun x => decide (x.1.1 = key) && (decide (lo ≤ x.1.2) && decide (x.1.2 < hi))) = [] := by
  rw [List.filter_eq_nil_iff]
  intro x _
  simp
  omega
 rw [this]; rfl
theorem Qp7 (x:PK × Int) (s:Xq) (key:ByteArray) (lo hi:Int) : paS (x :: s) key lo hi = (if x.1.1 = key ∧ lo ≤ x.1.2 ∧ x.1.2 < hi then x.2 else 0) + paS s key lo hi := by
 unfold paS
 rw [List.filter_cons]
 by_cases h : x.1.1 = key ∧ lo ≤ x.1.2 ∧ x.1.2 < hi
 · rw [if_pos (by simp [h.1,h.2.1,h.2.2]),if_pos h]; simp
 · rw [if_neg (by simpa using h),if_neg h]; omega
theorem Q57 {s:Xq} (hp:s.Pairwise (fun x y => x.1 ≠ y.1)) (key:ByteArray) (lo hi:Int) (h:lo ≤ hi) : paS s key lo (hi + 1) = paS s key lo hi + (Qc s (key,hi)).getD 0 := by
 induction s with
 | nil => simp [paS,Qc]
 | cons x s ih =>
   rw [List.pairwise_cons] at hp
   have ih := ih hp.2
   rw [Qp7,Qp7,ih,Qnr]
   by_cases hk : (key,hi) = x.1
   · rw [if_pos hk]
     have h0 : Qc s (key,hi) = none := Qem.2 fun y hy => by rw [hk]; exact fun e => hp.1 y hy e.symm
     rw [h0,if_pos (by rw [← hk]; simp; omega),if_neg (by rw [← hk]; simp)]
     simp
     omega
   · rw [if_neg hk]
     have : (x.1.1 = key ∧ lo ≤ x.1.2 ∧ x.1.2 < hi + 1) ↔ (x.1.1 = key ∧ lo ≤ x.1.2 ∧ x.1.2 < hi) := by
      constructor
      · rintro ⟨h1,h2,h3⟩
        refine ⟨h1,h2,?_⟩
        have : x.1.2 ≠ hi := fun e => hk (by rw [← h1,← e])
        omega
      · rintro ⟨h1,h2,h3⟩; exact ⟨h1,h2,by omega⟩
     by_cases hc : x.1.1 = key ∧ lo ≤ x.1.2 ∧ x.1.2 < hi
     · rw [if_pos hc,if_pos (this.2 hc)]; omega
     · rw [if_neg hc,if_neg (fun h => hc (this.1 h))]; omega
def Q4r (s:Xq) (key:ByteArray) (lo hi:Int) (row:List Int) : Int := ((row.filter fun n => decide (lo ≤ n) && decide (n < hi)).map fun n => (Qc s (key,n)).getD 0).sum
theorem Q3k (s:Xq) (key:ByteArray) (lo hi:Int) (row:List Int) (n:Int) : Q4r s key lo hi (row ++ [n]) = Q4r s key lo hi row + if lo ≤ n ∧ n < hi then (Qc s (key,n)).getD 0 else 0 := by
 unfold Q4r
 rw [List.filter_append,List.map_append,List.sum_append]
 by_cases h : lo ≤ n ∧ n < hi
 · simp [h.1,h.2]
 · rw [if_neg h]
   have : (decide (lo ≤ n) && decide (n < hi)) = false := by simpa using fun h1 => by omega
   simp [this]
theorem Q6g {s:Xq} (hp:s.Pairwise (fun x y => x.1 ≠ y.1)) (key:ByteArray) (lo hi:Int) : Q4r s key lo hi (Xy s key) = paS s key lo hi := by
 unfold Q4r Xy paS
 rw [List.filter_map,List.map_map,List.filter_filter]
 have : (s.filter fun a => (Function.comp (fun n => decide (lo ≤ n) && decide (n < hi)) fun x : PK × Int => x.1.2) a && decide (a.1.1 = key)) = s.filter fun x => decide (x.1.1 = key) && (decide (lo ≤ x.1.2) && decide (x.1.2 < hi)) := by
  apply List.filter_congr
  intro x _
  simp only [Function.comp]
  rw [Bool.and_comm]
 rw [this]
 congr 1
 apply List.map_congr_left
 intro x hx
 have hm := List.mem_filter.1 hx
 have hk : x.1.1 = key := by have := hm.2; simp at this; exact this.1
 simp only [Function.comp]
 rw [← hk,Xh hp (show ((x.1.1,x.1.2),x.2) ∈ s from hm.1)]
 rfl
theorem Q21 {s:Xq} {N:Int} (h:Qc5 s N) (hN:0 ≤ N) (key:ByteArray) (lo hi:Int) : 0 ≤ paS s key lo hi ∧ paS s key lo hi ≤ s.length * N := by
 have hb := Qc3 (fun x:PK × Int => x.2) N (s.filter fun x => decide (x.1.1 = key) && (decide (lo ≤ x.1.2) && decide (x.1.2 < hi))) fun x hx => by
  have := h x (List.mem_filter.1 hx).1
  exact ⟨by omega,this.2⟩
 have hl := List.length_filter_le (fun x:PK × Int => decide (x.1.1 = key) && (decide (lo ≤ x.1.2) && decide (x.1.2 < hi))) s
 unfold paS
 refine ⟨hb.1,Int.le_trans hb.2 (Int.mul_le_mul_of_nonneg_right (by omega) hN)⟩
end Go.Proofs.YteabekcdcphjpaaGreatDoor
