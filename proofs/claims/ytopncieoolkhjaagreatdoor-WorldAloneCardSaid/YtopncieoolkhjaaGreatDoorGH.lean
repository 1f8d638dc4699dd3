/- Several texts in one: Rd3, Pl1, Rd1, Rd2, Pl2, Pl3, Pl4. -/
import Derived.Test.YtopncieoolkhjaaGreatDoorGF
import Derived.Laws.IdiomRangeMap
import Derived.Test.YtopncieoolkhjaaGreatDoorHKeyL
set_option linter.unusedVariables false
set_option linter.unusedSimpArgs false
namespace Go.Proofs.YtopncieoolkhjaaGreatDoor
open Go.Se Go.RowKit
theorem Qmt (a b:Int) : IntKind.i64.wrap (IntKind.i64.wrap a + b) = IntKind.i64.wrap (a + b) := by
 simp only [IntKind.wrap,IntKind.bits,IntKind.signed]
 simp
 split <;> split <;> split <;> omega
theorem Qxd (a b:Int) : IntKind.i64.wrap (a + IntKind.i64.wrap b) = IntKind.i64.wrap (a + b) := by
 rw [Int.add_comm,Qmt,Int.add_comm]
theorem Q2o : IntKind.i64.wrap 0 = 0 := by decide
def Xh (age half:Int) : Int := if age < 0 then 0 else if 20 < age / max half 1 then 0 else (1048576:Int).fdiv (2 ^ (age / max half 1).toNat)
theorem Qk8 (age half:Int) (ha:-4611686018427387904 ≤ age ∧ age ≤ 9223372036854775807) (w:World) :
 Cal Tryz.prog 68 [.int .i64 age,.int .i64 half] w fun r w' => r = .int .i64 (Xh age half) ∧ w' = w := by
 have hm : max half 1 ≠ 0 := by omega
 refine Fi Tryz.func68 rfl _ rfl rfl ?_;conv=>whnf
 constructor
 · intro hc
   have hc : age < 0 := by simpa using hc
   conv=>whnf
   exact ⟨by rw [Xh,if_pos hc],rfl⟩
 · intro hc
   have hc : ¬ age < 0 := by simpa using hc
   have h1 : age.tdiv (max half 1) = age / max half 1 := Int.tdiv_eq_ediv_of_nonneg (by omega)
   have h2 : 0 ≤ age / max half 1 := Int.ediv_nonneg (by omega) (by omega)
   have h3 : age / max half 1 ≤ age := Int.ediv_le_self _ (by omega)
   have hw : Xh age half = if 20 < age / max half 1 then 0 else (1048576:Int).fdiv (2 ^ (age / max half 1).toNat) := by rw [Xh,if_neg hc]
   rw [hw]
   clear hw
   conv=>whnf
   refine ⟨age / max half 1,⟨hm,wrap_eq h1.symm ⟨by omega,by omega⟩⟩,?_⟩;conv=>whnf
   generalize age / max half 1 = n at h2 h3 ⊢
   constructor
   · intro hn
     have hn : 20 < n := by simpa using hn
     conv=>whnf
     exact ⟨by rw [if_pos hn],rfl⟩
   · intro hn
     have hn : ¬ 20 < n := by simpa using hn
     have hmin : min n.toNat IntKind.i64.bits = n.toNat := by simp only [IntKind.bits]; omega
     conv=>whnf
     refine ⟨(1048576:Int).fdiv (2 ^ n.toNat),⟨h2,by rw [hmin]⟩,?_⟩;conv=>whnf
     exact ⟨by rw [if_neg hn],rfl⟩
def Qlk (half now:Int) (r:List (Int × Int)) : Int := (r.map fun x => x.2 * Xh (now - x.1) half).sum
theorem Q1l {l m:List Int} (h:l.Perm m) : l.sum = m.sum := by
 induction h with
 | nil => rfl
 | cons a _ ih => simp [ih]
 | swap a b l => simp only [List.sum_cons]; omega
 | trans _ _ h1 h2 => exact h1.trans h2
theorem Qw0 {half now:Int} {r s:List (Int × Int)} (h:r.Perm s) : Qlk half now r = Qlk half now s := Q1l (h.map _)
def Qcp (s:Qqg) (half:Int) (key:ByteArray) (now:Int) : Int := IntKind.i64.wrap (Qlk half now ((Qd s key).getD []))
theorem Qy9 {P:Program} {w:World} {mt kt et:TypeId} (ht:P.underlying mt = some (.map kt et)) {R:Value → World → Prop}
 (h:∀ w',Ext w w' → w'.heap[w.heap.size]? = some (.mapIter none 0 #[] 0) → R (.pointer (some ⟨w.heap.size,0,none⟩)) w') : Qid P (Instr.range mt (.map none)) w R := by
 refine ⟨_,_,Go.run_range_nilMap w mt kt et ht,h _ ((Below.refl _ _).alloc (Nat.le_refl _) _) (heap_alloc_new w _)⟩
theorem Q1f {P:Program} {w:World} {r:Nat} {a b:Nat} {s:Array Nat} {ty:TypeId} (hr:w.heap[r]? = some (.mapIter none a s b)) {R:Value → World → Prop} (h:R (.tuple #[.bool false]) w) : Qid P (Instr.next (.pointer (some ⟨r,0,none⟩)) false ty) w R := by
 refine ⟨_,_,?_,h⟩
 simp only [Instr.next,getObj,Sem.run_bind,Sem.run,hr,Result.andThen]
 rfl
theorem Qxb {vs L:List (Int × Int)} (h:(X6 vi vs).Perm (X6 vi L)) : vs.Perm L := by
 have h1 := h.map (fun x:Int × Value => (x.1,match x.2 with | .int _ n => n | _ => 0))
 simpa [X6,List.map_map,Function.comp_def,vi] using h1
theorem Qhl (w:World) (S:Nat → Prop) (p:Nat) (half n:Int) (s:Qqg) (h:Qux w S p half n s) (key:ByteArray) (now:Int) (hnow:0 ≤ now ∧ now ≤ 1099511627776) (ht:∀ r,Qd s key = some r → ∀ x ∈ r,0 ≤ x.1 ∧ x.1 ≤ 1099511627776) :
 Cal Tryz.prog 27 [.pointer (some ⟨p,0,none⟩),.string key,.int .i64 now] w fun r w' => r = .int .i64 (Qcp s half key now) ∧ Ext w w' := by
 obtain ⟨bm,h⟩ := h
 have hplt := h.head.lt
 have hhead := h.head
 refine Fi Tryz.func27 rfl _ rfl rfl ?_;conv=>whnf
 constructor
 · intro hc
   have hc : now < 0 := by simpa using hc
   omega
 intro _
 conv=>whnf
 refine ⟨.map (some bm),h.head.one rfl,?_⟩;conv=>whnf
 rcases h.sums.look Xz Q12 (Qu Xm) (e := ty141) ty141_ok rfl key with ⟨hno,hrd⟩ | ⟨b,m,Sk,hsome,hrd,hIv,hSk,_⟩
 · have hres : Qcp s half key now = 0 := by unfold Qcp; rw [hno]; exact Q2o
   rw [hres]
   refine ⟨_,hrd .same Qr,?_⟩;conv=>whnf
   refine Qy9 Qw8 fun w2 hx2 hr2 => ?_
   generalize w.heap.size = r at hr2 ⊢
   conv=>whnf
   refine Qe Qa (fun (_:Unit) w' => w' = w2) (fun _ => [(19,.pointer (some ⟨r,0,none⟩)),(7,.int .i64 0)]) (fun _ => 0) () rfl ⟨rfl,rfl,trivial⟩ ?_
   rintro _ w3 rfl
   conv=>whnf
   refine Q1f hr2 ?_
   conv=>whnf
   constructor
   · intro hh; cases hh
   intro _
   conv=>whnf
   exact ⟨rfl,hx2⟩
 · have hm := hIv.2
   have ht := ht m hsome
   have hres : Qcp s half key now = IntKind.i64.wrap (Qlk half now m) := by unfold Qcp; rw [hsome]; rfl
   rw [hres]
   refine ⟨_,hrd .same Qr,?_⟩;conv=>whnf
   refine map_range Qw8 hm fun w3 hi3 hx3 => ?_
   have hrw : w.heap.size ≤ w.heap.size := Nat.le_refl _
   generalize hr : w.heap.size = r at hi3 ⊢
   conv=>whnf
   refine Qe Qa (fun (q:List (Int × Int) × Int) w' => Ext w w' ∧ Iter w' r b vi (X6 vi m) (X6 vi q.1) ∧ q.2 = IntKind.i64.wrap (Qlk half now q.1))
    (fun | (vs,z) => [(0,.pointer (some ⟨p,0,none⟩)),(2,.int .i64 now),(19,.pointer (some ⟨r,0,none⟩)),(7,.int .i64 z)]) (fun q => m.length - q.1.length) ([],0) ⟨hx3,hi3,Q2o.symm⟩ ⟨rfl,rfl,rfl,rfl,trivial⟩ ?_
   clear hi3 hx3
   rintro ⟨vs,z⟩ w4 ⟨hx4,hi4,hz⟩
   simp only at hi4 hz
   conv=>whnf
   refine Qfw hi4 (fun hp => ?_) (fun x w5 hin hnew hlt hi5 ho5 hen => ?_)
   · have hp := Qxb hp
     conv=>whnf
     constructor
     · intro hh; cases hh
     intro _
     conv=>whnf
     exact ⟨by rw [hz,Qw0 hp],hx4⟩
   · obtain ⟨y,hy,rfl⟩ := List.mem_map.1 hin
     have hlt : vs.length < m.length := by simpa [X6] using hlt
     have hvs : X6 vi vs ++ [(y.1,vi y.2)] = X6 vi (vs ++ [y]) := by simp [X6]
     rw [hvs] at hi5
     have hx5 := ho5.ext hx4 (by omega)
     have hty := ht y hy
     have hsn : IntKind.i64.wrap (Qlk half now (vs ++ [y])) = IntKind.i64.wrap (z + IntKind.i64.wrap (y.2 * Xh (now - y.1) half)) := by
      rw [hz,Qmt,Qxd]
      simp [Qlk]
     conv=>whnf
     constructor
     · intro _
       conv=>whnf
       refine Qbt (hen w5 rfl rfl) ?_
       conv=>whnf
       refine ⟨now - y.1,wrap_eq rfl ⟨by omega,by omega⟩,?_⟩;conv=>whnf
       refine ⟨_,(hhead.ext hx5).one rfl,?_⟩;conv=>whnf
       refine (Qk8 (now - y.1) half ⟨by omega,by omega⟩ w5).mono ?_
       rintro _ _ ⟨rfl,rfl⟩
       conv=>whnf
       refine ⟨_,rfl,?_⟩;conv=>whnf
       refine ⟨_,rfl,?_⟩;conv=>whnf
       exact ⟨(vs ++ [y],_),by simp; omega,⟨hx5,hi5,hsn.symm⟩,⟨rfl,rfl,rfl,rfl,trivial⟩⟩
     · intro hh; cases hh
instance memDec (a:ByteArray) (l:List ByteArray) : Decidable (a ∈ l) := decidable_of_iff (l.any (fun b => decide (b = a)) = true) (by simp)
def wpB (e:Ev) : Bool := decide (0 < Qo e)
theorem Q37 {e:Ev} (h:wpB e = true) : e.kind = 1 ∨ e.kind = 2 ∨ e.kind = 3 ∨ e.kind = 4 := by
 have h : 0 < Qo e := by simpa [wpB] using h
 unfold Qo at h
 by_cases h1 : e.kind = 1
 · exact .inl h1
 by_cases h2 : e.kind = 2
 · exact .inr (.inl h2)
 by_cases h3 : e.kind = 3
 · exact .inr (.inr (.inl h3))
 by_cases h4 : e.kind = 4
 · exact .inr (.inr (.inr h4))
 rw [if_neg h1,if_neg h2,if_neg h3,if_neg h4] at h
 omega
def Qx0 (l:List Ev) : Qqg := l.foldl (fun s e => Qoe s e.item e.at_ (Qo e)) []
def Q1n (width:Int) (l:List Ev) : Qa6 := l.foldl (fun s e => Qnt s (e.item,e.at_ / Xq width) (Qo e)) []
def Qcc (l:List Ev) : Ses := l.foldl (fun s e => Qqi s e.person e.at_ e.item) []
theorem Qq6 (l:List Ev) (e:Ev) : Qx0 (l ++ [e]) = Qoe (Qx0 l) e.item e.at_ (Qo e) := by unfold Qx0; rw [List.foldl_append]; rfl
theorem Qrv (width:Int) (l:List Ev) (e:Ev) : Q1n width (l ++ [e]) = Qnt (Q1n width l) (e.item,e.at_ / Xq width) (Qo e) := by unfold Q1n; rw [List.foldl_append]; rfl
theorem Qse (l:List Ev) (e:Ev) : Qcc (l ++ [e]) = Qqi (Qcc l) e.person e.at_ e.item := by unfold Qcc; rw [List.foldl_append]; rfl
theorem Qfr (width:Int) (z:List Ev) : (Qq width z).ds = Qx0 (z.filter wpB) ∧ (Qq width z).ps = Q1n width (z.filter wpB) ∧ (Qq width z).ss = Qcc (z.filter wpB) := by
 induction z using Qy with
 | h0 => exact ⟨rfl,rfl,rfl⟩
 | h1 l a ih =>
   rw [Qas,List.filter_append]
   unfold Qch
   cases hw : wpB a with
   | true =>
     have hk := Q37 hw
     have h0 : 0 < Qo a := by simpa [wpB] using hw
     have e1 : [a].filter wpB = [a] := by simp [hw]
     rw [e1,Qq6,Qrv,Qse,if_neg (by omega),if_neg (by omega),if_pos h0,← ih.1,← ih.2.1,← ih.2.2]
     exact ⟨rfl,rfl,rfl⟩
   | false =>
     have h0 : ¬ 0 < Qo a := by simpa [wpB] using hw
     have e1 : [a].filter wpB = [] := by simp [hw]
     rw [e1,List.append_nil,← ih.1,← ih.2.1,← ih.2.2]
     split
     · exact ⟨rfl,rfl,rfl⟩
     split
     · exact ⟨rfl,rfl,rfl⟩
     exact ⟨rfl,rfl,rfl⟩
def Qv7 (l:List Ev) (half:Int) (key:ByteArray) (now:Int) : Int := ((l.filter fun e => decide (e.item = key)).map fun e => Qo e * Xh (now - e.at_) half).sum
theorem Qus (f:Int → Int) (t n:Int) : ∀ r : List (Int × Int),((Q7 r t ((Qd r t).getD 0 + n)).map fun x => x.2 * f x.1).sum = (r.map fun x => x.2 * f x.1).sum + n * f t
 | [] => by simp [Q7,Qd]
 | x :: r => by
   have ih := Qus f t n r
   unfold Q7 Qd
   by_cases h : t = x.1
   · rw [if_pos h,if_pos h]
     simp only [Option.getD_some,List.map_cons,List.sum_cons]
     rw [Int.add_mul,h]
     omega
   · rw [if_neg h,if_neg h]
     simp only [List.map_cons,List.sum_cons]
     rw [ih]
     omega
theorem Q4k (half:Int) (key:ByteArray) (now:Int) : ∀ l : List Ev,(∀ e ∈ l,wpB e = true) → Qlk half now ((Qd (Qx0 l) key).getD []) = Qv7 l half key now := by
 refine Qy (fun _ => by simp [Qx0,Qd,Qlk,Qv7]) fun l e ih h => ?_
 have ih := ih fun x hx => h x (by simp [hx])
 have hw : 0 < Qo e := by simpa [wpB] using h e (by simp)
 rw [Qq6]
 unfold Qv7 Qoe at *
 rw [if_neg (by omega),List.filter_append,List.map_append,List.sum_append,← ih,Xi]
 by_cases hk : key = e.item
 · subst hk
   rw [if_pos rfl]
   simp only [Option.getD_some]
   have hs := Qus (fun t => Xh (now - t) half) e.at_ (Qo e) ((Qd (Qx0 l) e.item).getD [])
   unfold Qlk
   rw [hs]
   simp
 · rw [if_neg hk]
   have : decide (e.item = key) = false := by simp; exact fun h => hk h.symm
   simp [this]
theorem Q0x : ∀ l : List Ev,∀ key r,Qd (Qx0 l) key = some r → ∀ x ∈ r,∃ e ∈ l,e.at_ = x.1 ∧ e.item = key := by
 refine Qy (fun key r h => by simp [Qx0,Qd] at h) fun l e ih key r h x hx => ?_
 rw [Qq6] at h
 unfold Qoe at h
 split at h
 · obtain ⟨y,hy,h1⟩ := ih key r h x hx
   exact ⟨y,by simp [hy],h1⟩
 · rw [Xi] at h
   by_cases hk : key = e.item
   · rw [if_pos hk] at h
     injection h with h
     subst h
     rcases Qeh hx with rfl | hx
     · exact ⟨e,by simp,rfl,hk.symm⟩
     · cases hl : Qd (Qx0 l) e.item with
       | none => rw [hl] at hx; simp at hx
       | some r =>
         rw [hl] at hx
         obtain ⟨y,hy,h1⟩ := ih e.item r hl x hx
         exact ⟨y,by simp [hy],h1.1,h1.2.trans hk.symm⟩
   · rw [if_neg hk] at h
     obtain ⟨y,hy,h1⟩ := ih key r h x hx
     exact ⟨y,by simp [hy],h1⟩
theorem Qdp (age half:Int) : 0 ≤ Xh age half ∧ Xh age half ≤ 1048576 := by
 unfold Xh
 split
 · omega
 split
 · omega
 · rw [Int.fdiv_eq_ediv_of_nonneg _ (by exact Int.le_of_lt (Int.pow_pos (by omega)))]
   exact ⟨Int.ediv_nonneg (by omega) (Int.le_of_lt (Int.pow_pos (by omega))),Int.ediv_le_self _ (by omega)⟩
theorem Qec {α:Type} (f:α → Int) (M:Int) : ∀ l : List α,(∀ x ∈ l,0 ≤ f x ∧ f x ≤ M) → 0 ≤ (l.map f).sum ∧ (l.map f).sum ≤ l.length * M
 | [],_ => by simp
 | x :: l,h => by
   have h1 := h x (by simp)
   have ih := Qec f M l fun y hy => h y (by simp [hy])
   simp only [List.map_cons,List.sum_cons,List.length_cons]
   have : ((l.length + 1 : Nat) : Int) * M = l.length * M + M := by
    rw [show ((l.length + 1 : Nat) : Int) = (l.length : Int) + 1 by omega,Int.add_mul]; omega
   rw [this]
   omega
theorem Qy7 {l:List Ev} (hm:∀ e ∈ l,Xo e = true) (half:Int) (key:ByteArray) (now:Int) : 0 ≤ Qv7 l half key now ∧ Qv7 l half key now ≤ l.length * 5242880 := by
 have h := Qec (fun e:Ev => Qo e * Xh (now - e.at_) half) 5242880 (l.filter fun e => decide (e.item = key)) fun e he => by
  have h1 := Qex (hm e (List.mem_filter.1 he).1)
  have h2 := Qdp (now - e.at_) half
  refine ⟨Int.mul_nonneg h1.1 h2.1,?_⟩
  calc Qo e * Xh (now - e.at_) half ≤ 5 * 1048576 := Int.mul_le_mul h1.2 h2.2 h2.1 (by omega)
   _ = 5242880 := by omega
 have hl := List.length_filter_le (fun e:Ev => decide (e.item = key)) l
 unfold Qv7
 refine ⟨h.1,Int.le_trans h.2 ?_⟩
 exact Int.mul_le_mul_of_nonneg_right (by omega) (by omega)
def paE (l:List Ev) (width:Int) (key:ByteArray) (lo hi:Int) : Int := ((l.filter fun e => decide (e.item = key) && (decide (lo ≤ e.at_ / Xq width) && decide (e.at_ / Xq width < hi))).map Qo).sum
def paS (s:Qa6) (key:ByteArray) (lo hi:Int) : Int := ((s.filter fun x => decide (x.1.1 = key) && (decide (lo ≤ x.1.2) && decide (x.1.2 < hi))).map (·.2)).sum
theorem Quc (key:ByteArray) (lo hi:Int) (c:PK) (n:Int) : ∀ s : Qa6,paS (Q7 s c ((Qd s c).getD 0 + n)) key lo hi = paS s key lo hi + if (decide (c.1 = key) && (decide (lo ≤ c.2) && decide (c.2 < hi))) = true then n else 0
 | [] => by
   unfold paS
   simp only [Q7,Qd,Option.getD_none,Int.zero_add,List.filter_cons,List.filter_nil]
   split <;> simp
 | x :: s => by
   have ih := Quc key lo hi c n s
   unfold paS at *
   unfold Q7 Qd
   by_cases h : c = x.1
   · rw [if_pos h,if_pos h]
     simp only [Option.getD_some,List.filter_cons]
     rw [← h]
     split
     · simp only [List.map_cons,List.sum_cons]; omega
     · simp
   · rw [if_neg h,if_neg h]
     simp only [List.filter_cons]
     split
     · simp only [List.map_cons,List.sum_cons]; rw [ih]; omega
     · exact ih
theorem Q4v (width:Int) (key:ByteArray) (lo hi:Int) : ∀ l : List Ev,(∀ e ∈ l,wpB e = true) → paS (Q1n width l) key lo hi = paE l width key lo hi := by
 refine Qy (fun _ => by simp [Q1n,paS,paE]) fun l e ih h => ?_
 have ih := ih fun x hx => h x (by simp [hx])
 have hw : 0 < Qo e := by simpa [wpB] using h e (by simp)
 rw [Qrv]
 unfold Qnt paE at *
 rw [if_neg (by omega),Quc,ih,List.filter_append,List.map_append,List.sum_append]
 simp only [List.filter_cons,List.filter_nil]
 split <;> simp
def Xn (l:List ByteArray) : List ByteArray := l.mergeSort fun a b => !bLt b a
theorem Qyi (a b c:ByteArray) (h1:(!bLt b a) = true) (h2:(!bLt c b) = true) : (!bLt c a) = true := by
 rw [Bool.not_eq_true'] at *
 cases h : bLt c a with
 | false => rfl
 | true =>
   cases hab : bLt a b with
   | true => rw [Qbg h hab] at h2; cases h2
   | false => rw [Qbm hab h1] at h; rw [h] at h2; cases h2
theorem Qyh (a b:ByteArray) : ((!bLt b a) || (!bLt a b)) = true := by
 cases h : bLt b a with
 | false => rfl
 | true => rw [Qe5 h]; rfl
theorem Qbv (l:List ByteArray) : (Xn l).Perm l := List.mergeSort_perm _ _
theorem Qha (l:List ByteArray) : Srt bLt (Xn l) := by
 have := List.pairwise_mergeSort (le := fun a b => !bLt b a) Qyi Qyh l
 exact this.imp fun h => by simpa using h
theorem Qcm {l z:List ByteArray} (hp:z.Perm l) (hs:Srt bLt z) : z = Xn l :=
 List.Perm.eq_of_pairwise (le := fun a b => bLt b a = false) (fun a b _ _ h1 h2 => Qbm h2 h1) hs (Qha l) (hp.trans (Qbv l).symm)
theorem Qpw {l:List ByteArray} {x:ByteArray} : x ∈ Xn l ↔ x ∈ l := (Qbv l).mem_iff
theorem Qeb (l:List ByteArray) : (Xn l).length = l.length := (Qbv l).length_eq
def Qdf (l:List Int) : List Int := l.mergeSort fun x y => decide (x ≤ y)
theorem Qc3 (l:List Int) : (Qdf l).Perm l := List.mergeSort_perm _ _
theorem Qkq (l:List Int) : (Qdf l).Pairwise (· ≤ ·) := by
 have := List.pairwise_mergeSort (le := fun x y : Int => decide (x ≤ y)) (fun a b c h1 h2 => by simp at *; omega) (fun a b => by simp; omega) l
 exact this.imp fun h => by simpa using h
theorem Qpu {l z:List Int} (hp:z.Perm l) (hs:z.Pairwise (· ≤ ·)) : z = Qdf l :=
 List.Perm.eq_of_pairwise (le := (· ≤ ·)) (fun a b _ _ h1 h2 => Int.le_antisymm h1 h2) hs (Qkq l) (hp.trans (Qc3 l).symm)
theorem Qkp {l:List Int} {x:Int} : x ∈ Qdf l ↔ x ∈ l := (Qc3 l).mem_iff
theorem Qpr (l:List Int) : (Qdf l).length = l.length := (Qc3 l).length_eq
section
open Go.Maps Go.Sort Go.Shelf Go.WideElems
open Go.WideMaps (keyOf_string_mk)
open Go.WideShapes (sorted_perm)
theorem Qts {κ:Type} {enc:κ → Value} {P:Program} {k:TypeId} {w:World} {b:Nat} {L:List (κ × Value)} (hm:MapAt w b enc L) (hinj:∀ a b,enc a = enc b → a = b) (lit:κ → Lit) (hk:∀ x ∈ L,keyOf P k (enc x.1) = some (lit x.1)) (hl:L.length ≤ 1000000000) :
 ∃ es : List (Lit × DataW Unit),w.ownsMap P k (fun _ => some (.nil,[])) b L.length (.map es) ∧ es.Perm (L.map fun x => (lit x.1,.nil)) := by
 obtain ⟨E,clock,hE,rfl⟩ := hm
 have hEl : (strip E).length = E.length := by simp [strip]
 have hrd : ∀ x ∈ E,rd (H := Unit) P k (fun _ => some (.nil,[])) (mkE enc x) = some (lit x.1,.nil) := fun x hx =>
  Go.WideElems.rd_mk (P := P) (k := k) (R := fun _ => some (.nil,[])) (val := x.2.1) (born := x.2.2) (yv := (.nil,[])) (hk (x.1,x.2.1) (List.mem_map.2 ⟨x,hx,rfl⟩)) rfl
 refine ⟨_,⟨_,clock,hE.block,⟨?_,⟨?_,?_,?_⟩,?_⟩,?_,rfl⟩,?_⟩
 · rw [hEl] at hl; simp only [List.size_toArray,List.length_map]; unfold maxLen; omega
 · intro x hx
   simp only [List.mem_map] at hx
   obtain ⟨y,hy,rfl⟩ := hx
   exact hE.below y hy
 · simp only [List.map_map]
   rw [List.nodup_iff_pairwise_ne,List.pairwise_map]
   exact hE.rising.imp fun h => by simp only [mkE,Function.comp]; omega
 · simp only [List.map_map]
   rw [List.nodup_iff_pairwise_ne,List.pairwise_map]
   exact hE.keys.imp fun h e => h (hinj _ _ e)
 · intro x hx
   simp only [List.mem_map] at hx
   obtain ⟨y,hy,rfl⟩ := hx
   exact ⟨_,hrd y hy⟩
 · rw [hEl]; simp
 · refine (sorted_perm _).trans ?_
   have : (E.map (mkE enc)).toArray.toList.map (rg (H := Unit) P k (fun _ => some (.nil,[]))) = (strip E).map fun x => (lit x.1,.nil) := by
    simp only [strip,List.map_map]
    exact List.map_congr_left fun x hx => rg_of (hrd x hx)
   rw [this]
theorem Qd8 {α:Type} {enc:α → List Value} {sz:Nat} {te:TypeId} {base:Nat} {w:World} {v:Value} {l:List α} {n:Nat} {xs:List Value} (h:w.ownsRow base te sz v n xs) (hn:n = l.length) (hx:xs = l.flatMap enc) :
 ∃ A c,v = .slice A l.length c ∧ Own enc sz te base w A c l := by
 subst hn hx
 unfold Own
 rcases h with ⟨h1,⟨h2,h3⟩ | ⟨g,cap,cur,h2,h3⟩⟩
 · refine ⟨none,0,by rw [h2,h3],h1,.inl ⟨by rw [h3],h3⟩⟩
 · exact ⟨_,cap,h2,h1,.inr ⟨g,cap,cur,rfl,h3⟩⟩
theorem Qjn {α:Type} {enc:α → List Value} {sz:Nat} {te:TypeId} {b1 b2:Nat} {w:World} {A:Option Addr} {c:Nat} {l:List α} (h:Own enc sz te b1 w A c l) (hb:b2 ≤ b1) : Own enc sz te b2 w A c l := by
 unfold Own at *
 rcases h with ⟨h1,h2 | ⟨g,cap,cur,h2,h3,h4⟩⟩
 · exact ⟨h1,.inl h2⟩
 · exact ⟨h1,.inr ⟨g,cap,cur,h2,by omega,h4⟩⟩
theorem Qg0 {α:Type} (f:α → Value) (l:List α) : l.flatMap (fun x => [f x]) = l.map f := by induction l with | nil => rfl | cons a l ih => simp [ih]
theorem Qit {P:Program} {ρ6:Ren} (S:SlLaysZ.n6 P ρ6) (hsort:∀ m,AnyZ.SortsIn P ρ6 Fence.wide m) (e9:∀ args w,(callFunc (ρ6.f 9) args).run P w = .ok (.enter (ρ6.f 9) args) w) {g:Nat} {lb:Array Value} (eg:∀ args w,(callFunc g args).run P w = .ok (.enter g args) w)
 (hok:Qql P (ρ6.f 6)) {w:World} {l:List ByteArray} {N:Nat} {Q:List (List UInt8) → Prop} (hQ:∀ ss,Q ss → ss.Perm (l.map fun x => x.data.toList)) (hN:N ≤ 1000000000) (hseq:SeqGives Fence.wide 2 P g lb encStr Q N w) :
 Cal P (ρ6.f 6) [.func (.func g) #[] lb] w fun r w' => ∃ A c,r = .slice A (Xn l).length c ∧ Own Qcn 1 (ρ6.t 26) w.heap.size w' A c (Xn l) ∧ Ext w w' := by
 have hS := AnyZ.sorted_in S Fence.wide 5 trivial trivial trivial trivial rfl (by omega) (hsort _) e9 g lb trivial eg _ N (by unfold maxLen; omega) (by omega) w hseq
 refine ⟨hok,(callsIn_wide.1 hS).mono ?_⟩
 rintro e w' ⟨v,ss,rfl,hp,hrow,_,hb⟩
 have hkeys := hQ ss hp
 have hz : (ss.mergeSort fun x y => decide (x ≤ y)).map (fun x => (⟨x.toArray⟩ : ByteArray)) = Xn l := by
  apply Qcm
  · have h1 := (List.mergeSort_perm ss fun x y => decide (x ≤ y)).trans hkeys
    have h2 := h1.map (fun x => (⟨x.toArray⟩ : ByteArray))
    simpa [List.map_map,Function.comp_def] using h2
  · unfold Srt
    rw [List.pairwise_map]
    have := List.pairwise_mergeSort (le := fun x y : List UInt8 => decide (x ≤ y)) (fun a b c h1 h2 => by simp only [decide_eq_true_eq] at *; exact List.le_trans h1 h2) (fun a b => by simp only [Bool.or_eq_true,decide_eq_true_eq]; exact List.le_total a b) ss
    refine this.imp fun {a b} h => ?_
    simp only [decide_eq_true_eq] at h
    unfold bLt
    rw [ByteArray.toList_eq,ByteArray.toList_eq,bytesLess_eq]
    simpa using h
 obtain ⟨A,c,hv,ho⟩ := Qd8 (enc := Qcn) (l := Xn l) hrow (by rw [← hz]; simp) (by
  rw [← hz,show Qcn = fun x => [Value.string x] from rfl,Qg0,List.map_map]; rfl)
 exact ⟨v,rfl,A,c,hv,ho,hb⟩
theorem Qis {P:Program} {ρ6:Ren} (S:SlLaysZI.n6 P ρ6) (hsort:∀ m,AnyZI.SortsIn P ρ6 Fence.wide m) (e9:∀ args w,(callFunc (ρ6.f 9) args).run P w = .ok (.enter (ρ6.f 9) args) w) {g:Nat} {lb:Array Value} (eg:∀ args w,(callFunc g args).run P w = .ok (.enter g args) w)
 (hok:Qql P (ρ6.f 6)) {w:World} {l:List Int} {N:Nat} {Q:List Int → Prop} (hQ:∀ ss,Q ss → ss.Perm l) (hN:N ≤ 1000000000) (hseq:SeqGives Fence.wide 2 P g lb (Value.int .i64) Q N w) :
 Cal P (ρ6.f 6) [.func (.func g) #[] lb] w fun r w' => ∃ A c,r = .slice A (Qdf l).length c ∧ Own Ql1 1 (ρ6.t 26) w.heap.size w' A c (Qdf l) ∧ Ext w w' := by
 have hS := AnyZI.sorted_in S Fence.wide 5 trivial trivial trivial trivial rfl (by omega) (hsort _) e9 g lb trivial eg _ N (by unfold maxLen; omega) (by omega) w hseq
 refine ⟨hok,(callsIn_wide.1 hS).mono ?_⟩
 rintro e w' ⟨v,ss,rfl,hp,hrow,_,hb⟩
 have hz : (ss.mergeSort fun x y => decide (x ≤ y)) = Qdf l := Qpu ((Qc3 ss).trans (hQ ss hp)) (Qkq ss)
 obtain ⟨A,c,hv,ho⟩ := Qd8 (enc := Ql1) (l := Qdf l) hrow (by rw [← hz]; simp) (by
  rw [← hz,show Ql1 = fun x => [Value.int .i64 x] from rfl,Qg0])
 exact ⟨v,rfl,A,c,hv,ho,hb⟩
theorem Qo2 {P:Program} {ρ7:Ren} (K:SlLaysZ.n10 P ρ7) {w:World} {Bm b:Nat} {L:List (ByteArray × Value)} (hc:w.cell? ⟨Bm,0,none⟩ = some (.map (some b))) (hm:MapAt w b Value.string L) (hk:∀ x ∈ L,x.1.size ≤ 1000000) (hl:L.length ≤ 1000000000) :
 ∃ N Q,N ≤ 1000000000 ∧ (∀ ss : List (List UInt8),Q ss → ss.Perm ((L.map (·.1)).map fun x => x.data.toList)) ∧ SeqGives Fence.wide 2 P (ρ7.f 10) #[.pointer (some ⟨Bm,0,none⟩)] encStr Q N w := by
 obtain ⟨es,hown,hes⟩ := Qts (P := P) (k := ρ7.t 26) hm (fun a b e => by simpa using e) (fun x => .string x.data.toList) (fun x hx => keyOf_string_mk K.t26 (by have := hk x hx; unfold maxLen; omega)) hl
 have hsz : Maps.size (.map es) = L.length := by
  have := hes.length_eq
  simp at this
  simpa [Maps.size] using this
 refine ⟨_,_,?_,fun ss hp => ?_,AnyZ.keys_gives K Fence.wide 2 trivial rfl (by omega) Bm b _ _ w (cell_lt hc) hc hown⟩
 · rw [hsz]; exact hl
 · refine hp.trans ?_
   simp only [strKeys]
   refine (hes.map _).trans ?_
   rw [List.map_map,List.map_map]
   exact List.Perm.refl _
theorem Qyf {P:Program} {ρ7:Ren} (K:SlLaysZI.n10 P ρ7) {w:World} {Bm b:Nat} {L:List (Int × Value)} (hc:w.cell? ⟨Bm,0,none⟩ = some (.map (some b))) (hm:MapAt w b vi L) (hk:∀ x ∈ L,0 ≤ x.1 ∧ x.1 ≤ 4611686018427387904) (hl:L.length ≤ 1000000000) :
 ∃ N Q,N ≤ 1000000000 ∧ (∀ ss : List Int,Q ss → ss.Perm (L.map (·.1))) ∧ SeqGives Fence.wide 2 P (ρ7.f 10) #[.pointer (some ⟨Bm,0,none⟩)] (Value.int .i64) Q N w := by
 obtain ⟨es,hown,hes⟩ := Qts (P := P) (k := ρ7.t 26) hm (fun a b e => by simpa [vi] using e) (fun x => .int .i64 x) (fun x hx => keyOf_int_mk K.t26 (by
  have := hk x hx
  simp only [Lit.wf,Bool.and_eq_true,decide_eq_true_eq,show IntKind.i64.min = -9223372036854775808 from by decide,show IntKind.i64.max = 9223372036854775807 from by decide]
  omega)) hl
 have hsz : Maps.size (.map es) = L.length := by
  have := hes.length_eq
  simp at this
  simpa [Maps.size] using this
 refine ⟨_,_,?_,fun ss hp => ?_,AnyZI.keys_gives K Fence.wide 2 trivial rfl (by omega) Bm b _ _ w (cell_lt hc) hc hown⟩
 · rw [hsz]; exact hl
 · refine hp.trans ?_
   simp only [intKeys]
   refine (hes.map _).trans ?_
   rw [List.map_map]
   exact List.Perm.refl _
theorem Qt7 (w:World) (v:Value) (t:TypeId) : (w.alloc (.cells #[v] t)).cell? ⟨w.heap.size,0,none⟩ = some v := by
 exact cell_one_new w v t 0 v rfl
theorem Qo1 {P:Program} {ρ7:Ren} (K:SlLaysZ.n7 P ρ7) (hok:Qql P (ρ7.f 7)) (mb:Option Nat) (w:World) :
 Cal P (ρ7.f 7) [.map mb] w fun r w' => r = .func (.func (ρ7.f 10)) #[] #[.pointer (some ⟨w.heap.size,0,none⟩)] ∧ w'.cell? ⟨w.heap.size,0,none⟩ = some (.map mb) ∧ Ext w w' := by
 refine ⟨hok,(callsIn_wide.1 (AnyZ.keys_in K Fence.wide 5 trivial rfl mb w)).mono ?_⟩
 rintro e w' ⟨rfl,rfl⟩
 exact ⟨_,rfl,rfl,Qt7 _ _ _,(Below.refl _ _).alloc (Nat.le_refl _) _⟩
theorem Qye {P:Program} {ρ7:Ren} (K:SlLaysZI.n7 P ρ7) (hok:Qql P (ρ7.f 7)) (mb:Option Nat) (w:World) :
 Cal P (ρ7.f 7) [.map mb] w fun r w' => r = .func (.func (ρ7.f 10)) #[] #[.pointer (some ⟨w.heap.size,0,none⟩)] ∧ w'.cell? ⟨w.heap.size,0,none⟩ = some (.map mb) ∧ Ext w w' := by
 refine ⟨hok,(callsIn_wide.1 (AnyZI.keys_in K Fence.wide 5 trivial rfl mb w)).mono ?_⟩
 rintro e w' ⟨rfl,rfl⟩
 exact ⟨_,rfl,rfl,Qt7 _ _ _,(Below.refl _ _).alloc (Nat.le_refl _) _⟩
end
end Go.Proofs.YtopncieoolkhjaaGreatDoor
namespace Go.Proofs.YtopncieoolkhjaaGreatDoor
open Go.Se Go.RowKit
open Go.Maps Go.Sort Go.Shelf
theorem Qks : Xn [] = [] := by simp [Xn]
theorem Qps : Qdf [] = [] := by simp [Qdf]
theorem Q2k (m:Nat) : AnyZ.SortsIn Tryz.prog Tryz.sorted78_ren Fence.wide m :=
 ⟨fun blk off cap ss W h1 h2 h3 => callsIn_wide.2 (AnyM.slices_Sort_string Tryz.sort138 blk off cap ss W h1 h2 h3),fun p cap W => callsIn_wide.2 (AnyM.slices_Sort_string_none Tryz.sort138 p cap W)⟩
theorem Q2j (m:Nat) : AnyZI.SortsIn Tryz.prog Tryz.sorted142_ren Fence.wide m :=
 ⟨fun blk off cap ss W h1 h2 h3 => callsIn_wide.2 (AnyM.slices_Sort_int Tryz.sort195 blk off cap ss W h1 h2 h3),fun p cap W => callsIn_wide.2 (AnyM.slices_Sort_int_none Tryz.sort195 p cap W)⟩
theorem Ql3 (mb:Option Nat) (w:World) : Cal Tryz.prog 141 [.map mb] w fun r w' => r = .func (.func 193) #[] #[.pointer (some ⟨w.heap.size,0,none⟩)] ∧ w'.cell? ⟨w.heap.size,0,none⟩ = some (.map mb) ∧ Ext w w' :=
 Qo1 Tryz.keys141 ⟨_,Tryz.func141,rfl,rfl⟩ mb w
theorem Qir {w:World} {Bm b:Nat} {L:List (ByteArray × Value)} (hc:w.cell? ⟨Bm,0,none⟩ = some (.map (some b))) (hm:MapAt w b Value.string L) (hk:∀ x ∈ L,x.1.size ≤ 1000000) (hl:L.length ≤ 1000000000) :
 Cal Tryz.prog 78 [.func (.func 193) #[] #[.pointer (some ⟨Bm,0,none⟩)]] w fun r w' => ∃ A c,r = .slice A (Xn (L.map (·.1))).length c ∧ Own Qcn 1 9 w.heap.size w' A c (Xn (L.map (·.1))) ∧ Ext w w' := by
 obtain ⟨N,Q,h1,h2,h3⟩ := Qo2 { Tryz.keys141 with } hc hm hk hl
 exact Qit Tryz.sorted78 Q2k (enters_of Tryz.func138 (by kernel_rfl) rfl) (enters_of Tryz.func193 (by kernel_rfl) rfl) ⟨_,Tryz.func78,rfl,rfl⟩ h2 h1 h3
theorem Qvr (mb:Option Nat) (w:World) : Cal Tryz.prog 79 [.map mb] w fun r w' => r = .func (.func 139) #[] #[.pointer (some ⟨w.heap.size,0,none⟩)] ∧ w'.cell? ⟨w.heap.size,0,none⟩ = some (.map mb) ∧ Ext w w' :=
 Qo1 Tryz.keys79 ⟨_,Tryz.func79,rfl,rfl⟩ mb w
theorem Qpy {w:World} {Bm b:Nat} {L:List (ByteArray × Value)} (hc:w.cell? ⟨Bm,0,none⟩ = some (.map (some b))) (hm:MapAt w b Value.string L) (hk:∀ x ∈ L,x.1.size ≤ 1000000) (hl:L.length ≤ 1000000000) :
 Cal Tryz.prog 78 [.func (.func 139) #[] #[.pointer (some ⟨Bm,0,none⟩)]] w fun r w' => ∃ A c,r = .slice A (Xn (L.map (·.1))).length c ∧ Own Qcn 1 9 w.heap.size w' A c (Xn (L.map (·.1))) ∧ Ext w w' := by
 obtain ⟨N,Q,h1,h2,h3⟩ := Qo2 { Tryz.keys79 with } hc hm hk hl
 exact Qit Tryz.sorted78 Q2k (enters_of Tryz.func138 (by kernel_rfl) rfl) (enters_of Tryz.func139 (by kernel_rfl) rfl) ⟨_,Tryz.func78,rfl,rfl⟩ h2 h1 h3
theorem Ql4 (mb:Option Nat) (w:World) : Cal Tryz.prog 143 [.map mb] w fun r w' => r = .func (.func 196) #[] #[.pointer (some ⟨w.heap.size,0,none⟩)] ∧ w'.cell? ⟨w.heap.size,0,none⟩ = some (.map mb) ∧ Ext w w' :=
 Qye Tryz.keys143 ⟨_,Tryz.func143,rfl,rfl⟩ mb w
theorem Qpx {w:World} {Bm b:Nat} {L:List (Int × Value)} (hc:w.cell? ⟨Bm,0,none⟩ = some (.map (some b))) (hm:MapAt w b vi L) (hk:∀ x ∈ L,0 ≤ x.1 ∧ x.1 ≤ 4611686018427387904) (hl:L.length ≤ 1000000000) :
 Cal Tryz.prog 142 [.func (.func 196) #[] #[.pointer (some ⟨Bm,0,none⟩)]] w fun r w' => ∃ A c,r = .slice A (Qdf (L.map (·.1))).length c ∧ Own Ql1 1 3 w.heap.size w' A c (Qdf (L.map (·.1))) ∧ Ext w w' := by
 obtain ⟨N,Q,h1,h2,h3⟩ := Qyf { Tryz.keys143 with } hc hm hk hl
 exact Qis Tryz.sorted142 Q2j (enters_of Tryz.func195 (by kernel_rfl) rfl) (enters_of Tryz.func196 (by kernel_rfl) rfl) ⟨_,Tryz.func142,rfl,rfl⟩ h2 h1 h3
theorem Qsb {w:World} {Bm:Nat} (hc:w.cell? ⟨Bm,0,none⟩ = some (.map none)) :
 Cal Tryz.prog 142 [.func (.func 196) #[] #[.pointer (some ⟨Bm,0,none⟩)]] w fun r w' => ∃ A c,r = .slice A 0 c ∧ Own Ql1 1 3 w.heap.size w' A c [] ∧ Ext w w' := by
 have := Qis Tryz.sorted142 Q2j (enters_of Tryz.func195 (by kernel_rfl) rfl) (enters_of Tryz.func196 (by kernel_rfl) rfl) ⟨_,Tryz.func142,rfl,rfl⟩ (l := []) (fun ss (h:ss = []) => by rw [h]) (Nat.zero_le _) (AnyZI.keys_gives_nil { Tryz.keys143 with } Fence.wide 2 trivial rfl Bm w (cell_lt hc) hc)
 simp only [Qks,Qps,List.length_nil] at this
 exact this
end Go.Proofs.YtopncieoolkhjaaGreatDoor
namespace Go.Proofs.YtopncieoolkhjaaGreatDoor
open Go.Se Go.RowKit
def Q0w : List ByteArray → List ByteArray
 | [] => []
 | a :: l => if a ∈ l then Q0w l else a :: Q0w l
theorem Qfs {x:ByteArray} : ∀ {l:List ByteArray},x ∈ Q0w l ↔ x ∈ l
 | [] => Iff.rfl
 | a :: l => by
   have ih := Qfs (x := x) (l := l)
   unfold Q0w
   split
   · next h =>
     rw [ih,List.mem_cons]
     constructor
     · exact .inr
     · rintro (rfl | h1)
       · exact h
       · exact h1
   · rw [List.mem_cons,List.mem_cons,ih]
theorem Qdz : ∀ l : List ByteArray,(Q0w l).Nodup
 | [] => List.nodup_nil
 | a :: l => by
   have ih := Qdz l
   unfold Q0w
   split
   · exact ih
   · next h => exact List.nodup_cons.2 ⟨fun h1 => h (Qfs.1 h1),ih⟩
def Qe0 (l:List ByteArray) : List ByteArray := Xn (Q0w l)
theorem Qeu {l:List ByteArray} {x:ByteArray} : x ∈ Qe0 l ↔ x ∈ l := by unfold Qe0; rw [Qpw,Qfs]
theorem Qmi (l:List ByteArray) : (Qe0 l).Nodup := (Qbv _).nodup_iff.2 (Qdz l)
theorem Qh7 {K l:List ByteArray} (hn:K.Nodup) (hm:∀ x,x ∈ K ↔ x ∈ l) : Xn K = Qe0 l := by
 have hp : K.Perm (Q0w l) := Qck hn (Qdz l) (fun x hx => Qfs.2 ((hm x).1 hx)) (fun x hx => (hm x).2 (Qfs.1 hx))
 exact Qcm ((Qbv K).trans hp) (Qha K)
theorem Qmh {k l:List ByteArray} (hm:∀ x,x ∈ k ↔ x ∈ l) : Qe0 k = Qe0 l := Qh7 (Qdz k) fun x => Qfs.trans (hm x)
theorem Qa8 {β:Type} {L:List (ByteArray × β)} (h:L.Pairwise (fun x y => x.1 ≠ y.1)) : (L.map (·.1)).Nodup := by
 rw [List.nodup_iff_pairwise_ne,List.pairwise_map]; exact h
theorem Qt5 {β:Type} {L:List (ByteArray × β)} {k:ByteArray} : k ∈ L.map (·.1) ↔ (Qd L k).isSome = true := by
 cases h : Qd L k with
 | none =>
   have := Qfp.1 h
   simp only [List.mem_map,Option.isSome_none,Bool.false_eq_true,iff_false]
   rintro ⟨x,hx,rfl⟩
   exact this x hx rfl
 | some v =>
   have := Qcd h
   simp only [Option.isSome_some,iff_true,List.mem_map]
   exact ⟨_,this,rfl⟩
abbrev Grp := Int × Int × List ByteArray
def Qb7 (gap:Int) (acc:List Grp) (t:Int) (its:List ByteArray) : List Grp :=
 match acc.getLast? with
 | some g => if gap < t - g.2.1 then acc ++ [(t,t,its)] else acc.dropLast ++ [(g.1,t,g.2.2 ++ its)]
 | none => [(t,t,its)]
abbrev Qdh := List (Int × List (ByteArray × Bool))
def Xk (k:Qdh) (t:Int) : List ByteArray := ((Qd k t).getD []).map (·.1)
def Qem (gap:Int) (k:Qdh) (ts:List Int) : List Grp := ts.foldl (fun acc t => Qb7 gap acc t (Xk k t)) []
def Q4b (gap:Int) (k:Qdh) : List Grp := Qem gap k (Qdf (k.map (·.1)))
theorem Qft (gap:Int) (k:Qdh) (ts:List Int) (t:Int) : Qem gap k (ts ++ [t]) = Qb7 gap (Qem gap k ts) t (Xk k t) := by unfold Qem; rw [List.foldl_append]; rfl
structure Sn where
 person : ByteArray
 from_ : Int
 to_ : Int
 items : List ByteArray
deriving DecidableEq,Inhabited
def Q0f (person:ByteArray) (g:Grp) : Sn := ⟨person,g.1,g.2.1,Qe0 g.2.2⟩
def Qbh (gap:Int) (ss:Ses) (person:ByteArray) : List Sn := (Q4b gap ((Qd ss person).getD [])).map (Q0f person)
def Qey (gap:Int) (ss:Ses) : List Sn := (Xn (ss.map (·.1))).flatMap (Qbh gap ss)
theorem Q26 (gap:Int) (acc:List Grp) (t:Int) (its:List ByteArray) : (Qb7 gap acc t its).length ≤ acc.length + 1 := by
 unfold Qb7
 split
 · next g h =>
   split
   · simp
   · simp
 · simp
theorem Qx6 (gap:Int) (k:Qdh) : ∀ ts : List Int,(Qem gap k ts).length ≤ ts.length := by
 refine Qy (by simp [Qem]) fun l t ih => ?_
 rw [Qft]
 have := Q26 gap (Qem gap k l) t (Xk k t)
 simp; omega
theorem Qtm (gap:Int) (k:Qdh) : (Q4b gap k).length ≤ k.length := by
 have := Qx6 gap k (Qdf (k.map (·.1)))
 rw [Qpr,List.length_map] at this
 exact this
def hasB (a:ByteArray) (s:Sn) : Bool := decide (a ∈ s.items)
def Qcr (S:List Sn) (a:ByteArray) : Nat := (S.filter (hasB a)).length
def Qv5 (S:List Sn) (a b:ByteArray) : Nat := (S.filter fun s => hasB a s && hasB b s).length
theorem Qpp (S:List Sn) (a:ByteArray) : Qcr S a ≤ S.length := List.length_filter_le _ _
theorem Q3l (S:List Sn) (a b:ByteArray) : Qv5 S a b ≤ S.length := List.length_filter_le _ _
def flB (person maker:ByteArray) (e:Ev) : Bool := decide (e.person = person) && (decide (e.text = maker) && (decide (e.kind = 7) || decide (e.kind = 8)))
def Q0d (z:List Ev) (person maker:ByteArray) : Bool := match (z.filter (flB person maker)).getLast? with
 | some e => decide (e.kind = 7)
 | none => false
theorem Qou (person maker:ByteArray) : ∀ rs : List Row,(Qd (Xg rs).follows (person,maker)) = ((evs rs).filter (flB person maker)).getLast?.map fun e => decide (e.kind = 7) := by
 refine Qy (by simp [Xg,evs,Cw0,Qd]) fun rs r ih => ?_
 rw [Qdk,Qi2,List.filter_append]
 have hB : (Qcw (Xg rs) r.1).follows = (Qb4 (Xg rs) r.1).follows := by
  unfold Qcw Qke
  split <;> rfl
 rw [hB]
 unfold Qb4
 cases hf : flB person maker r.1 with
 | true =>
   simp only [flB,Bool.and_eq_true,Bool.or_eq_true,decide_eq_true_eq] at hf
   obtain ⟨h1,h2,h3⟩ := hf
   rw [if_neg (by omega),if_neg (by omega),if_neg (by omega),if_pos h3]
   have hf2 : flB person maker r.1 = true := by simp [flB,h1,h2,h3]
   simp only [List.filter_cons,hf2,if_true,List.filter_nil,List.getLast?_append,List.getLast?_singleton,Option.some_or,Option.map_some]
   rw [show ((person,maker) : LK) = mkr r.1 by unfold mkr; rw [h1,h2],Q3]
 | false =>
   simp only [List.filter_cons,hf,Bool.false_eq_true,if_false,List.filter_nil,List.append_nil]
   rw [← ih]
   split
   · rfl
   split
   · rfl
   split
   · rfl
   split
   · next h3 =>
     show Qd (Q7 _ _ _) _ = _
     rw [Xi,if_neg]
     intro he
     unfold mkr at he
     injection he with h1 h2
     simp [flB,← h1,← h2] at hf
     omega
   split
   · rfl
   · rfl
theorem Qly (z:List Ev) (person maker:ByteArray) : Q0d (Qbf z) person maker = Q0d z person maker := by
 unfold Q0d Qbf
 rw [List.filter_filter]
 have : (fun a => flB person maker a && peB a) = flB person maker := by
  funext a
  cases h : flB person maker a with
  | false => rfl
  | true =>
    simp only [flB,Bool.and_eq_true,Bool.or_eq_true,decide_eq_true_eq] at h
    have : peB a = true := by simp [peB,thB]; omega
    rw [this]; rfl
 rw [this]
def Qaw (fl:List (LK × Bool)) (person:ByteArray) (h:List Ev) : List (ByteArray × Bool) :=
 h.foldl (fun m e => if e.kind = 7 ∧ (Qd fl (person,e.text)).getD false = true then Q7 m e.text true else m) []
theorem Qek (fl:List (LK × Bool)) (person:ByteArray) (h:List Ev) (e:Ev) : Qaw fl person (h ++ [e]) = if e.kind = 7 ∧ (Qd fl (person,e.text)).getD false = true then Q7 (Qaw fl person h) e.text true else Qaw fl person h := by unfold Qaw; rw [List.foldl_append]; rfl
theorem Qhr (fl:List (LK × Bool)) (person:ByteArray) (x:ByteArray) : ∀ h : List Ev,x ∈ (Qaw fl person h).map (·.1) ↔ ∃ e ∈ h,e.kind = 7 ∧ e.text = x ∧ (Qd fl (person,x)).getD false = true := by
 refine Qy (by simp [Qaw]) fun h e ih => ?_
 rw [Qek]
 split
 · next hc =>
   rw [Qdy]
   constructor
   · intro hx
     have : x = e.text ∨ x ∈ (Qaw fl person h).map (·.1) := by
      split at hx
      · exact .inr hx
      · rcases List.mem_append.1 hx with hx | hx
        · exact .inr hx
        · exact .inl (by simpa using hx)
     rcases this with rfl | hx
     · exact ⟨e,by simp,hc.1,rfl,hc.2⟩
     · obtain ⟨y,hy,h1⟩ := ih.1 hx
       exact ⟨y,by simp [hy],h1⟩
   · rintro ⟨y,hy,h1,rfl,h2⟩
     rcases List.mem_append.1 hy with hy | hy
     · have := ih.2 ⟨y,hy,h1,rfl,h2⟩
       split
       · exact this
       · exact List.mem_append.2 (.inl this)
     · have hy : y = e := by simpa using hy
       subst hy
       split
       · assumption
       · simp
 · next hc =>
   rw [ih]
   constructor
   · rintro ⟨y,hy,h1⟩; exact ⟨y,by simp [hy],h1⟩
   · rintro ⟨y,hy,h1,rfl,h2⟩
     rcases List.mem_append.1 hy with hy | hy
     · exact ⟨y,hy,h1,rfl,h2⟩
     · have hy : y = e := by simpa using hy
       subst hy
       exact absurd ⟨h1,h2⟩ hc
theorem Qge (fl:List (LK × Bool)) (person:ByteArray) : ∀ h : List Ev,(Qaw fl person h).Pairwise (fun x y => x.1 ≠ y.1) := by
 refine Qy (by simp [Qaw]) fun h e ih => ?_
 rw [Qek]
 split
 · exact Qa7 ih
 · exact ih
theorem Qx4 {rs:List Row} (person maker:ByteArray) : maker ∈ (Qaw (Xg rs).follows person (hist (evs rs) person)).map (·.1) ↔ Q0d (evs rs) person maker = true := by
 rw [Qhr,Qou]
 unfold Q0d
 cases hl : ((evs rs).filter (flB person maker)).getLast? with
 | none => simp
 | some e =>
   have he := List.mem_of_getLast? hl
   have hm := List.mem_filter.1 he
   have hb := hm.2
   simp only [flB,Bool.and_eq_true,Bool.or_eq_true,decide_eq_true_eq] at hb
   simp only [Option.map_some,Option.getD_some,decide_eq_true_eq]
   constructor
   · rintro ⟨_,_,_,_,h⟩; exact h
   · intro h
     exact ⟨e,List.mem_filter.2 ⟨hm.1,by simpa using hb.1⟩,h,hb.2.1,h⟩
def Q0h (half now:Int) (e:Ev) : Int := Qo e * Xh (now - e.at_) half
def Qdg (n:Int) (m:List (ByteArray × Int)) (t:ByteArray) : List (ByteArray × Int) := Q7 m t (IntKind.i64.wrap ((Qd m t).getD 0 + n))
def Qfl (half now:Int) (m:List (ByteArray × Int)) (r:Row) : List (ByteArray × Int) := if now < r.1.at_ then m else r.2.foldl (Qdg (Q0h half now r.1)) m
def Q0g (half now:Int) (rows:List Row) : List (ByteArray × Int) := rows.foldl (Qfl half now) []
theorem Qp9 (half now:Int) (l:List Row) (r:Row) : Q0g half now (l ++ [r]) = Qfl half now (Q0g half now l) r := by unfold Q0g; rw [List.foldl_append]; rfl
theorem Qsq (n:Int) (m:List (ByteArray × Int)) (l:List ByteArray) (t:ByteArray) : (l ++ [t]).foldl (Qdg n) m = Qdg n (l.foldl (Qdg n) m) t := by rw [List.foldl_append]; rfl
def Q3y (half now:Int) (rows:List Row) : List (ByteArray × Int) := (Q0g half now rows).filter fun x => decide (0 < x.2)
def rowsOf (rs:List Row) (person:ByteArray) : List Row := rs.filter fun r => decide (r.1.person = person)
theorem Qw6 {half now:Int} {e:Ev} (hm:Xo e = true) : 0 ≤ Q0h half now e ∧ Q0h half now e ≤ 5242880 := by
 have h1 := Qex hm
 have h2 := Qdp (now - e.at_) half
 unfold Q0h
 refine ⟨Int.mul_nonneg h1.1 h2.1,?_⟩
 have : Qo e * Xh (now - e.at_) half ≤ 5 * 1048576 := Int.mul_le_mul h1.2 h2.2 h2.1 (by omega)
 omega
theorem Qw7 (tg:List ByteArray) (n:Int) (l:List (ByteArray × Int)) : ((tg.foldl (Qdg n) l).length) ≤ l.length + tg.length := by
 induction tg generalizing l with
 | nil => simp
 | cons t tg ih =>
   have := ih (Qdg n l t)
   have h2 := Qfq t (IntKind.i64.wrap ((Qd l t).getD 0 + n)) l
   simp only [List.foldl_cons,List.length_cons]
   unfold Qdg at *
   omega
theorem Quu (half now:Int) : ∀ rows : List Row,(Q0g half now rows).length ≤ (rows.map fun r => r.2.length).sum := by
 refine Qy (by simp [Q0g]) fun l r ih => ?_
 rw [Qp9,List.map_append,List.sum_append]
 unfold Qfl
 split
 · simp; omega
 · have := Qw7 r.2 (Q0h half now r.1) (Q0g half now l)
   simp; omega
theorem Q3m (width:Int) : ∀ l : List Ev,(Q1n width l).Pairwise (fun x y => x.1 ≠ y.1) := by
 refine Qy (by simp [Q1n]) fun l e ih => ?_
 rw [Qrv]
 unfold Qnt
 split
 · exact ih
 · exact Qa7 ih
theorem Qlo {κ β:Type} [DecidableEq κ] (x:κ × β) (l:List (κ × β)) (k:κ) : Qd (x :: l) k = if k = x.1 then some x.2 else Qd l k := rfl
theorem Qkj {s:Qa6} {key:ByteArray} {lo hi:Int} (h:hi ≤ lo) : paS s key lo hi = 0 := by
 unfold paS
 have : (s.filter fun x => decide (x.1.1 = key) && (decide (lo ≤ x.1.2) && decide (x.1.2 < hi))) = [] := by
  rw [List.filter_eq_nil_iff]
  intro x _
  simp
  omega
 rw [this]; rfl
theorem Qud (x:PK × Int) (s:Qa6) (key:ByteArray) (lo hi:Int) : paS (x :: s) key lo hi = (if x.1.1 = key ∧ lo ≤ x.1.2 ∧ x.1.2 < hi then x.2 else 0) + paS s key lo hi := by
 unfold paS
 rw [List.filter_cons]
 by_cases h : x.1.1 = key ∧ lo ≤ x.1.2 ∧ x.1.2 < hi
 · rw [if_pos (by simp [h.1,h.2.1,h.2.2]),if_pos h]; simp
 · rw [if_neg (by simpa using h),if_neg h]; omega
theorem Q1i {s:Qa6} (hp:s.Pairwise (fun x y => x.1 ≠ y.1)) (key:ByteArray) (lo hi:Int) (h:lo ≤ hi) : paS s key lo (hi + 1) = paS s key lo hi + (Qd s (key,hi)).getD 0 := by
 induction s with
 | nil => simp [paS,Qd]
 | cons x s ih =>
   rw [List.pairwise_cons] at hp
   have ih := ih hp.2
   rw [Qud,Qud,ih,Qlo]
   by_cases hk : (key,hi) = x.1
   · rw [if_pos hk]
     have h0 : Qd s (key,hi) = none := Qfp.2 fun y hy => by rw [hk]; exact fun e => hp.1 y hy e.symm
     rw [h0,if_pos (by rw [← hk]; simp; omega),if_neg (by rw [← hk]; simp)]
     simp
     omega
   · rw [if_neg hk]
     have : (x.1.1 = key ∧ lo ≤ x.1.2 ∧ x.1.2 < hi + 1) ↔ (x.1.1 = key ∧ lo ≤ x.1.2 ∧ x.1.2 < hi) := by
      constructor
      · rintro ⟨h1,h2,h3⟩
        refine ⟨h1,h2,?_⟩
        have : x.1.2 ≠ hi := fun e => hk (by rw [← h1,← e])
        omega
      · rintro ⟨h1,h2,h3⟩; exact ⟨h1,h2,by omega⟩
     by_cases hc : x.1.1 = key ∧ lo ≤ x.1.2 ∧ x.1.2 < hi
     · rw [if_pos hc,if_pos (this.2 hc)]; omega
     · rw [if_neg hc,if_neg (fun h => hc (this.1 h))]; omega
def Q0e (s:Qa6) (key:ByteArray) (lo hi:Int) (row:List Int) : Int := ((row.filter fun n => decide (lo ≤ n) && decide (n < hi)).map fun n => (Qd s (key,n)).getD 0).sum
theorem Qzd (s:Qa6) (key:ByteArray) (lo hi:Int) (row:List Int) (n:Int) : Q0e s key lo hi (row ++ [n]) = Q0e s key lo hi row + if lo ≤ n ∧ n < hi then (Qd s (key,n)).getD 0 else 0 := by
 unfold Q0e
 rw [List.filter_append,List.map_append,List.sum_append]
 by_cases h : lo ≤ n ∧ n < hi
 · simp [h.1,h.2]
 · rw [if_neg h]
   have : (decide (lo ≤ n) && decide (n < hi)) = false := by simpa using fun h1 => by omega
   simp [this]
theorem Q1s {s:Qa6} (hp:s.Pairwise (fun x y => x.1 ≠ y.1)) (key:ByteArray) (lo hi:Int) : Q0e s key lo hi (Qdi s key) = paS s key lo hi := by
 unfold Q0e Qdi paS
 rw [List.filter_map,List.map_map,List.filter_filter]
 have : (s.filter fun a => (Function.comp (fun n => decide (lo ≤ n) && decide (n < hi)) fun x : PK × Int => x.1.2) a && decide (a.1.1 = key)) = s.filter fun x => decide (x.1.1 = key) && (decide (lo ≤ x.1.2) && decide (x.1.2 < hi)) := by
  apply List.filter_congr
  intro x _
  simp only [Function.comp]
  rw [Bool.and_comm]
 rw [this]
 congr 1
 apply List.map_congr_left
 intro x hx
 have hm := List.mem_filter.1 hx
 have hk : x.1.1 = key := by have := hm.2; simp at this; exact this.1
 simp only [Function.comp]
 rw [← hk,Qd5 hp (show ((x.1.1,x.1.2),x.2) ∈ s from hm.1)]
 rfl
theorem Qy2 {s:Qa6} {N:Int} (h:Qf2 s N) (hN:0 ≤ N) (key:ByteArray) (lo hi:Int) : 0 ≤ paS s key lo hi ∧ paS s key lo hi ≤ s.length * N := by
 have hb := Qec (fun x:PK × Int => x.2) N (s.filter fun x => decide (x.1.1 = key) && (decide (lo ≤ x.1.2) && decide (x.1.2 < hi))) fun x hx => by
  have := h x (List.mem_filter.1 hx).1
  exact ⟨by omega,this.2⟩
 have hl := List.length_filter_le (fun x:PK × Int => decide (x.1.1 = key) && (decide (lo ≤ x.1.2) && decide (x.1.2 < hi))) s
 unfold paS
 refine ⟨hb.1,Int.le_trans hb.2 (Int.mul_le_mul_of_nonneg_right (by omega) hN)⟩
end Go.Proofs.YtopncieoolkhjaaGreatDoor
