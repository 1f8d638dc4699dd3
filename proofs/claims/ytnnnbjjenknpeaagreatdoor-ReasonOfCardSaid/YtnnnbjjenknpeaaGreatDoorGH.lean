/- Several texts in one: Rd3, Pl1, Rd1, Rd2, Pl2, Pl3, Pl4. -/
import Derived.Test.YtnnnbjjenknpeaaGreatDoorGF
import Derived.Laws.IdiomRangeMap
import Derived.Test.YtnnnbjjenknpeaaGreatDoorHKeyL
set_option linter.unusedVariables false
set_option linter.unusedSimpArgs false
namespace Go.Proofs.YtnnnbjjenknpeaaGreatDoor
open Go.Se Go.RowKit
theorem Qi7 (a b:Int) : IntKind.i64.wrap (IntKind.i64.wrap a + b) = IntKind.i64.wrap (a + b) := by
 simp only [IntKind.wrap,IntKind.bits,IntKind.signed]
 simp
 split <;> split <;> split <;> omega
theorem Qyk (a b:Int) : IntKind.i64.wrap (a + IntKind.i64.wrap b) = IntKind.i64.wrap (a + b) := by
 rw [Int.add_comm,Qi7,Int.add_comm]
theorem Q13 : IntKind.i64.wrap 0 = 0 := by decide
def Qaq (age half:Int) : Int := if age < 0 then 0 else if 20 < age / max half 1 then 0 else (1048576:Int).fdiv (2 ^ (age / max half 1).toNat)
theorem Qhe (age half:Int) (ha:-4611686018427387904 ≤ age ∧ age ≤ 4611686018427387904) (w:World) :
 Cal Tryz.prog 160 [.int .i64 age,.int .i64 half] w fun r w' => r = .int .i64 (Qaq age half) ∧ w' = w := by
 have hm : max half 1 ≠ 0 := by omega
 refine Fi Tryz.func160 rfl _ rfl rfl ?_;conv=>whnf
 constructor
 · intro hc
   have hc : age < 0 := by simpa using hc
   conv=>whnf
   exact ⟨by rw [Qaq,if_pos hc],rfl⟩
 · intro hc
   have hc : ¬ age < 0 := by simpa using hc
   have h1 : age.tdiv (max half 1) = age / max half 1 := Int.tdiv_eq_ediv_of_nonneg (by omega)
   have h2 : 0 ≤ age / max half 1 := Int.ediv_nonneg (by omega) (by omega)
   have h3 : age / max half 1 ≤ age := Int.ediv_le_self _ (by omega)
   have hw : Qaq age half = if 20 < age / max half 1 then 0 else (1048576:Int).fdiv (2 ^ (age / max half 1).toNat) := by rw [Qaq,if_neg hc]
   rw [hw]
   clear hw
   conv=>whnf
   refine ⟨age / max half 1,⟨hm,wrap_eq h1.symm ⟨by omega,by omega⟩⟩,?_⟩;conv=>whnf
   generalize age / max half 1 = n at h2 h3 ⊢
   constructor
   · intro hn
     have hn : 20 < n := by simpa using hn
     conv=>whnf
     exact ⟨by rw [if_pos hn],rfl⟩
   · intro hn
     have hn : ¬ 20 < n := by simpa using hn
     have hmin : min n.toNat IntKind.i64.bits = n.toNat := by simp only [IntKind.bits]; omega
     conv=>whnf
     refine ⟨(1048576:Int).fdiv (2 ^ n.toNat),⟨h2,by rw [hmin]⟩,?_⟩;conv=>whnf
     exact ⟨by rw [if_neg hn],rfl⟩
def Qmh (half now:Int) (r:List (Int × Int)) : Int := (r.map fun x => x.2 * Qaq (now - x.1) half).sum
theorem Qvj {l m:List Int} (h:l.Perm m) : l.sum = m.sum := by
 induction h with
 | nil => rfl
 | cons a _ ih => simp [ih]
 | swap a b l => simp only [List.sum_cons]; omega
 | trans _ _ h1 h2 => exact h1.trans h2
theorem Qx6 {half now:Int} {r s:List (Int × Int)} (h:r.Perm s) : Qmh half now r = Qmh half now s := Qvj (h.map _)
def Qg1 (s:Qrn) (half:Int) (key:ByteArray) (now:Int) : Int := IntKind.i64.wrap (Qmh half now ((Qe s key).getD []))
theorem Q0t {P:Program} {w:World} {mt kt et:TypeId} (ht:P.underlying mt = some (.map kt et)) {R:Value → World → Prop}
 (h:∀ w',Ext w w' → w'.heap[w.heap.size]? = some (.mapIter none 0 #[] 0) → R (.pointer (some ⟨w.heap.size,0,none⟩)) w') : Qjs P (Instr.range mt (.map none)) w R := by
 refine ⟨_,_,Go.run_range_nilMap w mt kt et ht,h _ ((Below.refl _ _).alloc (Nat.le_refl _) _) (heap_alloc_new w _)⟩
theorem Q29 {P:Program} {w:World} {r:Nat} {a b:Nat} {s:Array Nat} {ty:TypeId} (hr:w.heap[r]? = some (.mapIter none a s b)) {R:Value → World → Prop} (h:R (.tuple #[.bool false]) w) : Qjs P (Instr.next (.pointer (some ⟨r,0,none⟩)) false ty) w R := by
 refine ⟨_,_,?_,h⟩
 simp only [Instr.next,getObj,Sem.run_bind,Sem.run,hr,Result.andThen]
 rfl
theorem Qyh {vs L:List (Int × Int)} (h:(Qae vi vs).Perm (Qae vi L)) : vs.Perm L := by
 have h1 := h.map (fun x:Int × Value => (x.1,match x.2 with | .int _ n => n | _ => 0))
 simpa [Qae,List.map_map,Function.comp_def,vi] using h1
theorem Qwe (w:World) (S:Nat → Prop) (p:Nat) (half n:Int) (s:Qrn) (h:Quf w S p half n s) (key:ByteArray) (now:Int) (hnow:0 ≤ now ∧ now ≤ 1099511627776) (ht:∀ r,Qe s key = some r → ∀ x ∈ r,0 ≤ x.1 ∧ x.1 ≤ 1099511627776) :
 Cal Tryz.prog 152 [.pointer (some ⟨p,0,none⟩),.string key,.int .i64 now] w fun r w' => r = .int .i64 (Qg1 s half key now) ∧ Ext w w' := by
 obtain ⟨bm,h⟩ := h
 have hplt := h.head.lt
 have hhead := h.head
 refine Fi Tryz.func152 rfl _ rfl rfl ?_;conv=>whnf
 constructor
 · intro hc
   have hc : now < 0 := by simpa using hc
   omega
 intro _
 conv=>whnf
 refine ⟨.map (some bm),h.head.one rfl,?_⟩;conv=>whnf
 rcases h.sums.look X8 Q35 (Qx Xq) (e := ty270) ty270_ok rfl key with ⟨hno,hrd⟩ | ⟨b,m,Sk,hsome,hrd,hIv,hSk,_⟩
 · have hres : Qg1 s half key now = 0 := by unfold Qg1; rw [hno]; exact Q13
   rw [hres]
   refine ⟨_,hrd .same Qs,?_⟩;conv=>whnf
   refine Q0t Qyf fun w2 hx2 hr2 => ?_
   generalize w.heap.size = r at hr2 ⊢
   conv=>whnf
   refine Qg Qa (fun (_:Unit) w' => w' = w2) (fun _ => [(19,.pointer (some ⟨r,0,none⟩)),(7,.int .i64 0)]) (fun _ => 0) () rfl ⟨rfl,rfl,trivial⟩ ?_
   rintro _ w3 rfl
   conv=>whnf
   refine Q29 hr2 ?_
   conv=>whnf
   constructor
   · intro hh; cases hh
   intro _
   conv=>whnf
   exact ⟨rfl,hx2⟩
 · have hm := hIv.2
   have ht := ht m hsome
   have hres : Qg1 s half key now = IntKind.i64.wrap (Qmh half now m) := by unfold Qg1; rw [hsome]; rfl
   rw [hres]
   refine ⟨_,hrd .same Qs,?_⟩;conv=>whnf
   refine map_range Qyf hm fun w3 hi3 hx3 => ?_
   have hrw : w.heap.size ≤ w.heap.size := Nat.le_refl _
   generalize hr : w.heap.size = r at hi3 ⊢
   conv=>whnf
   refine Qg Qa (fun (q:List (Int × Int) × Int) w' => Ext w w' ∧ Iter w' r b vi (Qae vi m) (Qae vi q.1) ∧ q.2 = IntKind.i64.wrap (Qmh half now q.1))
    (fun | (vs,z) => [(0,.pointer (some ⟨p,0,none⟩)),(2,.int .i64 now),(19,.pointer (some ⟨r,0,none⟩)),(7,.int .i64 z)]) (fun q => m.length - q.1.length) ([],0) ⟨hx3,hi3,Q13.symm⟩ ⟨rfl,rfl,rfl,rfl,trivial⟩ ?_
   clear hi3 hx3
   rintro ⟨vs,z⟩ w4 ⟨hx4,hi4,hz⟩
   simp only at hi4 hz
   conv=>whnf
   refine Qgg hi4 (fun hp => ?_) (fun x w5 hin hnew hlt hi5 ho5 hen => ?_)
   · have hp := Qyh hp
     conv=>whnf
     constructor
     · intro hh; cases hh
     intro _
     conv=>whnf
     exact ⟨by rw [hz,Qx6 hp],hx4⟩
   · obtain ⟨y,hy,rfl⟩ := List.mem_map.1 hin
     have hlt : vs.length < m.length := by simpa [Qae] using hlt
     have hvs : Qae vi vs ++ [(y.1,vi y.2)] = Qae vi (vs ++ [y]) := by simp [Qae]
     rw [hvs] at hi5
     have hx5 := ho5.ext hx4 (by omega)
     have hty := ht y hy
     have hsn : IntKind.i64.wrap (Qmh half now (vs ++ [y])) = IntKind.i64.wrap (z + IntKind.i64.wrap (y.2 * Qaq (now - y.1) half)) := by
      rw [hz,Qi7,Qyk]
      simp [Qmh]
     conv=>whnf
     constructor
     · intro _
       conv=>whnf
       refine Qb1 (hen w5 rfl rfl) ?_
       conv=>whnf
       refine ⟨now - y.1,wrap_eq rfl ⟨by omega,by omega⟩,?_⟩;conv=>whnf
       refine ⟨_,(hhead.ext hx5).one rfl,?_⟩;conv=>whnf
       refine (Qhe (now - y.1) half ⟨by omega,by omega⟩ w5).mono ?_
       rintro _ _ ⟨rfl,rfl⟩
       conv=>whnf
       refine ⟨_,rfl,?_⟩;conv=>whnf
       refine ⟨_,rfl,?_⟩;conv=>whnf
       exact ⟨(vs ++ [y],_),by simp; omega,⟨hx5,hi5,hsn.symm⟩,⟨rfl,rfl,rfl,rfl,trivial⟩⟩
     · intro hh; cases hh
instance memDec (a:ByteArray) (l:List ByteArray) : Decidable (a ∈ l) := decidable_of_iff (l.any (fun b => decide (b = a)) = true) (by simp)
def wpB (e:Ev) : Bool := decide (0 < Qo e)
theorem Q12 {e:Ev} (h:wpB e = true) : e.kind = 1 ∨ e.kind = 2 ∨ e.kind = 3 ∨ e.kind = 4 := by
 have h : 0 < Qo e := by simpa [wpB] using h
 unfold Qo at h
 by_cases h1 : e.kind = 1
 · exact .inl h1
 by_cases h2 : e.kind = 2
 · exact .inr (.inl h2)
 by_cases h3 : e.kind = 3
 · exact .inr (.inr (.inl h3))
 by_cases h4 : e.kind = 4
 · exact .inr (.inr (.inr h4))
 rw [if_neg h1,if_neg h2,if_neg h3,if_neg h4] at h
 omega
def Qza (l:List Ev) : Qrn := l.foldl (fun s e => Qpe s e.item e.at_ (Qo e)) []
def Qyp (width:Int) (l:List Ev) : Qao := l.foldl (fun s e => Qon s (e.item,e.at_ / Xf width) (Qo e)) []
def Qgk (l:List Ev) : Ses := l.foldl (fun s e => Q16 s e.person e.at_ e.item) []
theorem Qsa (l:List Ev) (e:Ev) : Qza (l ++ [e]) = Qpe (Qza l) e.item e.at_ (Qo e) := by unfold Qza; rw [List.foldl_append]; rfl
theorem Qs4 (width:Int) (l:List Ev) (e:Ev) : Qyp width (l ++ [e]) = Qon (Qyp width l) (e.item,e.at_ / Xf width) (Qo e) := by unfold Qyp; rw [List.foldl_append]; rfl
theorem Qtt (l:List Ev) (e:Ev) : Qgk (l ++ [e]) = Q16 (Qgk l) e.person e.at_ e.item := by unfold Qgk; rw [List.foldl_append]; rfl
theorem Qjz (width:Int) (z:List Ev) : (Qp width z).ds = Qza (z.filter wpB) ∧ (Qp width z).ps = Qyp width (z.filter wpB) ∧ (Qp width z).ss = Qgk (z.filter wpB) := by
 induction z using Qy with
 | h0 => exact ⟨rfl,rfl,rfl⟩
 | h1 l a ih =>
   rw [Qb6,List.filter_append]
   unfold Qc2
   cases hw : wpB a with
   | true =>
     have hk := Q12 hw
     have h0 : 0 < Qo a := by simpa [wpB] using hw
     have e1 : [a].filter wpB = [a] := by simp [hw]
     rw [e1,Qsa,Qs4,Qtt,if_neg (by omega),if_neg (by omega),if_pos h0,← ih.1,← ih.2.1,← ih.2.2]
     exact ⟨rfl,rfl,rfl⟩
   | false =>
     have h0 : ¬ 0 < Qo a := by simpa [wpB] using hw
     have e1 : [a].filter wpB = [] := by simp [hw]
     rw [e1,List.append_nil,← ih.1,← ih.2.1,← ih.2.2]
     split
     · exact ⟨rfl,rfl,rfl⟩
     split
     · exact ⟨rfl,rfl,rfl⟩
     exact ⟨rfl,rfl,rfl⟩
def Q4m (l:List Ev) (half:Int) (key:ByteArray) (now:Int) : Int := ((l.filter fun e => decide (e.item = key)).map fun e => Qo e * Qaq (now - e.at_) half).sum
theorem Qvs (f:Int → Int) (t n:Int) : ∀ r : List (Int × Int),((Xc r t ((Qe r t).getD 0 + n)).map fun x => x.2 * f x.1).sum = (r.map fun x => x.2 * f x.1).sum + n * f t
 | [] => by simp [Xc,Qe]
 | x :: r => by
   have ih := Qvs f t n r
   unfold Xc Qe
   by_cases h : t = x.1
   · rw [if_pos h,if_pos h]
     simp only [Option.getD_some,List.map_cons,List.sum_cons]
     rw [Int.add_mul,h]
     omega
   · rw [if_neg h,if_neg h]
     simp only [List.map_cons,List.sum_cons]
     rw [ih]
     omega
theorem Q62 (half:Int) (key:ByteArray) (now:Int) : ∀ l : List Ev,(∀ e ∈ l,wpB e = true) → Qmh half now ((Qe (Qza l) key).getD []) = Q4m l half key now := by
 refine Qy (fun _ => by simp [Qza,Qe,Qmh,Q4m]) fun l e ih h => ?_
 have ih := ih fun x hx => h x (by simp [hx])
 have hw : 0 < Qo e := by simpa [wpB] using h e (by simp)
 rw [Qsa]
 unfold Q4m Qpe at *
 rw [if_neg (by omega),List.filter_append,List.map_append,List.sum_append,← ih,Xg]
 by_cases hk : key = e.item
 · subst hk
   rw [if_pos rfl]
   simp only [Option.getD_some]
   have hs := Qvs (fun t => Qaq (now - t) half) e.at_ (Qo e) ((Qe (Qza l) e.item).getD [])
   unfold Qmh
   rw [hs]
   simp
 · rw [if_neg hk]
   have : decide (e.item = key) = false := by simp; exact fun h => hk h.symm
   simp [this]
theorem Q2r : ∀ l : List Ev,∀ key r,Qe (Qza l) key = some r → ∀ x ∈ r,∃ e ∈ l,e.at_ = x.1 ∧ e.item = key := by
 refine Qy (fun key r h => by simp [Qza,Qe] at h) fun l e ih key r h x hx => ?_
 rw [Qsa] at h
 unfold Qpe at h
 split at h
 · obtain ⟨y,hy,h1⟩ := ih key r h x hx
   exact ⟨y,by simp [hy],h1⟩
 · rw [Xg] at h
   by_cases hk : key = e.item
   · rw [if_pos hk] at h
     injection h with h
     subst h
     rcases Qe2 hx with rfl | hx
     · exact ⟨e,by simp,rfl,hk.symm⟩
     · cases hl : Qe (Qza l) e.item with
       | none => rw [hl] at hx; simp at hx
       | some r =>
         rw [hl] at hx
         obtain ⟨y,hy,h1⟩ := ih e.item r hl x hx
         exact ⟨y,by simp [hy],h1.1,h1.2.trans hk.symm⟩
   · rw [if_neg hk] at h
     obtain ⟨y,hy,h1⟩ := ih key r h x hx
     exact ⟨y,by simp [hy],h1⟩
theorem Qjr (age half:Int) : 0 ≤ Qaq age half ∧ Qaq age half ≤ 1048576 := by
 unfold Qaq
 split
 · omega
 split
 · omega
 · rw [Int.fdiv_eq_ediv_of_nonneg _ (by exact Int.le_of_lt (Int.pow_pos (by omega)))]
   exact ⟨Int.ediv_nonneg (by omega) (Int.le_of_lt (Int.pow_pos (by omega))),Int.ediv_le_self _ (by omega)⟩
theorem Qdv {α:Type} (f:α → Int) (M:Int) : ∀ l : List α,(∀ x ∈ l,0 ≤ f x ∧ f x ≤ M) → 0 ≤ (l.map f).sum ∧ (l.map f).sum ≤ l.length * M
 | [],_ => by simp
 | x :: l,h => by
   have h1 := h x (by simp)
   have ih := Qdv f M l fun y hy => h y (by simp [hy])
   simp only [List.map_cons,List.sum_cons,List.length_cons]
   have : ((l.length + 1 : Nat) : Int) * M = l.length * M + M := by
    rw [show ((l.length + 1 : Nat) : Int) = (l.length : Int) + 1 by omega,Int.add_mul]; omega
   rw [this]
   omega
theorem Q0o {l:List Ev} (hm:∀ e ∈ l,Xu e = true) (half:Int) (key:ByteArray) (now:Int) : 0 ≤ Q4m l half key now ∧ Q4m l half key now ≤ l.length * 5242880 := by
 have h := Qdv (fun e:Ev => Qo e * Qaq (now - e.at_) half) 5242880 (l.filter fun e => decide (e.item = key)) fun e he => by
  have h1 := Qie (hm e (List.mem_filter.1 he).1)
  have h2 := Qjr (now - e.at_) half
  refine ⟨Int.mul_nonneg h1.1 h2.1,?_⟩
  calc Qo e * Qaq (now - e.at_) half ≤ 5 * 1048576 := Int.mul_le_mul h1.2 h2.2 h2.1 (by omega)
   _ = 5242880 := by omega
 have hl := List.length_filter_le (fun e:Ev => decide (e.item = key)) l
 unfold Q4m
 refine ⟨h.1,Int.le_trans h.2 ?_⟩
 exact Int.mul_le_mul_of_nonneg_right (by omega) (by omega)
def paE (l:List Ev) (width:Int) (key:ByteArray) (lo hi:Int) : Int := ((l.filter fun e => decide (e.item = key) && (decide (lo ≤ e.at_ / Xf width) && decide (e.at_ / Xf width < hi))).map Qo).sum
def paS (s:Qao) (key:ByteArray) (lo hi:Int) : Int := ((s.filter fun x => decide (x.1.1 = key) && (decide (lo ≤ x.1.2) && decide (x.1.2 < hi))).map (·.2)).sum
theorem Qvi (key:ByteArray) (lo hi:Int) (c:PK) (n:Int) : ∀ s : Qao,paS (Xc s c ((Qe s c).getD 0 + n)) key lo hi = paS s key lo hi + if (decide (c.1 = key) && (decide (lo ≤ c.2) && decide (c.2 < hi))) = true then n else 0
 | [] => by
   unfold paS
   simp only [Xc,Qe,Option.getD_none,Int.zero_add,List.filter_cons,List.filter_nil]
   split <;> simp
 | x :: s => by
   have ih := Qvi key lo hi c n s
   unfold paS at *
   unfold Xc Qe
   by_cases h : c = x.1
   · rw [if_pos h,if_pos h]
     simp only [Option.getD_some,List.filter_cons]
     rw [← h]
     split
     · simp only [List.map_cons,List.sum_cons]; omega
     · simp
   · rw [if_neg h,if_neg h]
     simp only [List.filter_cons]
     split
     · simp only [List.map_cons,List.sum_cons]; rw [ih]; omega
     · exact ih
theorem Q4n (width:Int) (key:ByteArray) (lo hi:Int) : ∀ l : List Ev,(∀ e ∈ l,wpB e = true) → paS (Qyp width l) key lo hi = paE l width key lo hi := by
 refine Qy (fun _ => by simp [Qyp,paS,paE]) fun l e ih h => ?_
 have ih := ih fun x hx => h x (by simp [hx])
 have hw : 0 < Qo e := by simpa [wpB] using h e (by simp)
 rw [Qs4]
 unfold Qon paE at *
 rw [if_neg (by omega),Qvi,ih,List.filter_append,List.map_append,List.sum_append]
 simp only [List.filter_cons,List.filter_nil]
 split <;> simp
theorem Q3f {l:List Ev} (hm:∀ e ∈ l,Xu e = true) (width:Int) (key:ByteArray) (lo hi:Int) : 0 ≤ paE l width key lo hi ∧ paE l width key lo hi ≤ l.length * 5 := by
 have h := Qdv Qo 5 (l.filter fun e => decide (e.item = key) && (decide (lo ≤ e.at_ / Xf width) && decide (e.at_ / Xf width < hi))) fun e he => Qie (hm e (List.mem_filter.1 he).1)
 have hl := List.length_filter_le (fun e:Ev => decide (e.item = key) && (decide (lo ≤ e.at_ / Xf width) && decide (e.at_ / Xf width < hi))) l
 unfold paE
 refine ⟨h.1,Int.le_trans h.2 ?_⟩
 exact Int.mul_le_mul_of_nonneg_right (by omega) (by omega)
def Qaf (l:List ByteArray) : List ByteArray := l.mergeSort fun a b => !bLt b a
theorem Qzz (a b c:ByteArray) (h1:(!bLt b a) = true) (h2:(!bLt c b) = true) : (!bLt c a) = true := by
 rw [Bool.not_eq_true'] at *
 cases h : bLt c a with
 | false => rfl
 | true =>
   cases hab : bLt a b with
   | true => rw [Qb5 h hab] at h2; cases h2
   | false => rw [Qcc hab h1] at h; rw [h] at h2; cases h2
theorem Qzy (a b:ByteArray) : ((!bLt b a) || (!bLt a b)) = true := by
 cases h : bLt b a with
 | false => rfl
 | true => rw [Qcq h]; rfl
theorem Qci (l:List ByteArray) : (Qaf l).Perm l := List.mergeSort_perm _ _
theorem Qh5 (l:List ByteArray) : Srt bLt (Qaf l) := by
 have := List.pairwise_mergeSort (le := fun a b => !bLt b a) Qzz Qzy l
 exact this.imp fun h => by simpa using h
theorem Qcx {l z:List ByteArray} (hp:z.Perm l) (hs:Srt bLt z) : z = Qaf l :=
 List.Perm.eq_of_pairwise (le := fun a b => bLt b a = false) (fun a b _ _ h1 h2 => Qcc h2 h1) hs (Qh5 l) (hp.trans (Qci l).symm)
theorem Qlv {l:List ByteArray} {x:ByteArray} : x ∈ Qaf l ↔ x ∈ l := (Qci l).mem_iff
theorem Qex (l:List ByteArray) : (Qaf l).length = l.length := (Qci l).length_eq
def Qdz (l:List Int) : List Int := l.mergeSort fun x y => decide (x ≤ y)
theorem Qdg (l:List Int) : (Qdz l).Perm l := List.mergeSort_perm _ _
theorem Qlt (l:List Int) : (Qdz l).Pairwise (· ≤ ·) := by
 have := List.pairwise_mergeSort (le := fun x y : Int => decide (x ≤ y)) (fun a b c h1 h2 => by simp at *; omega) (fun a b => by simp; omega) l
 exact this.imp fun h => by simpa using h
theorem Qq2 {l z:List Int} (hp:z.Perm l) (hs:z.Pairwise (· ≤ ·)) : z = Qdz l :=
 List.Perm.eq_of_pairwise (le := (· ≤ ·)) (fun a b _ _ h1 h2 => Int.le_antisymm h1 h2) hs (Qlt l) (hp.trans (Qdg l).symm)
theorem Qls {l:List Int} {x:Int} : x ∈ Qdz l ↔ x ∈ l := (Qdg l).mem_iff
theorem Qqz (l:List Int) : (Qdz l).length = l.length := (Qdg l).length_eq
section
open Go.Maps Go.Sort Go.Shelf Go.WideElems
open Go.WideMaps (keyOf_string_mk)
open Go.WideShapes (sorted_perm)
theorem Qu4 {κ:Type} {enc:κ → Value} {P:Program} {k:TypeId} {w:World} {b:Nat} {L:List (κ × Value)} (hm:MapAt w b enc L) (hinj:∀ a b,enc a = enc b → a = b) (lit:κ → Lit) (hk:∀ x ∈ L,keyOf P k (enc x.1) = some (lit x.1)) (hl:L.length ≤ 1000000000) :
 ∃ es : List (Lit × DataW Unit),w.ownsMap P k (fun _ => some (.nil,[])) b L.length (.map es) ∧ es.Perm (L.map fun x => (lit x.1,.nil)) := by
 obtain ⟨E,clock,hE,rfl⟩ := hm
 have hEl : (strip E).length = E.length := by simp [strip]
 have hrd : ∀ x ∈ E,rd (H := Unit) P k (fun _ => some (.nil,[])) (mkE enc x) = some (lit x.1,.nil) := fun x hx =>
  Go.WideElems.rd_mk (P := P) (k := k) (R := fun _ => some (.nil,[])) (val := x.2.1) (born := x.2.2) (yv := (.nil,[])) (hk (x.1,x.2.1) (List.mem_map.2 ⟨x,hx,rfl⟩)) rfl
 refine ⟨_,⟨_,clock,hE.block,⟨?_,⟨?_,?_,?_⟩,?_⟩,?_,rfl⟩,?_⟩
 · rw [hEl] at hl; simp only [List.size_toArray,List.length_map]; unfold maxLen; omega
 · intro x hx
   simp only [List.mem_map] at hx
   obtain ⟨y,hy,rfl⟩ := hx
   exact hE.below y hy
 · simp only [List.map_map]
   rw [List.nodup_iff_pairwise_ne,List.pairwise_map]
   exact hE.rising.imp fun h => by simp only [mkE,Function.comp]; omega
 · simp only [List.map_map]
   rw [List.nodup_iff_pairwise_ne,List.pairwise_map]
   exact hE.keys.imp fun h e => h (hinj _ _ e)
 · intro x hx
   simp only [List.mem_map] at hx
   obtain ⟨y,hy,rfl⟩ := hx
   exact ⟨_,hrd y hy⟩
 · rw [hEl]; simp
 · refine (sorted_perm _).trans ?_
   have : (E.map (mkE enc)).toArray.toList.map (rg (H := Unit) P k (fun _ => some (.nil,[]))) = (strip E).map fun x => (lit x.1,.nil) := by
    simp only [strip,List.map_map]
    exact List.map_congr_left fun x hx => rg_of (hrd x hx)
   rw [this]
theorem Qes {α:Type} {enc:α → List Value} {sz:Nat} {te:TypeId} {base:Nat} {w:World} {v:Value} {l:List α} {n:Nat} {xs:List Value} (h:w.ownsRow base te sz v n xs) (hn:n = l.length) (hx:xs = l.flatMap enc) :
 ∃ A c,v = .slice A l.length c ∧ Own enc sz te base w A c l := by
 subst hn hx
 unfold Own
 rcases h with ⟨h1,⟨h2,h3⟩ | ⟨g,cap,cur,h2,h3⟩⟩
 · refine ⟨none,0,by rw [h2,h3],h1,.inl ⟨by rw [h3],h3⟩⟩
 · exact ⟨_,cap,h2,h1,.inr ⟨g,cap,cur,rfl,h3⟩⟩
theorem Qfn {α:Type} {enc:α → List Value} {sz:Nat} {te:TypeId} {b1 b2:Nat} {w:World} {A:Option Addr} {c:Nat} {l:List α} (h:Own enc sz te b1 w A c l) (hb:b2 ≤ b1) : Own enc sz te b2 w A c l := by
 unfold Own at *
 rcases h with ⟨h1,h2 | ⟨g,cap,cur,h2,h3,h4⟩⟩
 · exact ⟨h1,.inl h2⟩
 · exact ⟨h1,.inr ⟨g,cap,cur,h2,by omega,h4⟩⟩
theorem Qht {α:Type} (f:α → Value) (l:List α) : l.flatMap (fun x => [f x]) = l.map f := by induction l with | nil => rfl | cons a l ih => simp [ih]
theorem Qjo {P:Program} {ρ6:Ren} (S:SlLaysZ.n6 P ρ6) (hsort:∀ m,AnyZ.SortsIn P ρ6 Fence.wide m) (e9:∀ args w,(callFunc (ρ6.f 9) args).run P w = .ok (.enter (ρ6.f 9) args) w) {g:Nat} {lb:Array Value} (eg:∀ args w,(callFunc g args).run P w = .ok (.enter g args) w)
 (hok:Qrr P (ρ6.f 6)) {w:World} {l:List ByteArray} {N:Nat} {Q:List (List UInt8) → Prop} (hQ:∀ ss,Q ss → ss.Perm (l.map fun x => x.data.toList)) (hN:N ≤ 1000000000) (hseq:SeqGives Fence.wide 2 P g lb encStr Q N w) :
 Cal P (ρ6.f 6) [.func (.func g) #[] lb] w fun r w' => ∃ A c,r = .slice A (Qaf l).length c ∧ Own Qck 1 (ρ6.t 26) w.heap.size w' A c (Qaf l) ∧ Ext w w' := by
 have hS := AnyZ.sorted_in S Fence.wide 5 trivial trivial trivial trivial rfl (by omega) (hsort _) e9 g lb trivial eg _ N (by unfold maxLen; omega) (by omega) w hseq
 refine ⟨hok,(callsIn_wide.1 hS).mono ?_⟩
 rintro e w' ⟨v,ss,rfl,hp,hrow,_,hb⟩
 have hkeys := hQ ss hp
 have hz : (ss.mergeSort fun x y => decide (x ≤ y)).map (fun x => (⟨x.toArray⟩ : ByteArray)) = Qaf l := by
  apply Qcx
  · have h1 := (List.mergeSort_perm ss fun x y => decide (x ≤ y)).trans hkeys
    have h2 := h1.map (fun x => (⟨x.toArray⟩ : ByteArray))
    simpa [List.map_map,Function.comp_def] using h2
  · unfold Srt
    rw [List.pairwise_map]
    have := List.pairwise_mergeSort (le := fun x y : List UInt8 => decide (x ≤ y)) (fun a b c h1 h2 => by simp only [decide_eq_true_eq] at *; exact List.le_trans h1 h2) (fun a b => by simp only [Bool.or_eq_true,decide_eq_true_eq]; exact List.le_total a b) ss
    refine this.imp fun {a b} h => ?_
    simp only [decide_eq_true_eq] at h
    unfold bLt
    rw [ByteArray.toList_eq,ByteArray.toList_eq,bytesLess_eq]
    simpa using h
 obtain ⟨A,c,hv,ho⟩ := Qes (enc := Qck) (l := Qaf l) hrow (by rw [← hz]; simp) (by
  rw [← hz,show Qck = fun x => [Value.string x] from rfl,Qht,List.map_map]; rfl)
 exact ⟨v,rfl,A,c,hv,ho,hb⟩
theorem Qjn {P:Program} {ρ6:Ren} (S:SlLaysZI.n6 P ρ6) (hsort:∀ m,AnyZI.SortsIn P ρ6 Fence.wide m) (e9:∀ args w,(callFunc (ρ6.f 9) args).run P w = .ok (.enter (ρ6.f 9) args) w) {g:Nat} {lb:Array Value} (eg:∀ args w,(callFunc g args).run P w = .ok (.enter g args) w)
 (hok:Qrr P (ρ6.f 6)) {w:World} {l:List Int} {N:Nat} {Q:List Int → Prop} (hQ:∀ ss,Q ss → ss.Perm l) (hN:N ≤ 1000000000) (hseq:SeqGives Fence.wide 2 P g lb (Value.int .i64) Q N w) :
 Cal P (ρ6.f 6) [.func (.func g) #[] lb] w fun r w' => ∃ A c,r = .slice A (Qdz l).length c ∧ Own Qj6 1 (ρ6.t 26) w.heap.size w' A c (Qdz l) ∧ Ext w w' := by
 have hS := AnyZI.sorted_in S Fence.wide 5 trivial trivial trivial trivial rfl (by omega) (hsort _) e9 g lb trivial eg _ N (by unfold maxLen; omega) (by omega) w hseq
 refine ⟨hok,(callsIn_wide.1 hS).mono ?_⟩
 rintro e w' ⟨v,ss,rfl,hp,hrow,_,hb⟩
 have hz : (ss.mergeSort fun x y => decide (x ≤ y)) = Qdz l := Qq2 ((Qdg ss).trans (hQ ss hp)) (Qlt ss)
 obtain ⟨A,c,hv,ho⟩ := Qes (enc := Qj6) (l := Qdz l) hrow (by rw [← hz]; simp) (by
  rw [← hz,show Qj6 = fun x => [Value.int .i64 x] from rfl,Qht])
 exact ⟨v,rfl,A,c,hv,ho,hb⟩
theorem Qp7 {P:Program} {ρ7:Ren} (K:SlLaysZ.n10 P ρ7) {w:World} {Bm b:Nat} {L:List (ByteArray × Value)} (hc:w.cell? ⟨Bm,0,none⟩ = some (.map (some b))) (hm:MapAt w b Value.string L) (hk:∀ x ∈ L,x.1.size ≤ 1000000) (hl:L.length ≤ 1000000000) :
 ∃ N Q,N ≤ 1000000000 ∧ (∀ ss : List (List UInt8),Q ss → ss.Perm ((L.map (·.1)).map fun x => x.data.toList)) ∧ SeqGives Fence.wide 2 P (ρ7.f 10) #[.pointer (some ⟨Bm,0,none⟩)] encStr Q N w := by
 obtain ⟨es,hown,hes⟩ := Qu4 (P := P) (k := ρ7.t 26) hm (fun a b e => by simpa using e) (fun x => .string x.data.toList) (fun x hx => keyOf_string_mk K.t26 (by have := hk x hx; unfold maxLen; omega)) hl
 have hsz : Maps.size (.map es) = L.length := by
  have := hes.length_eq
  simp at this
  simpa [Maps.size] using this
 refine ⟨_,_,?_,fun ss hp => ?_,AnyZ.keys_gives K Fence.wide 2 trivial rfl (by omega) Bm b _ _ w (cell_lt hc) hc hown⟩
 · rw [hsz]; exact hl
 · refine hp.trans ?_
   simp only [strKeys]
   refine (hes.map _).trans ?_
   rw [List.map_map,List.map_map]
   exact List.Perm.refl _
theorem Qzu {P:Program} {ρ7:Ren} (K:SlLaysZI.n10 P ρ7) {w:World} {Bm b:Nat} {L:List (Int × Value)} (hc:w.cell? ⟨Bm,0,none⟩ = some (.map (some b))) (hm:MapAt w b vi L) (hk:∀ x ∈ L,0 ≤ x.1 ∧ x.1 ≤ 4611686018427387904) (hl:L.length ≤ 1000000000) :
 ∃ N Q,N ≤ 1000000000 ∧ (∀ ss : List Int,Q ss → ss.Perm (L.map (·.1))) ∧ SeqGives Fence.wide 2 P (ρ7.f 10) #[.pointer (some ⟨Bm,0,none⟩)] (Value.int .i64) Q N w := by
 obtain ⟨es,hown,hes⟩ := Qu4 (P := P) (k := ρ7.t 26) hm (fun a b e => by simpa [vi] using e) (fun x => .int .i64 x) (fun x hx => keyOf_int_mk K.t26 (by
  have := hk x hx
  simp only [Lit.wf,Bool.and_eq_true,decide_eq_true_eq,show IntKind.i64.min = -9223372036854775808 from by decide,show IntKind.i64.max = 9223372036854775807 from by decide]
  omega)) hl
 have hsz : Maps.size (.map es) = L.length := by
  have := hes.length_eq
  simp at this
  simpa [Maps.size] using this
 refine ⟨_,_,?_,fun ss hp => ?_,AnyZI.keys_gives K Fence.wide 2 trivial rfl (by omega) Bm b _ _ w (cell_lt hc) hc hown⟩
 · rw [hsz]; exact hl
 · refine hp.trans ?_
   simp only [intKeys]
   refine (hes.map _).trans ?_
   rw [List.map_map]
   exact List.Perm.refl _
theorem Qve (w:World) (v:Value) (t:TypeId) : (w.alloc (.cells #[v] t)).cell? ⟨w.heap.size,0,none⟩ = some v := by
 exact cell_one_new w v t 0 v rfl
theorem Qp6 {P:Program} {ρ7:Ren} (K:SlLaysZ.n7 P ρ7) (hok:Qrr P (ρ7.f 7)) (mb:Option Nat) (w:World) :
 Cal P (ρ7.f 7) [.map mb] w fun r w' => r = .func (.func (ρ7.f 10)) #[] #[.pointer (some ⟨w.heap.size,0,none⟩)] ∧ w'.cell? ⟨w.heap.size,0,none⟩ = some (.map mb) ∧ Ext w w' := by
 refine ⟨hok,(callsIn_wide.1 (AnyZ.keys_in K Fence.wide 5 trivial rfl mb w)).mono ?_⟩
 rintro e w' ⟨rfl,rfl⟩
 exact ⟨_,rfl,rfl,Qve _ _ _,(Below.refl _ _).alloc (Nat.le_refl _) _⟩
theorem Qzt {P:Program} {ρ7:Ren} (K:SlLaysZI.n7 P ρ7) (hok:Qrr P (ρ7.f 7)) (mb:Option Nat) (w:World) :
 Cal P (ρ7.f 7) [.map mb] w fun r w' => r = .func (.func (ρ7.f 10)) #[] #[.pointer (some ⟨w.heap.size,0,none⟩)] ∧ w'.cell? ⟨w.heap.size,0,none⟩ = some (.map mb) ∧ Ext w w' := by
 refine ⟨hok,(callsIn_wide.1 (AnyZI.keys_in K Fence.wide 5 trivial rfl mb w)).mono ?_⟩
 rintro e w' ⟨rfl,rfl⟩
 exact ⟨_,rfl,rfl,Qve _ _ _,(Below.refl _ _).alloc (Nat.le_refl _) _⟩
end
end Go.Proofs.YtnnnbjjenknpeaaGreatDoor
namespace Go.Proofs.YtnnnbjjenknpeaaGreatDoor
open Go.Se Go.RowKit
open Go.Maps Go.Sort Go.Shelf
theorem Qlw : Qaf [] = [] := by simp [Qaf]
theorem Qq0 : Qdz [] = [] := by simp [Qdz]
theorem Q4u (m:Nat) : AnyZ.SortsIn Tryz.prog Tryz.sorted171_ren Fence.wide m :=
 ⟨fun blk off cap ss W h1 h2 h3 => callsIn_wide.2 (AnyM.slices_Sort_string Tryz.sort215 blk off cap ss W h1 h2 h3),fun p cap W => callsIn_wide.2 (AnyM.slices_Sort_string_none Tryz.sort215 p cap W)⟩
theorem Q4t (m:Nat) : AnyZI.SortsIn Tryz.prog Tryz.sorted246_ren Fence.wide m :=
 ⟨fun blk off cap ss W h1 h2 h3 => callsIn_wide.2 (AnyM.slices_Sort_int Tryz.sort284 blk off cap ss W h1 h2 h3),fun p cap W => callsIn_wide.2 (AnyM.slices_Sort_int_none Tryz.sort284 p cap W)⟩
theorem Qm0 (mb:Option Nat) (w:World) : Cal Tryz.prog 230 [.map mb] w fun r w' => r = .func (.func 269) #[] #[.pointer (some ⟨w.heap.size,0,none⟩)] ∧ w'.cell? ⟨w.heap.size,0,none⟩ = some (.map mb) ∧ Ext w w' :=
 Qp6 Tryz.keys230 ⟨_,Tryz.func230,rfl,rfl⟩ mb w
theorem Qjm {w:World} {Bm b:Nat} {L:List (ByteArray × Value)} (hc:w.cell? ⟨Bm,0,none⟩ = some (.map (some b))) (hm:MapAt w b Value.string L) (hk:∀ x ∈ L,x.1.size ≤ 1000000) (hl:L.length ≤ 1000000000) :
 Cal Tryz.prog 171 [.func (.func 269) #[] #[.pointer (some ⟨Bm,0,none⟩)]] w fun r w' => ∃ A c,r = .slice A (Qaf (L.map (·.1))).length c ∧ Own Qck 1 9 w.heap.size w' A c (Qaf (L.map (·.1))) ∧ Ext w w' := by
 obtain ⟨N,Q,h1,h2,h3⟩ := Qp7 { Tryz.keys230 with } hc hm hk hl
 exact Qjo Tryz.sorted171 Q4u (enters_of Tryz.func215 (by kernel_rfl) rfl) (enters_of Tryz.func269 (by kernel_rfl) rfl) ⟨_,Tryz.func171,rfl,rfl⟩ h2 h1 h3
theorem Qwv (mb:Option Nat) (w:World) : Cal Tryz.prog 172 [.map mb] w fun r w' => r = .func (.func 216) #[] #[.pointer (some ⟨w.heap.size,0,none⟩)] ∧ w'.cell? ⟨w.heap.size,0,none⟩ = some (.map mb) ∧ Ext w w' :=
 Qp6 Tryz.keys172 ⟨_,Tryz.func172,rfl,rfl⟩ mb w
theorem Qq6 {w:World} {Bm b:Nat} {L:List (ByteArray × Value)} (hc:w.cell? ⟨Bm,0,none⟩ = some (.map (some b))) (hm:MapAt w b Value.string L) (hk:∀ x ∈ L,x.1.size ≤ 1000000) (hl:L.length ≤ 1000000000) :
 Cal Tryz.prog 171 [.func (.func 216) #[] #[.pointer (some ⟨Bm,0,none⟩)]] w fun r w' => ∃ A c,r = .slice A (Qaf (L.map (·.1))).length c ∧ Own Qck 1 9 w.heap.size w' A c (Qaf (L.map (·.1))) ∧ Ext w w' := by
 obtain ⟨N,Q,h1,h2,h3⟩ := Qp7 { Tryz.keys172 with } hc hm hk hl
 exact Qjo Tryz.sorted171 Q4u (enters_of Tryz.func215 (by kernel_rfl) rfl) (enters_of Tryz.func216 (by kernel_rfl) rfl) ⟨_,Tryz.func171,rfl,rfl⟩ h2 h1 h3
theorem Qm1 (mb:Option Nat) (w:World) : Cal Tryz.prog 247 [.map mb] w fun r w' => r = .func (.func 285) #[] #[.pointer (some ⟨w.heap.size,0,none⟩)] ∧ w'.cell? ⟨w.heap.size,0,none⟩ = some (.map mb) ∧ Ext w w' :=
 Qzt Tryz.keys247 ⟨_,Tryz.func247,rfl,rfl⟩ mb w
theorem Qq5 {w:World} {Bm b:Nat} {L:List (Int × Value)} (hc:w.cell? ⟨Bm,0,none⟩ = some (.map (some b))) (hm:MapAt w b vi L) (hk:∀ x ∈ L,0 ≤ x.1 ∧ x.1 ≤ 4611686018427387904) (hl:L.length ≤ 1000000000) :
 Cal Tryz.prog 246 [.func (.func 285) #[] #[.pointer (some ⟨Bm,0,none⟩)]] w fun r w' => ∃ A c,r = .slice A (Qdz (L.map (·.1))).length c ∧ Own Qj6 1 3 w.heap.size w' A c (Qdz (L.map (·.1))) ∧ Ext w w' := by
 obtain ⟨N,Q,h1,h2,h3⟩ := Qzu { Tryz.keys247 with } hc hm hk hl
 exact Qjn Tryz.sorted246 Q4t (enters_of Tryz.func284 (by kernel_rfl) rfl) (enters_of Tryz.func285 (by kernel_rfl) rfl) ⟨_,Tryz.func246,rfl,rfl⟩ h2 h1 h3
theorem Qto {w:World} {Bm:Nat} (hc:w.cell? ⟨Bm,0,none⟩ = some (.map none)) :
 Cal Tryz.prog 246 [.func (.func 285) #[] #[.pointer (some ⟨Bm,0,none⟩)]] w fun r w' => ∃ A c,r = .slice A 0 c ∧ Own Qj6 1 3 w.heap.size w' A c [] ∧ Ext w w' := by
 have := Qjn Tryz.sorted246 Q4t (enters_of Tryz.func284 (by kernel_rfl) rfl) (enters_of Tryz.func285 (by kernel_rfl) rfl) ⟨_,Tryz.func246,rfl,rfl⟩ (l := []) (fun ss (h:ss = []) => by rw [h]) (Nat.zero_le _) (AnyZI.keys_gives_nil { Tryz.keys247 with } Fence.wide 2 trivial rfl Bm w (cell_lt hc) hc)
 simp only [Qlw,Qq0,List.length_nil] at this
 exact this
end Go.Proofs.YtnnnbjjenknpeaaGreatDoor
namespace Go.Proofs.YtnnnbjjenknpeaaGreatDoor
open Go.Se Go.RowKit
def Qy8 : List ByteArray → List ByteArray
 | [] => []
 | a :: l => if a ∈ l then Qy8 l else a :: Qy8 l
theorem Qgb {x:ByteArray} : ∀ {l:List ByteArray},x ∈ Qy8 l ↔ x ∈ l
 | [] => Iff.rfl
 | a :: l => by
   have ih := Qgb (x := x) (l := l)
   unfold Qy8
   split
   · next h =>
     rw [ih,List.mem_cons]
     constructor
     · exact .inr
     · rintro (rfl | h1)
       · exact h
       · exact h1
   · rw [List.mem_cons,List.mem_cons,ih]
theorem Qei : ∀ l : List ByteArray,(Qy8 l).Nodup
 | [] => List.nodup_nil
 | a :: l => by
   have ih := Qei l
   unfold Qy8
   split
   · exact ih
   · next h => exact List.nodup_cons.2 ⟨fun h1 => h (Qgb.1 h1),ih⟩
def Qfb (l:List ByteArray) : List ByteArray := Qaf (Qy8 l)
theorem Qc9 {l:List ByteArray} {x:ByteArray} : x ∈ Qfb l ↔ x ∈ l := by unfold Qfb; rw [Qlv,Qgb]
theorem Qnc (l:List ByteArray) : (Qfb l).Nodup := (Qci _).nodup_iff.2 (Qei l)
theorem Qtf {K l:List ByteArray} (hn:K.Nodup) (hm:∀ x,x ∈ K ↔ x ∈ l) : Qaf K = Qfb l := by
 have hp : K.Perm (Qy8 l) := Qd5 hn (Qei l) (fun x hx => Qgb.2 ((hm x).1 hx)) (fun x hx => (hm x).2 (Qgb.1 hx))
 exact Qcx ((Qci K).trans hp) (Qh5 K)
theorem Qnb {k l:List ByteArray} (hm:∀ x,x ∈ k ↔ x ∈ l) : Qfb k = Qfb l := Qtf (Qei k) fun x => Qgb.trans (hm x)
theorem Q3r (l:List ByteArray) : (Qfb l).length ≤ l.length := by
 unfold Qfb
 rw [Qex]
 induction l with
 | nil => simp [Qy8]
 | cons a l ih => unfold Qy8; split <;> simp <;> omega
theorem Qde {β:Type} {L:List (ByteArray × β)} (h:L.Pairwise (fun x y => x.1 ≠ y.1)) : (L.map (·.1)).Nodup := by
 rw [List.nodup_iff_pairwise_ne,List.pairwise_map]; exact h
theorem Q28 {β:Type} {L:List (ByteArray × β)} {k:ByteArray} : k ∈ L.map (·.1) ↔ (Qe L k).isSome = true := by
 cases h : Qe L k with
 | none =>
   have := Qdc.1 h
   simp only [List.mem_map,Option.isSome_none,Bool.false_eq_true,iff_false]
   rintro ⟨x,hx,rfl⟩
   exact this x hx rfl
 | some v =>
   have := Qcp h
   simp only [Option.isSome_some,iff_true,List.mem_map]
   exact ⟨_,this,rfl⟩
abbrev Grp := Int × Int × List ByteArray
def Qcf (gap:Int) (acc:List Grp) (t:Int) (its:List ByteArray) : List Grp :=
 match acc.getLast? with
 | some g => if gap < t - g.2.1 then acc ++ [(t,t,its)] else acc.dropLast ++ [(g.1,t,g.2.2 ++ its)]
 | none => [(t,t,its)]
abbrev Qdw := List (Int × List (ByteArray × Bool))
def Xk (k:Qdw) (t:Int) : List ByteArray := ((Qe k t).getD []).map (·.1)
def Qff (gap:Int) (k:Qdw) (ts:List Int) : List Grp := ts.foldl (fun acc t => Qcf gap acc t (Xk k t)) []
def Q68 (gap:Int) (k:Qdw) : List Grp := Qff gap k (Qdz (k.map (·.1)))
theorem Qgd (gap:Int) (k:Qdw) (ts:List Int) (t:Int) : Qff gap k (ts ++ [t]) = Qcf gap (Qff gap k ts) t (Xk k t) := by unfold Qff; rw [List.foldl_append]; rfl
structure Sn where
 person : ByteArray
 from_ : Int
 to_ : Int
 items : List ByteArray
deriving DecidableEq,Inhabited
def Q19 (person:ByteArray) (g:Grp) : Sn := ⟨person,g.1,g.2.1,Qfb g.2.2⟩
def Qew (gap:Int) (ss:Ses) (person:ByteArray) : List Sn := (Q68 gap ((Qe ss person).getD [])).map (Q19 person)
def Qf4 (gap:Int) (ss:Ses) : List Sn := (Qaf (ss.map (·.1))).flatMap (Qew gap ss)
theorem Q5m (gap:Int) (acc:List Grp) (t:Int) (its:List ByteArray) : (Qcf gap acc t its).length ≤ acc.length + 1 := by
 unfold Qcf
 split
 · next g h =>
   split
   · simp
   · simp
 · simp
theorem Qzf (gap:Int) (k:Qdw) : ∀ ts : List Int,(Qff gap k ts).length ≤ ts.length := by
 refine Qy (by simp [Qff]) fun l t ih => ?_
 rw [Qgd]
 have := Q5m gap (Qff gap k l) t (Xk k t)
 simp; omega
theorem Q22 (gap:Int) (k:Qdw) : (Q68 gap k).length ≤ k.length := by
 have := Qzf gap k (Qdz (k.map (·.1)))
 rw [Qqz,List.length_map] at this
 exact this
def hasB (a:ByteArray) (s:Sn) : Bool := decide (a ∈ s.items)
def Qad (S:List Sn) (a:ByteArray) : Nat := (S.filter (hasB a)).length
def Qet (S:List Sn) (a b:ByteArray) : Nat := (S.filter fun s => hasB a s && hasB b s).length
theorem Qf2 (S:List Sn) (a:ByteArray) : Qad S a ≤ S.length := List.length_filter_le _ _
theorem Qg7 (S:List Sn) (a b:ByteArray) : Qet S a b ≤ S.length := List.length_filter_le _ _
theorem Qqg (S:List Sn) (a:ByteArray) : Qet S a a = Qad S a := by
 unfold Qet Qad
 congr 1
 apply List.filter_congr
 intro s _
 simp
def Qen (S:List Sn) (a b:ByteArray) : Int × Int :=
 if Qad S a = 0 ∨ Qad S b = 0 then (0,1) else if a = b then (1,1) else ((Qet S a b:Int) * Qet S a b,(Qad S a:Int) * Qad S b)
def Q3m (a b:Int × Int) : Bool := decide (a.1 * b.2 < b.1 * a.2)
def Qd1 (S:List Sn) (item:ByteArray) (b:Int × Int) (e:Ev) : Int × Int :=
 if Qo e ≤ 0 ∨ e.item = item then b else if Q3m b (Qen S item e.item) = true then Qen S item e.item else b
def Qju (S:List Sn) (item:ByteArray) (h:List Ev) : Int × Int := h.foldl (Qd1 S item) (0,1)
theorem Qms (S:List Sn) (item:ByteArray) (h:List Ev) (e:Ev) : Qju S item (h ++ [e]) = Qd1 S item (Qju S item h) e := by unfold Qju; rw [List.foldl_append]; rfl
def Qpf (N:Int) (r:Int × Int) : Prop := 0 ≤ r.1 ∧ r.1 ≤ N ∧ 1 ≤ r.2 ∧ r.2 ≤ N
theorem Qz2 {S:List Sn} {N:Int} (hN:(S.length : Int) * S.length ≤ N) (h1:1 ≤ N) (a b:ByteArray) : Qpf N (Qen S a b) := by
 unfold Qen
 have ha := Qf2 S a
 have hb := Qf2 S b
 have hp := Qg7 S a b
 split
 · exact ⟨by simp,by simp; omega,by simp,by simp; omega⟩
 split
 · exact ⟨by simp,by simpa using h1,by simp,by simpa using h1⟩
 · next h0 _ =>
   have h2 : (1:Int) ≤ Qad S a := by omega
   have h3 : (1:Int) ≤ Qad S b := by omega
   have e1 : ((Qet S a b:Int) * Qet S a b) ≤ (S.length : Int) * S.length := Int.mul_le_mul (by omega) (by omega) (by omega) (by omega)
   have e2 : ((Qad S a:Int) * Qad S b) ≤ (S.length : Int) * S.length := Int.mul_le_mul (by omega) (by omega) (by omega) (by omega)
   have e3 : (1:Int) * 1 ≤ (Qad S a:Int) * Qad S b := Int.mul_le_mul h2 h3 (by omega) (by omega)
   exact ⟨Int.mul_nonneg (by omega) (by omega),by simp only; omega,by simp only; omega,by simp only; omega⟩
theorem Q48 {S:List Sn} {N:Int} (hN:(S.length : Int) * S.length ≤ N) (h1:1 ≤ N) (item:ByteArray) : ∀ h : List Ev,Qpf N (Qju S item h) := by
 refine Qy ⟨by simp [Qju],by simp [Qju]; omega,by simp [Qju],by simp [Qju]; omega⟩ fun l e ih => ?_
 rw [Qms]
 unfold Qd1
 split
 · exact ih
 split
 · exact Qz2 hN h1 _ _
 · exact ih
def flB (person maker:ByteArray) (e:Ev) : Bool := decide (e.person = person) && (decide (e.text = maker) && (decide (e.kind = 7) || decide (e.kind = 8)))
def Qwq (z:List Ev) (person maker:ByteArray) : Bool := match (z.filter (flB person maker)).getLast? with
 | some e => decide (e.kind = 7)
 | none => false
theorem Qp0 (person maker:ByteArray) : ∀ rs : List Row,(Qe (Xj rs).follows (person,maker)) = ((evs rs).filter (flB person maker)).getLast?.map fun e => decide (e.kind = 7) := by
 refine Qy (by simp [Xj,evs,Cw0,Qe]) fun rs r ih => ?_
 rw [Qd4,Qj1,List.filter_append]
 have hB : (Qc6 (Xj rs) r.1).follows = (Qca (Xj rs) r.1).follows := by
  unfold Qc6 Qlf
  split <;> rfl
 rw [hB]
 unfold Qca
 cases hf : flB person maker r.1 with
 | true =>
   simp only [flB,Bool.and_eq_true,Bool.or_eq_true,decide_eq_true_eq] at hf
   obtain ⟨h1,h2,h3⟩ := hf
   rw [if_neg (by omega),if_neg (by omega),if_neg (by omega),if_pos h3]
   have hf2 : flB person maker r.1 = true := by simp [flB,h1,h2,h3]
   simp only [List.filter_cons,hf2,if_true,List.filter_nil,List.getLast?_append,List.getLast?_singleton,Option.some_or,Option.map_some]
   rw [show ((person,maker) : LK) = mkr r.1 by unfold mkr; rw [h1,h2],Q8]
 | false =>
   simp only [List.filter_cons,hf,Bool.false_eq_true,if_false,List.filter_nil,List.append_nil]
   rw [← ih]
   split
   · rfl
   split
   · rfl
   split
   · rfl
   split
   · next h3 =>
     show Qe (Xc _ _ _) _ = _
     rw [Xg,if_neg]
     intro he
     unfold mkr at he
     injection he with h1 h2
     simp [flB,← h1,← h2] at hf
     omega
   split
   · rfl
   · rfl
theorem Qwr (z:List Ev) (person maker:ByteArray) : Qwq (Xt z) person maker = Qwq z person maker := by
 unfold Qwq Xt
 rw [List.filter_filter]
 have : (fun a => flB person maker a && peB a) = flB person maker := by
  funext a
  cases h : flB person maker a with
  | false => rfl
  | true =>
    simp only [flB,Bool.and_eq_true,Bool.or_eq_true,decide_eq_true_eq] at h
    have : peB a = true := by simp [peB,thB]; omega
    rw [this]; rfl
 rw [this]
def Qbf (fl:List (LK × Bool)) (person:ByteArray) (h:List Ev) : List (ByteArray × Bool) :=
 h.foldl (fun m e => if e.kind = 7 ∧ (Qe fl (person,e.text)).getD false = true then Xc m e.text true else m) []
theorem Qe4 (fl:List (LK × Bool)) (person:ByteArray) (h:List Ev) (e:Ev) : Qbf fl person (h ++ [e]) = if e.kind = 7 ∧ (Qe fl (person,e.text)).getD false = true then Xc (Qbf fl person h) e.text true else Qbf fl person h := by unfold Qbf; rw [List.foldl_append]; rfl
theorem Qmx (fl:List (LK × Bool)) (person:ByteArray) (x:ByteArray) : ∀ h : List Ev,x ∈ (Qbf fl person h).map (·.1) ↔ ∃ e ∈ h,e.kind = 7 ∧ e.text = x ∧ (Qe fl (person,x)).getD false = true := by
 refine Qy (by simp [Qbf]) fun h e ih => ?_
 rw [Qe4]
 split
 · next hc =>
   rw [Qeh]
   constructor
   · intro hx
     have : x = e.text ∨ x ∈ (Qbf fl person h).map (·.1) := by
      split at hx
      · exact .inr hx
      · rcases List.mem_append.1 hx with hx | hx
        · exact .inr hx
        · exact .inl (by simpa using hx)
     rcases this with rfl | hx
     · exact ⟨e,by simp,hc.1,rfl,hc.2⟩
     · obtain ⟨y,hy,h1⟩ := ih.1 hx
       exact ⟨y,by simp [hy],h1⟩
   · rintro ⟨y,hy,h1,rfl,h2⟩
     rcases List.mem_append.1 hy with hy | hy
     · have := ih.2 ⟨y,hy,h1,rfl,h2⟩
       split
       · exact this
       · exact List.mem_append.2 (.inl this)
     · have hy : y = e := by simpa using hy
       subst hy
       split
       · assumption
       · simp
 · next hc =>
   rw [ih]
   constructor
   · rintro ⟨y,hy,h1⟩; exact ⟨y,by simp [hy],h1⟩
   · rintro ⟨y,hy,h1,rfl,h2⟩
     rcases List.mem_append.1 hy with hy | hy
     · exact ⟨y,hy,h1,rfl,h2⟩
     · have hy : y = e := by simpa using hy
       subst hy
       exact absurd ⟨h1,h2⟩ hc
theorem Q5i {rs:List Row} (person maker:ByteArray) : maker ∈ (Qbf (Xj rs).follows person (hist (evs rs) person)).map (·.1) ↔ Qwq (evs rs) person maker = true := by
 rw [Qmx,Qp0]
 unfold Qwq
 cases hl : ((evs rs).filter (flB person maker)).getLast? with
 | none => simp
 | some e =>
   have he := List.mem_of_getLast? hl
   have hm := List.mem_filter.1 he
   have hb := hm.2
   simp only [flB,Bool.and_eq_true,Bool.or_eq_true,decide_eq_true_eq] at hb
   simp only [Option.map_some,Option.getD_some,decide_eq_true_eq]
   constructor
   · rintro ⟨_,_,_,_,h⟩; exact h
   · intro h
     exact ⟨e,List.mem_filter.2 ⟨hm.1,by simpa using hb.1⟩,h,hb.2.1,h⟩
def Qrq (half now:Int) (e:Ev) : Int := Qo e * Qaq (now - e.at_) half
def Qcb (n:Int) (m:List (ByteArray × Int)) (t:ByteArray) : List (ByteArray × Int) := Xc m t (IntKind.i64.wrap ((Qe m t).getD 0 + n))
def Qef (half now:Int) (m:List (ByteArray × Int)) (r:Row) : List (ByteArray × Int) := if now < r.1.at_ then m else r.2.foldl (Qcb (Qrq half now r.1)) m
def Qt9 (half now:Int) (rows:List Row) : List (ByteArray × Int) := rows.foldl (Qef half now) []
theorem Qib (half now:Int) (l:List Row) (r:Row) : Qt9 half now (l ++ [r]) = Qef half now (Qt9 half now l) r := by unfold Qt9; rw [List.foldl_append]; rfl
theorem Qub (n:Int) (m:List (ByteArray × Int)) (l:List ByteArray) (t:ByteArray) : (l ++ [t]).foldl (Qcb n) m = Qcb n (l.foldl (Qcb n) m) t := by rw [List.foldl_append]; rfl
def Q6u (half now:Int) (rows:List Row) : List (ByteArray × Int) := (Qt9 half now rows).filter fun x => decide (0 < x.2)
def rowsOf (rs:List Row) (person:ByteArray) : List Row := rs.filter fun r => decide (r.1.person = person)
theorem Qng {half now:Int} {e:Ev} (hm:Xu e = true) : 0 ≤ Qrq half now e ∧ Qrq half now e ≤ 5242880 := by
 have h1 := Qie hm
 have h2 := Qjr (now - e.at_) half
 unfold Qrq
 refine ⟨Int.mul_nonneg h1.1 h2.1,?_⟩
 have : Qo e * Qaq (now - e.at_) half ≤ 5 * 1048576 := Int.mul_le_mul h1.2 h2.2 h2.1 (by omega)
 omega
theorem Qye (tg:List ByteArray) (n:Int) (l:List (ByteArray × Int)) : ((tg.foldl (Qcb n) l).length) ≤ l.length + tg.length := by
 induction tg generalizing l with
 | nil => simp
 | cons t tg ih =>
   have := ih (Qcb n l t)
   have h2 := Qe1 t (IntKind.i64.wrap ((Qe l t).getD 0 + n)) l
   simp only [List.foldl_cons,List.length_cons]
   unfold Qcb at *
   omega
theorem Qvv (half now:Int) : ∀ rows : List Row,(Qt9 half now rows).length ≤ (rows.map fun r => r.2.length).sum := by
 refine Qy (by simp [Qt9]) fun l r ih => ?_
 rw [Qib,List.map_append,List.sum_append]
 unfold Qef
 split
 · simp; omega
 · have := Qye r.2 (Qrq half now r.1) (Qt9 half now l)
   simp; omega
theorem Qua (n:Int) (tg:List ByteArray) : ∀ l : List (ByteArray × Int),l.Pairwise (fun x y => x.1 ≠ y.1) → (tg.foldl (Qcb n) l).Pairwise (fun x y => x.1 ≠ y.1) := by
 induction tg with
 | nil => intro l h; exact h
 | cons t tg ih => intro l h; exact ih _ (Qbi h)
theorem Q1v (half now:Int) : ∀ rows : List Row,(Qt9 half now rows).Pairwise (fun x y => x.1 ≠ y.1) := by
 refine Qy (by simp [Qt9]) fun l r ih => ?_
 rw [Qib]
 unfold Qef
 split
 · exact ih
 · exact Qua _ _ _ ih
def Qvw (half now:Int) (rows:List Row) (t:ByteArray) : Int := ((rows.filter fun r => decide (r.1.at_ ≤ now) && decide (t ∈ r.2)).map fun r => Qrq half now r.1).sum
theorem Q6e (n:Int) (t:ByteArray) : ∀ (tg:List ByteArray),tg.Nodup → ∀ m : List (ByteArray × Int),(Qe (tg.foldl (Qcb n) m) t) = if t ∈ tg then some (IntKind.i64.wrap ((Qe m t).getD 0 + n)) else Qe m t := by
 intro tg
 induction tg with
 | nil => intro _ m; simp
 | cons a tg ih =>
   intro hn m
   rw [List.nodup_cons] at hn
   rw [List.foldl_cons,ih hn.2]
   unfold Qcb
   by_cases h1 : t = a
   · subst h1
     rw [if_neg hn.1,Xg,if_pos rfl,if_pos (by simp)]
   · rw [Xg,if_neg h1]
     by_cases h2 : t ∈ tg
     · rw [if_pos h2,if_pos (by simp [h2])]
     · rw [if_neg h2,if_neg (by simp [h1,h2])]
theorem Q1w (half now:Int) (t:ByteArray) : ∀ rows : List Row,(∀ r ∈ rows,Xu r.1 = true ∧ r.2.Nodup) → rows.length < 1000000 → ((Qe (Qt9 half now rows) t).getD 0 = Qvw half now rows t) ∧ 0 ≤ Qvw half now rows t ∧ Qvw half now rows t ≤ rows.length * 5242880 ∧ ((Qe (Qt9 half now rows) t).isSome = true ↔ ∃ r ∈ rows,r.1.at_ ≤ now ∧ t ∈ r.2) := by
 refine Qy (fun _ _ => by simp [Qt9,Qvw,Qe]) fun l r ih h hl => ?_
 have hl' : l.length < 1000000 := by simp at hl; omega
 obtain ⟨i1,i2,i3,i4⟩ := ih (fun x hx => h x (by simp [hx])) hl'
 have hr := h r (by simp)
 have hb := Qng (half := half) (now := now) hr.1
 have hlen : (((l ++ [r]).length : Nat) : Int) = l.length + 1 := by simp
 rw [Qib]
 unfold Qef
 have hS : Qvw half now (l ++ [r]) t = Qvw half now l t + if r.1.at_ ≤ now ∧ t ∈ r.2 then Qrq half now r.1 else 0 := by
  unfold Qvw
  rw [List.filter_append,List.map_append,List.sum_append]
  by_cases hc : r.1.at_ ≤ now ∧ t ∈ r.2
  · simp [hc.1,hc.2]
  · have : (decide (r.1.at_ ≤ now) && decide (t ∈ r.2)) = false := by
     rw [Bool.and_eq_false_iff]
     by_cases h1 : r.1.at_ ≤ now
     · exact .inr (by simpa using fun h2 => hc ⟨h1,h2⟩)
     · exact .inl (by simpa using h1)
    rw [if_neg hc]
    simp [this]
 rw [hS]
 by_cases hnow : now < r.1.at_
 · rw [if_pos hnow,if_neg (by omega)]
   refine ⟨by rw [i1]; omega,by omega,by rw [hlen,Int.add_mul]; omega,i4.trans ⟨?_,?_⟩⟩
   · rintro ⟨x,hx,h1⟩; exact ⟨x,by simp [hx],h1⟩
   · rintro ⟨x,hx,h1,h2⟩
     rcases List.mem_append.1 hx with hx | hx
     · exact ⟨x,hx,h1,h2⟩
     · have : x = r := by simpa using hx
       subst this; omega
 · rw [if_neg hnow,Q6e _ _ _ hr.2]
   by_cases ht : t ∈ r.2
   · rw [if_pos ht,if_pos ⟨by omega,ht⟩,i1]
     refine ⟨?_,by omega,by rw [hlen,Int.add_mul]; omega,by simp only [Option.isSome_some,true_iff]; exact ⟨r,by simp,by omega,ht⟩⟩
     simp only [Option.getD_some]
     exact (wrap_eq rfl ⟨by omega,by omega⟩).symm
   · rw [if_neg ht,if_neg (fun hc => ht hc.2)]
     refine ⟨by rw [i1]; omega,by omega,by rw [hlen,Int.add_mul]; omega,i4.trans ⟨?_,?_⟩⟩
     · rintro ⟨x,hx,h1⟩; exact ⟨x,by simp [hx],h1⟩
     · rintro ⟨x,hx,h1,h2⟩
       rcases List.mem_append.1 hx with hx | hx
       · exact ⟨x,hx,h1,h2⟩
       · have : x = r := by simpa using hx
         subst this; exact absurd h2 ht
theorem Q51 (width:Int) : ∀ l : List Ev,(Qyp width l).Pairwise (fun x y => x.1 ≠ y.1) := by
 refine Qy (by simp [Qyp]) fun l e ih => ?_
 rw [Qs4]
 unfold Qon
 split
 · exact ih
 · exact Qbi ih
theorem Qjp {α:Type} (f:α → Int) : ∀ {l:List α},(∀ x ∈ l,f x = 0) → (l.map f).sum = 0
 | [],_ => rfl
 | x :: l,h => by
   have h1 := h x (by simp)
   have h2 := Qjp f (l := l) fun y hy => h y (by simp [hy])
   simp [h1,h2]
theorem Qbx {κ β:Type} [DecidableEq κ] (x:κ × β) (l:List (κ × β)) (k:κ) : Qe (x :: l) k = if k = x.1 then some x.2 else Qe l k := rfl
theorem Qlj {s:Qao} {key:ByteArray} {lo hi:Int} (h:hi ≤ lo) : paS s key lo hi = 0 := by
 unfold paS
 have : (s.filter fun x => decide (x.1.1 = key) && (decide (lo ≤ x.1.2) && decide (x.1.2 < hi))) = [] := by
  rw [List.filter_eq_nil_iff]
  intro x _
  simp
  omega
 rw [this]; rfl
theorem Qoj (x:PK × Int) (s:Qao) (key:ByteArray) (lo hi:Int) : paS (x :: s) key lo hi = (if x.1.1 = key ∧ lo ≤ x.1.2 ∧ x.1.2 < hi then x.2 else 0) + paS s key lo hi := by
 unfold paS
 rw [List.filter_cons]
 by_cases h : x.1.1 = key ∧ lo ≤ x.1.2 ∧ x.1.2 < hi
 · rw [if_pos (by simp [h.1,h.2.1,h.2.2]),if_pos h]; simp
 · rw [if_neg (by simpa using h),if_neg h]; omega
theorem Q3e {s:Qao} (hp:s.Pairwise (fun x y => x.1 ≠ y.1)) (key:ByteArray) (lo hi:Int) (h:lo ≤ hi) : paS s key lo (hi + 1) = paS s key lo hi + (Qe s (key,hi)).getD 0 := by
 induction s with
 | nil => simp [paS,Qe]
 | cons x s ih =>
   rw [List.pairwise_cons] at hp
   have ih := ih hp.2
   rw [Qoj,Qoj,ih,Qbx]
   by_cases hk : (key,hi) = x.1
   · rw [if_pos hk]
     have h0 : Qe s (key,hi) = none := Qdc.2 fun y hy => by rw [hk]; exact fun e => hp.1 y hy e.symm
     rw [h0,if_pos (by rw [← hk]; simp; omega),if_neg (by rw [← hk]; simp)]
     simp
     omega
   · rw [if_neg hk]
     have : (x.1.1 = key ∧ lo ≤ x.1.2 ∧ x.1.2 < hi + 1) ↔ (x.1.1 = key ∧ lo ≤ x.1.2 ∧ x.1.2 < hi) := by
      constructor
      · rintro ⟨h1,h2,h3⟩
        refine ⟨h1,h2,?_⟩
        have : x.1.2 ≠ hi := fun e => hk (by rw [← h1,← e])
        omega
      · rintro ⟨h1,h2,h3⟩; exact ⟨h1,h2,by omega⟩
     by_cases hc : x.1.1 = key ∧ lo ≤ x.1.2 ∧ x.1.2 < hi
     · rw [if_pos hc,if_pos (this.2 hc)]; omega
     · rw [if_neg hc,if_neg (fun h => hc (this.1 h))]; omega
def Q18 (s:Qao) (key:ByteArray) (lo hi:Int) (row:List Int) : Int := ((row.filter fun n => decide (lo ≤ n) && decide (n < hi)).map fun n => (Qe s (key,n)).getD 0).sum
theorem Q02 (s:Qao) (key:ByteArray) (lo hi:Int) (row:List Int) (n:Int) : Q18 s key lo hi (row ++ [n]) = Q18 s key lo hi row + if lo ≤ n ∧ n < hi then (Qe s (key,n)).getD 0 else 0 := by
 unfold Q18
 rw [List.filter_append,List.map_append,List.sum_append]
 by_cases h : lo ≤ n ∧ n < hi
 · simp [h.1,h.2]
 · rw [if_neg h]
   have : (decide (lo ≤ n) && decide (n < hi)) = false := by simpa using fun h1 => by omega
   simp [this]
theorem Q3o {s:Qao} (hp:s.Pairwise (fun x y => x.1 ≠ y.1)) (key:ByteArray) (lo hi:Int) : Q18 s key lo hi (Qar s key) = paS s key lo hi := by
 unfold Q18 Qar paS
 rw [List.filter_map,List.map_map,List.filter_filter]
 have : (s.filter fun a => (Function.comp (fun n => decide (lo ≤ n) && decide (n < hi)) fun x : PK × Int => x.1.2) a && decide (a.1.1 = key)) = s.filter fun x => decide (x.1.1 = key) && (decide (lo ≤ x.1.2) && decide (x.1.2 < hi)) := by
  apply List.filter_congr
  intro x _
  simp only [Function.comp]
  rw [Bool.and_comm]
 rw [this]
 congr 1
 apply List.map_congr_left
 intro x hx
 have hm := List.mem_filter.1 hx
 have hk : x.1.1 = key := by have := hm.2; simp at this; exact this.1
 simp only [Function.comp]
 rw [← hk,Qep hp (show ((x.1.1,x.1.2),x.2) ∈ s from hm.1)]
 rfl
theorem Qli {s:Qao} {N:Int} (h:Qfh s N) (hN:0 ≤ N) (key:ByteArray) (lo hi:Int) : 0 ≤ paS s key lo hi ∧ paS s key lo hi ≤ s.length * N := by
 have hb := Qdv (fun x:PK × Int => x.2) N (s.filter fun x => decide (x.1.1 = key) && (decide (lo ≤ x.1.2) && decide (x.1.2 < hi))) fun x hx => by
  have := h x (List.mem_filter.1 hx).1
  exact ⟨by omega,this.2⟩
 have hl := List.length_filter_le (fun x:PK × Int => decide (x.1.1 = key) && (decide (lo ≤ x.1.2) && decide (x.1.2 < hi))) s
 unfold paS
 refine ⟨hb.1,Int.le_trans hb.2 (Int.mul_le_mul_of_nonneg_right (by omega) hN)⟩
end Go.Proofs.YtnnnbjjenknpeaaGreatDoor
