/- Several texts in one: Rd3, Pl1, Rd1, Rd2, Pl2, Pl3, Pl4. -/
import Derived.Test.YtopncieoolkhjaaGreatDoorGF
import Derived.Laws.IdiomRangeMap
import Derived.Test.YtopncieoolkhjaaGreatDoorHKeyL
set_option linter.unusedVariables false
set_option linter.unusedSimpArgs false
namespace Go.Proofs.YtopncieoolkhjaaGreatDoor
open Go.Se Go.RowKit
theorem Qit (a b:Int) : IntKind.i64.wrap (IntKind.i64.wrap a + b) = IntKind.i64.wrap (a + b) := by
 simp only [IntKind.wrap,IntKind.bits,IntKind.signed]
 simp
 split <;> split <;> split <;> omega
theorem Qxj (a b:Int) : IntKind.i64.wrap (a + IntKind.i64.wrap b) = IntKind.i64.wrap (a + b) := by
 rw [Int.add_comm,Qit,Int.add_comm]
theorem Q06 : IntKind.i64.wrap 0 = 0 := by decide
def X9 (age half:Int) : Int := if age < 0 then 0 else if 20 < age / max half 1 then 0 else (1048576:Int).fdiv (2 ^ (age / max half 1).toNat)
theorem Qgx (age half:Int) (ha:-4611686018427387904 ≤ age ∧ age ≤ 4611686018427387904) (w:World) :
 Cal Tryz.prog 68 [.int .i64 age,.int .i64 half] w fun r w' => r = .int .i64 (X9 age half) ∧ w' = w := by
 have hm : max half 1 ≠ 0 := by omega
 refine Fi Tryz.func68 rfl _ rfl rfl ?_;conv=>whnf
 constructor
 · intro hc
   have hc : age < 0 := by simpa using hc
   conv=>whnf
   exact ⟨by rw [X9,if_pos hc],rfl⟩
 · intro hc
   have hc : ¬ age < 0 := by simpa using hc
   have h1 : age.tdiv (max half 1) = age / max half 1 := Int.tdiv_eq_ediv_of_nonneg (by omega)
   have h2 : 0 ≤ age / max half 1 := Int.ediv_nonneg (by omega) (by omega)
   have h3 : age / max half 1 ≤ age := Int.ediv_le_self _ (by omega)
   have hw : X9 age half = if 20 < age / max half 1 then 0 else (1048576:Int).fdiv (2 ^ (age / max half 1).toNat) := by rw [X9,if_neg hc]
   rw [hw]
   clear hw
   conv=>whnf
   refine ⟨age / max half 1,⟨hm,wrap_eq h1.symm ⟨by omega,by omega⟩⟩,?_⟩;conv=>whnf
   generalize age / max half 1 = n at h2 h3 ⊢
   constructor
   · intro hn
     have hn : 20 < n := by simpa using hn
     conv=>whnf
     exact ⟨by rw [if_pos hn],rfl⟩
   · intro hn
     have hn : ¬ 20 < n := by simpa using hn
     have hmin : min n.toNat IntKind.i64.bits = n.toNat := by simp only [IntKind.bits]; omega
     conv=>whnf
     refine ⟨(1048576:Int).fdiv (2 ^ n.toNat),⟨h2,by rw [hmin]⟩,?_⟩;conv=>whnf
     exact ⟨by rw [if_neg hn],rfl⟩
def Qlx (half now:Int) (r:List (Int × Int)) : Int := (r.map fun x => x.2 * X9 (now - x.1) half).sum
theorem Qup {l m:List Int} (h:l.Perm m) : l.sum = m.sum := by
 induction h with
 | nil => rfl
 | cons a _ ih => simp [ih]
 | swap a b l => simp only [List.sum_cons]; omega
 | trans _ _ h1 h2 => exact h1.trans h2
theorem Qw3 {half now:Int} {r s:List (Int × Int)} (h:r.Perm s) : Qlx half now r = Qlx half now s := Qup (h.map _)
def Qgl (s:Qq6) (half:Int) (key:ByteArray) (now:Int) : Int := IntKind.i64.wrap (Qlx half now ((Qe s key).getD []))
theorem Qzp {P:Program} {w:World} {mt kt et:TypeId} (ht:P.underlying mt = some (.map kt et)) {R:Value → World → Prop}
 (h:∀ w',Ext w w' → w'.heap[w.heap.size]? = some (.mapIter none 0 #[] 0) → R (.pointer (some ⟨w.heap.size,0,none⟩)) w') : Qjs P (Instr.range mt (.map none)) w R := by
 refine ⟨_,_,Go.run_range_nilMap w mt kt et ht,h _ ((Below.refl _ _).alloc (Nat.le_refl _) _) (heap_alloc_new w _)⟩
theorem Q16 {P:Program} {w:World} {r:Nat} {a b:Nat} {s:Array Nat} {ty:TypeId} (hr:w.heap[r]? = some (.mapIter none a s b)) {R:Value → World → Prop} (h:R (.tuple #[.bool false]) w) : Qjs P (Instr.next (.pointer (some ⟨r,0,none⟩)) false ty) w R := by
 refine ⟨_,_,?_,h⟩
 simp only [Instr.next,getObj,Sem.run_bind,Sem.run,hr,Result.andThen]
 rfl
theorem Qxh {vs L:List (Int × Int)} (h:(Xw vi vs).Perm (Xw vi L)) : vs.Perm L := by
 have h1 := h.map (fun x:Int × Value => (x.1,match x.2 with | .int _ n => n | _ => 0))
 simpa [Xw,List.map_map,Function.comp_def,vi] using h1
theorem Qvo (w:World) (S:Nat → Prop) (p:Nat) (half n:Int) (s:Qq6) (h:Qti w S p half n s) (key:ByteArray) (now:Int) (hnow:0 ≤ now ∧ now ≤ 1099511627776) (ht:∀ r,Qe s key = some r → ∀ x ∈ r,0 ≤ x.1 ∧ x.1 ≤ 1099511627776) :
 Cal Tryz.prog 27 [.pointer (some ⟨p,0,none⟩),.string key,.int .i64 now] w fun r w' => r = .int .i64 (Qgl s half key now) ∧ Ext w w' := by
 obtain ⟨bm,h⟩ := h
 have hplt := h.head.lt
 have hhead := h.head
 refine Fi Tryz.func27 rfl _ rfl rfl ?_;conv=>whnf
 constructor
 · intro hc
   have hc : now < 0 := by simpa using hc
   omega
 intro _
 conv=>whnf
 refine ⟨.map (some bm),h.head.one rfl,?_⟩;conv=>whnf
 rcases h.sums.look Xx Q24 (Qq Xg) (e := ty141) ty141_ok rfl key with ⟨hno,hrd⟩ | ⟨b,m,Sk,hsome,hrd,hIv,hSk,_⟩
 · have hres : Qgl s half key now = 0 := by unfold Qgl; rw [hno]; exact Q06
   rw [hres]
   refine ⟨_,hrd .same Qo,?_⟩;conv=>whnf
   refine Qzp Qxf fun w2 hx2 hr2 => ?_
   generalize w.heap.size = r at hr2 ⊢
   conv=>whnf
   refine Qj Qa (fun (_:Unit) w' => w' = w2) (fun _ => [(19,.pointer (some ⟨r,0,none⟩)),(7,.int .i64 0)]) (fun _ => 0) () rfl ⟨rfl,rfl,trivial⟩ ?_
   rintro _ w3 rfl
   conv=>whnf
   refine Q16 hr2 ?_
   conv=>whnf
   constructor
   · intro hh; cases hh
   intro _
   conv=>whnf
   exact ⟨rfl,hx2⟩
 · have hm := hIv.2
   have ht := ht m hsome
   have hres : Qgl s half key now = IntKind.i64.wrap (Qlx half now m) := by unfold Qgl; rw [hsome]; rfl
   rw [hres]
   refine ⟨_,hrd .same Qo,?_⟩;conv=>whnf
   refine map_range Qxf hm fun w3 hi3 hx3 => ?_
   have hrw : w.heap.size ≤ w.heap.size := Nat.le_refl _
   generalize hr : w.heap.size = r at hi3 ⊢
   conv=>whnf
   refine Qj Qa (fun (q:List (Int × Int) × Int) w' => Ext w w' ∧ Iter w' r b vi (Xw vi m) (Xw vi q.1) ∧ q.2 = IntKind.i64.wrap (Qlx half now q.1))
    (fun | (vs,z) => [(0,.pointer (some ⟨p,0,none⟩)),(2,.int .i64 now),(19,.pointer (some ⟨r,0,none⟩)),(7,.int .i64 z)]) (fun q => m.length - q.1.length) ([],0) ⟨hx3,hi3,Q06.symm⟩ ⟨rfl,rfl,rfl,rfl,trivial⟩ ?_
   clear hi3 hx3
   rintro ⟨vs,z⟩ w4 ⟨hx4,hi4,hz⟩
   simp only at hi4 hz
   conv=>whnf
   refine Qf2 hi4 (fun hp => ?_) (fun x w5 hin hnew hlt hi5 ho5 hen => ?_)
   · have hp := Qxh hp
     conv=>whnf
     constructor
     · intro hh; cases hh
     intro _
     conv=>whnf
     exact ⟨by rw [hz,Qw3 hp],hx4⟩
   · obtain ⟨y,hy,rfl⟩ := List.mem_map.1 hin
     have hlt : vs.length < m.length := by simpa [Xw] using hlt
     have hvs : Xw vi vs ++ [(y.1,vi y.2)] = Xw vi (vs ++ [y]) := by simp [Xw]
     rw [hvs] at hi5
     have hx5 := ho5.ext hx4 (by omega)
     have hty := ht y hy
     have hsn : IntKind.i64.wrap (Qlx half now (vs ++ [y])) = IntKind.i64.wrap (z + IntKind.i64.wrap (y.2 * X9 (now - y.1) half)) := by
      rw [hz,Qit,Qxj]
      simp [Qlx]
     conv=>whnf
     constructor
     · intro _
       conv=>whnf
       refine Qbg (hen w5 rfl rfl) ?_
       conv=>whnf
       refine ⟨now - y.1,wrap_eq rfl ⟨by omega,by omega⟩,?_⟩;conv=>whnf
       refine ⟨_,(hhead.ext hx5).one rfl,?_⟩;conv=>whnf
       refine (Qgx (now - y.1) half ⟨by omega,by omega⟩ w5).mono ?_
       rintro _ _ ⟨rfl,rfl⟩
       conv=>whnf
       refine ⟨_,rfl,?_⟩;conv=>whnf
       refine ⟨_,rfl,?_⟩;conv=>whnf
       exact ⟨(vs ++ [y],_),by simp; omega,⟨hx5,hi5,hsn.symm⟩,⟨rfl,rfl,rfl,rfl,trivial⟩⟩
     · intro hh; cases hh
instance memDec (a:ByteArray) (l:List ByteArray) : Decidable (a ∈ l) := decidable_of_iff (l.any (fun b => decide (b = a)) = true) (by simp)
def wpB (e:Ev) : Bool := decide (0 < Qr e)
theorem Q5j {e:Ev} (h:wpB e = true) : e.kind = 1 ∨ e.kind = 2 ∨ e.kind = 3 ∨ e.kind = 4 := by
 have h : 0 < Qr e := by simpa [wpB] using h
 unfold Qr at h
 by_cases h1 : e.kind = 1
 · exact .inl h1
 by_cases h2 : e.kind = 2
 · exact .inr (.inl h2)
 by_cases h3 : e.kind = 3
 · exact .inr (.inr (.inl h3))
 by_cases h4 : e.kind = 4
 · exact .inr (.inr (.inr h4))
 rw [if_neg h1,if_neg h2,if_neg h3,if_neg h4] at h
 omega
def Qyd (l:List Ev) : Qq6 := l.foldl (fun s e => Qou s e.item e.at_ (Qr e)) []
def Qxp (width:Int) (l:List Ev) : X8 := l.foldl (fun s e => Qn6 s (e.item,e.at_ / Q7 width) (Qr e)) []
def Qgf (l:List Ev) : Ses := l.foldl (fun s e => Q09 s e.person e.at_ e.item) []
theorem Qrq (l:List Ev) (e:Ev) : Qyd (l ++ [e]) = Qou (Qyd l) e.item e.at_ (Qr e) := by unfold Qyd; rw [List.foldl_append]; rfl
theorem Qsd (width:Int) (l:List Ev) (e:Ev) : Qxp width (l ++ [e]) = Qn6 (Qxp width l) (e.item,e.at_ / Q7 width) (Qr e) := by unfold Qxp; rw [List.foldl_append]; rfl
theorem Qsz (l:List Ev) (e:Ev) : Qgf (l ++ [e]) = Q09 (Qgf l) e.person e.at_ e.item := by unfold Qgf; rw [List.foldl_append]; rfl
theorem Qjd (width:Int) (z:List Ev) : (Qm width z).ds = Qyd (z.filter wpB) ∧ (Qm width z).ps = Qxp width (z.filter wpB) ∧ (Qm width z).ss = Qgf (z.filter wpB) := by
 induction z using Qv with
 | h0 => exact ⟨rfl,rfl,rfl⟩
 | h1 l a ih =>
   rw [Qbk,List.filter_append]
   unfold Qcs
   cases hw : wpB a with
   | true =>
     have hk := Q5j hw
     have h0 : 0 < Qr a := by simpa [wpB] using hw
     have e1 : [a].filter wpB = [a] := by simp [hw]
     rw [e1,Qrq,Qsd,Qsz,if_neg (by omega),if_neg (by omega),if_pos h0,← ih.1,← ih.2.1,← ih.2.2]
     exact ⟨rfl,rfl,rfl⟩
   | false =>
     have h0 : ¬ 0 < Qr a := by simpa [wpB] using hw
     have e1 : [a].filter wpB = [] := by simp [hw]
     rw [e1,List.append_nil,← ih.1,← ih.2.1,← ih.2.2]
     split
     · exact ⟨rfl,rfl,rfl⟩
     split
     · exact ⟨rfl,rfl,rfl⟩
     exact ⟨rfl,rfl,rfl⟩
def Q3i (l:List Ev) (half:Int) (key:ByteArray) (now:Int) : Int := ((l.filter fun e => decide (e.item = key)).map fun e => Qr e * X9 (now - e.at_) half).sum
theorem Quz (f:Int → Int) (t n:Int) : ∀ r : List (Int × Int),((Q3 r t ((Qe r t).getD 0 + n)).map fun x => x.2 * f x.1).sum = (r.map fun x => x.2 * f x.1).sum + n * f t
 | [] => by simp [Q3,Qe]
 | x :: r => by
   have ih := Quz f t n r
   unfold Q3 Qe
   by_cases h : t = x.1
   · rw [if_pos h,if_pos h]
     simp only [Option.getD_some,List.map_cons,List.sum_cons]
     rw [Int.add_mul,h]
     omega
   · rw [if_neg h,if_neg h]
     simp only [List.map_cons,List.sum_cons]
     rw [ih]
     omega
theorem Q51 (half:Int) (key:ByteArray) (now:Int) : ∀ l : List Ev,(∀ e ∈ l,wpB e = true) → Qlx half now ((Qe (Qyd l) key).getD []) = Q3i l half key now := by
 refine Qv (fun _ => by simp [Qyd,Qe,Qlx,Q3i]) fun l e ih h => ?_
 have ih := ih fun x hx => h x (by simp [hx])
 have hw : 0 < Qr e := by simpa [wpB] using h e (by simp)
 rw [Qrq]
 unfold Q3i Qou at *
 rw [if_neg (by omega),List.filter_append,List.map_append,List.sum_append,← ih,Xe]
 by_cases hk : key = e.item
 · subst hk
   rw [if_pos rfl]
   simp only [Option.getD_some]
   have hs := Quz (fun t => X9 (now - t) half) e.at_ (Qr e) ((Qe (Qyd l) e.item).getD [])
   unfold Qlx
   rw [hs]
   simp
 · rw [if_neg hk]
   have : decide (e.item = key) = false := by simp; exact fun h => hk h.symm
   simp [this]
theorem Q1s : ∀ l : List Ev,∀ key r,Qe (Qyd l) key = some r → ∀ x ∈ r,∃ e ∈ l,e.at_ = x.1 ∧ e.item = key := by
 refine Qv (fun key r h => by simp [Qyd,Qe] at h) fun l e ih key r h x hx => ?_
 rw [Qrq] at h
 unfold Qou at h
 split at h
 · obtain ⟨y,hy,h1⟩ := ih key r h x hx
   exact ⟨y,by simp [hy],h1⟩
 · rw [Xe] at h
   by_cases hk : key = e.item
   · rw [if_pos hk] at h
     injection h with h
     subst h
     rcases Qep hx with rfl | hx
     · exact ⟨e,by simp,rfl,hk.symm⟩
     · cases hl : Qe (Qyd l) e.item with
       | none => rw [hl] at hx; simp at hx
       | some r =>
         rw [hl] at hx
         obtain ⟨y,hy,h1⟩ := ih e.item r hl x hx
         exact ⟨y,by simp [hy],h1.1,h1.2.trans hk.symm⟩
   · rw [if_neg hk] at h
     obtain ⟨y,hy,h1⟩ := ih key r h x hx
     exact ⟨y,by simp [hy],h1⟩
theorem Qi6 (age half:Int) : 0 ≤ X9 age half ∧ X9 age half ≤ 1048576 := by
 unfold X9
 split
 · omega
 split
 · omega
 · rw [Int.fdiv_eq_ediv_of_nonneg _ (by exact Int.le_of_lt (Int.pow_pos (by omega)))]
   exact ⟨Int.ediv_nonneg (by omega) (Int.le_of_lt (Int.pow_pos (by omega))),Int.ediv_le_self _ (by omega)⟩
theorem Qdi {α:Type} (f:α → Int) (M:Int) : ∀ l : List α,(∀ x ∈ l,0 ≤ f x ∧ f x ≤ M) → 0 ≤ (l.map f).sum ∧ (l.map f).sum ≤ l.length * M
 | [],_ => by simp
 | x :: l,h => by
   have h1 := h x (by simp)
   have ih := Qdi f M l fun y hy => h y (by simp [hy])
   simp only [List.map_cons,List.sum_cons,List.length_cons]
   have : ((l.length + 1 : Nat) : Int) * M = l.length * M + M := by
    rw [show ((l.length + 1 : Nat) : Int) = (l.length : Int) + 1 by omega,Int.add_mul]; omega
   rw [this]
   omega
theorem Qzl {l:List Ev} (hm:∀ e ∈ l,Xy e = true) (half:Int) (key:ByteArray) (now:Int) : 0 ≤ Q3i l half key now ∧ Q3i l half key now ≤ l.length * 5242880 := by
 have h := Qdi (fun e:Ev => Qr e * X9 (now - e.at_) half) 5242880 (l.filter fun e => decide (e.item = key)) fun e he => by
  have h1 := Qf7 (hm e (List.mem_filter.1 he).1)
  have h2 := Qi6 (now - e.at_) half
  refine ⟨Int.mul_nonneg h1.1 h2.1,?_⟩
  calc Qr e * X9 (now - e.at_) half ≤ 5 * 1048576 := Int.mul_le_mul h1.2 h2.2 h2.1 (by omega)
   _ = 5242880 := by omega
 have hl := List.length_filter_le (fun e:Ev => decide (e.item = key)) l
 unfold Q3i
 refine ⟨h.1,Int.le_trans h.2 ?_⟩
 exact Int.mul_le_mul_of_nonneg_right (by omega) (by omega)
def paE (l:List Ev) (width:Int) (key:ByteArray) (lo hi:Int) : Int := ((l.filter fun e => decide (e.item = key) && (decide (lo ≤ e.at_ / Q7 width) && decide (e.at_ / Q7 width < hi))).map Qr).sum
def paS (s:X8) (key:ByteArray) (lo hi:Int) : Int := ((s.filter fun x => decide (x.1.1 = key) && (decide (lo ≤ x.1.2) && decide (x.1.2 < hi))).map (·.2)).sum
theorem Qun (key:ByteArray) (lo hi:Int) (c:PK) (n:Int) : ∀ s : X8,paS (Q3 s c ((Qe s c).getD 0 + n)) key lo hi = paS s key lo hi + if (decide (c.1 = key) && (decide (lo ≤ c.2) && decide (c.2 < hi))) = true then n else 0
 | [] => by
   unfold paS
   simp only [Q3,Qe,Option.getD_none,Int.zero_add,List.filter_cons,List.filter_nil]
   split <;> simp
 | x :: s => by
   have ih := Qun key lo hi c n s
   unfold paS at *
   unfold Q3 Qe
   by_cases h : c = x.1
   · rw [if_pos h,if_pos h]
     simp only [Option.getD_some,List.filter_cons]
     rw [← h]
     split
     · simp only [List.map_cons,List.sum_cons]; omega
     · simp
   · rw [if_neg h,if_neg h]
     simp only [List.filter_cons]
     split
     · simp only [List.map_cons,List.sum_cons]; rw [ih]; omega
     · exact ih
theorem Q3j (width:Int) (key:ByteArray) (lo hi:Int) : ∀ l : List Ev,(∀ e ∈ l,wpB e = true) → paS (Qxp width l) key lo hi = paE l width key lo hi := by
 refine Qv (fun _ => by simp [Qxp,paS,paE]) fun l e ih h => ?_
 have ih := ih fun x hx => h x (by simp [hx])
 have hw : 0 < Qr e := by simpa [wpB] using h e (by simp)
 rw [Qsd]
 unfold Qn6 paE at *
 rw [if_neg (by omega),Qun,ih,List.filter_append,List.map_append,List.sum_append]
 simp only [List.filter_cons,List.filter_nil]
 split <;> simp
theorem Q2b {l:List Ev} (hm:∀ e ∈ l,Xy e = true) (width:Int) (key:ByteArray) (lo hi:Int) : 0 ≤ paE l width key lo hi ∧ paE l width key lo hi ≤ l.length * 5 := by
 have h := Qdi Qr 5 (l.filter fun e => decide (e.item = key) && (decide (lo ≤ e.at_ / Q7 width) && decide (e.at_ / Q7 width < hi))) fun e he => Qf7 (hm e (List.mem_filter.1 he).1)
 have hl := List.length_filter_le (fun e:Ev => decide (e.item = key) && (decide (lo ≤ e.at_ / Q7 width) && decide (e.at_ / Q7 width < hi))) l
 unfold paE
 refine ⟨h.1,Int.le_trans h.2 ?_⟩
 exact Int.mul_le_mul_of_nonneg_right (by omega) (by omega)
def Xz (l:List ByteArray) : List ByteArray := l.mergeSort fun a b => !bLt b a
theorem Qyx (a b c:ByteArray) (h1:(!bLt b a) = true) (h2:(!bLt c b) = true) : (!bLt c a) = true := by
 rw [Bool.not_eq_true'] at *
 cases h : bLt c a with
 | false => rfl
 | true =>
   cases hab : bLt a b with
   | true => rw [Qa6 h hab] at h2; cases h2
   | false => rw [Qbw hab h1] at h; rw [h] at h2; cases h2
theorem Qyw (a b:ByteArray) : ((!bLt b a) || (!bLt a b)) = true := by
 cases h : bLt b a with
 | false => rfl
 | true => rw [Qca h]; rfl
theorem Qb5 (l:List ByteArray) : (Xz l).Perm l := List.mergeSort_perm _ _
theorem Qhs (l:List ByteArray) : Srt bLt (Xz l) := by
 have := List.pairwise_mergeSort (le := fun a b => !bLt b a) Qyx Qyw l
 exact this.imp fun h => by simpa using h
theorem Qcj {l z:List ByteArray} (hp:z.Perm l) (hs:Srt bLt z) : z = Xz l :=
 List.Perm.eq_of_pairwise (le := fun a b => bLt b a = false) (fun a b _ _ h1 h2 => Qbw h2 h1) hs (Qhs l) (hp.trans (Qb5 l).symm)
theorem Qk7 {l:List ByteArray} {x:ByteArray} : x ∈ Xz l ↔ x ∈ l := (Qb5 l).mem_iff
theorem Qek (l:List ByteArray) : (Xz l).length = l.length := (Qb5 l).length_eq
def Qdo (l:List Int) : List Int := l.mergeSort fun x y => decide (x ≤ y)
theorem Qc5 (l:List Int) : (Qdo l).Perm l := List.mergeSort_perm _ _
theorem Qk5 (l:List Int) : (Qdo l).Pairwise (· ≤ ·) := by
 have := List.pairwise_mergeSort (le := fun x y : Int => decide (x ≤ y)) (fun a b c h1 h2 => by simp at *; omega) (fun a b => by simp; omega) l
 exact this.imp fun h => by simpa using h
theorem Qqi {l z:List Int} (hp:z.Perm l) (hs:z.Pairwise (· ≤ ·)) : z = Qdo l :=
 List.Perm.eq_of_pairwise (le := (· ≤ ·)) (fun a b _ _ h1 h2 => Int.le_antisymm h1 h2) hs (Qk5 l) (hp.trans (Qc5 l).symm)
theorem Qk4 {l:List Int} {x:Int} : x ∈ Qdo l ↔ x ∈ l := (Qc5 l).mem_iff
theorem Qqf (l:List Int) : (Qdo l).length = l.length := (Qc5 l).length_eq
section
open Go.Maps Go.Sort Go.Shelf Go.WideElems
open Go.WideMaps (keyOf_string_mk)
open Go.WideShapes (sorted_perm)
theorem Qt6 {κ:Type} {enc:κ → Value} {P:Program} {k:TypeId} {w:World} {b:Nat} {L:List (κ × Value)} (hm:MapAt w b enc L) (hinj:∀ a b,enc a = enc b → a = b) (lit:κ → Lit) (hk:∀ x ∈ L,keyOf P k (enc x.1) = some (lit x.1)) (hl:L.length ≤ 1000000000) :
 ∃ es : List (Lit × DataW Unit),w.ownsMap P k (fun _ => some (.nil,[])) b L.length (.map es) ∧ es.Perm (L.map fun x => (lit x.1,.nil)) := by
 obtain ⟨E,clock,hE,rfl⟩ := hm
 have hEl : (strip E).length = E.length := by simp [strip]
 have hrd : ∀ x ∈ E,rd (H := Unit) P k (fun _ => some (.nil,[])) (mkE enc x) = some (lit x.1,.nil) := fun x hx =>
  Go.WideElems.rd_mk (P := P) (k := k) (R := fun _ => some (.nil,[])) (val := x.2.1) (born := x.2.2) (yv := (.nil,[])) (hk (x.1,x.2.1) (List.mem_map.2 ⟨x,hx,rfl⟩)) rfl
 refine ⟨_,⟨_,clock,hE.block,⟨?_,⟨?_,?_,?_⟩,?_⟩,?_,rfl⟩,?_⟩
 · rw [hEl] at hl; simp only [List.size_toArray,List.length_map]; unfold maxLen; omega
 · intro x hx
   simp only [List.mem_map] at hx
   obtain ⟨y,hy,rfl⟩ := hx
   exact hE.below y hy
 · simp only [List.map_map]
   rw [List.nodup_iff_pairwise_ne,List.pairwise_map]
   exact hE.rising.imp fun h => by simp only [mkE,Function.comp]; omega
 · simp only [List.map_map]
   rw [List.nodup_iff_pairwise_ne,List.pairwise_map]
   exact hE.keys.imp fun h e => h (hinj _ _ e)
 · intro x hx
   simp only [List.mem_map] at hx
   obtain ⟨y,hy,rfl⟩ := hx
   exact ⟨_,hrd y hy⟩
 · rw [hEl]; simp
 · refine (sorted_perm _).trans ?_
   have : (E.map (mkE enc)).toArray.toList.map (rg (H := Unit) P k (fun _ => some (.nil,[]))) = (strip E).map fun x => (lit x.1,.nil) := by
    simp only [strip,List.map_map]
    exact List.map_congr_left fun x hx => rg_of (hrd x hx)
   rw [this]
theorem Qeg {α:Type} {enc:α → List Value} {sz:Nat} {te:TypeId} {base:Nat} {w:World} {v:Value} {l:List α} {n:Nat} {xs:List Value} (h:w.ownsRow base te sz v n xs) (hn:n = l.length) (hx:xs = l.flatMap enc) :
 ∃ A c,v = .slice A l.length c ∧ Own enc sz te base w A c l := by
 subst hn hx
 unfold Own
 rcases h with ⟨h1,⟨h2,h3⟩ | ⟨g,cap,cur,h2,h3⟩⟩
 · refine ⟨none,0,by rw [h2,h3],h1,.inl ⟨by rw [h3],h3⟩⟩
 · exact ⟨_,cap,h2,h1,.inr ⟨g,cap,cur,rfl,h3⟩⟩
theorem Qg0 {α:Type} {enc:α → List Value} {sz:Nat} {te:TypeId} {b1 b2:Nat} {w:World} {A:Option Addr} {c:Nat} {l:List α} (h:Own enc sz te b1 w A c l) (hb:b2 ≤ b1) : Own enc sz te b2 w A c l := by
 unfold Own at *
 rcases h with ⟨h1,h2 | ⟨g,cap,cur,h2,h3,h4⟩⟩
 · exact ⟨h1,.inl h2⟩
 · exact ⟨h1,.inr ⟨g,cap,cur,h2,by omega,h4⟩⟩
theorem Qhg {α:Type} (f:α → Value) (l:List α) : l.flatMap (fun x => [f x]) = l.map f := by induction l with | nil => rfl | cons a l ih => simp [ih]
theorem Qi5 {P:Program} {ρ6:Ren} (S:SlLaysZ.n6 P ρ6) (hsort:∀ m,AnyZ.SortsIn P ρ6 Fence.wide m) (e9:∀ args w,(callFunc (ρ6.f 9) args).run P w = .ok (.enter (ρ6.f 9) args) w) {g:Nat} {lb:Array Value} (eg:∀ args w,(callFunc g args).run P w = .ok (.enter g args) w)
 (hok:Qra P (ρ6.f 6)) {w:World} {l:List ByteArray} {N:Nat} {Q:List (List UInt8) → Prop} (hQ:∀ ss,Q ss → ss.Perm (l.map fun x => x.data.toList)) (hN:N ≤ 1000000000) (hseq:SeqGives Fence.wide 2 P g lb encStr Q N w) :
 Cal P (ρ6.f 6) [.func (.func g) #[] lb] w fun r w' => ∃ A c,r = .slice A (Xz l).length c ∧ Own Qd3 1 (ρ6.t 26) w.heap.size w' A c (Xz l) ∧ Ext w w' := by
 have hS := AnyZ.sorted_in S Fence.wide 5 trivial trivial trivial trivial rfl (by omega) (hsort _) e9 g lb trivial eg _ N (by unfold maxLen; omega) (by omega) w hseq
 refine ⟨hok,(callsIn_wide.1 hS).mono ?_⟩
 rintro e w' ⟨v,ss,rfl,hp,hrow,_,hb⟩
 have hkeys := hQ ss hp
 have hz : (ss.mergeSort fun x y => decide (x ≤ y)).map (fun x => (⟨x.toArray⟩ : ByteArray)) = Xz l := by
  apply Qcj
  · have h1 := (List.mergeSort_perm ss fun x y => decide (x ≤ y)).trans hkeys
    have h2 := h1.map (fun x => (⟨x.toArray⟩ : ByteArray))
    simpa [List.map_map,Function.comp_def] using h2
  · unfold Srt
    rw [List.pairwise_map]
    have := List.pairwise_mergeSort (le := fun x y : List UInt8 => decide (x ≤ y)) (fun a b c h1 h2 => by simp only [decide_eq_true_eq] at *; exact List.le_trans h1 h2) (fun a b => by simp only [Bool.or_eq_true,decide_eq_true_eq]; exact List.le_total a b) ss
    refine this.imp fun {a b} h => ?_
    simp only [decide_eq_true_eq] at h
    unfold bLt
    rw [ByteArray.toList_eq,ByteArray.toList_eq,bytesLess_eq]
    simpa using h
 obtain ⟨A,c,hv,ho⟩ := Qeg (enc := Qd3) (l := Xz l) hrow (by rw [← hz]; simp) (by
  rw [← hz,show Qd3 = fun x => [Value.string x] from rfl,Qhg,List.map_map]; rfl)
 exact ⟨v,rfl,A,c,hv,ho,hb⟩
theorem Qi4 {P:Program} {ρ6:Ren} (S:SlLaysZI.n6 P ρ6) (hsort:∀ m,AnyZI.SortsIn P ρ6 Fence.wide m) (e9:∀ args w,(callFunc (ρ6.f 9) args).run P w = .ok (.enter (ρ6.f 9) args) w) {g:Nat} {lb:Array Value} (eg:∀ args w,(callFunc g args).run P w = .ok (.enter g args) w)
 (hok:Qra P (ρ6.f 6)) {w:World} {l:List Int} {N:Nat} {Q:List Int → Prop} (hQ:∀ ss,Q ss → ss.Perm l) (hN:N ≤ 1000000000) (hseq:SeqGives Fence.wide 2 P g lb (Value.int .i64) Q N w) :
 Cal P (ρ6.f 6) [.func (.func g) #[] lb] w fun r w' => ∃ A c,r = .slice A (Qdo l).length c ∧ Own Qjh 1 (ρ6.t 26) w.heap.size w' A c (Qdo l) ∧ Ext w w' := by
 have hS := AnyZI.sorted_in S Fence.wide 5 trivial trivial trivial trivial rfl (by omega) (hsort _) e9 g lb trivial eg _ N (by unfold maxLen; omega) (by omega) w hseq
 refine ⟨hok,(callsIn_wide.1 hS).mono ?_⟩
 rintro e w' ⟨v,ss,rfl,hp,hrow,_,hb⟩
 have hz : (ss.mergeSort fun x y => decide (x ≤ y)) = Qdo l := Qqi ((Qc5 ss).trans (hQ ss hp)) (Qk5 ss)
 obtain ⟨A,c,hv,ho⟩ := Qeg (enc := Qjh) (l := Qdo l) hrow (by rw [← hz]; simp) (by
  rw [← hz,show Qjh = fun x => [Value.int .i64 x] from rfl,Qhg])
 exact ⟨v,rfl,A,c,hv,ho,hb⟩
theorem Qpu {P:Program} {ρ7:Ren} (K:SlLaysZ.n10 P ρ7) {w:World} {Bm b:Nat} {L:List (ByteArray × Value)} (hc:w.cell? ⟨Bm,0,none⟩ = some (.map (some b))) (hm:MapAt w b Value.string L) (hk:∀ x ∈ L,x.1.size ≤ 1000000) (hl:L.length ≤ 1000000000) :
 ∃ N Q,N ≤ 1000000000 ∧ (∀ ss : List (List UInt8),Q ss → ss.Perm ((L.map (·.1)).map fun x => x.data.toList)) ∧ SeqGives Fence.wide 2 P (ρ7.f 10) #[.pointer (some ⟨Bm,0,none⟩)] encStr Q N w := by
 obtain ⟨es,hown,hes⟩ := Qt6 (P := P) (k := ρ7.t 26) hm (fun a b e => by simpa using e) (fun x => .string x.data.toList) (fun x hx => keyOf_string_mk K.t26 (by have := hk x hx; unfold maxLen; omega)) hl
 have hsz : Maps.size (.map es) = L.length := by
  have := hes.length_eq
  simp at this
  simpa [Maps.size] using this
 refine ⟨_,_,?_,fun ss hp => ?_,AnyZ.keys_gives K Fence.wide 2 trivial rfl (by omega) Bm b _ _ w (cell_lt hc) hc hown⟩
 · rw [hsz]; exact hl
 · refine hp.trans ?_
   simp only [strKeys]
   refine (hes.map _).trans ?_
   rw [List.map_map,List.map_map]
   exact List.Perm.refl _
theorem Qys {P:Program} {ρ7:Ren} (K:SlLaysZI.n10 P ρ7) {w:World} {Bm b:Nat} {L:List (Int × Value)} (hc:w.cell? ⟨Bm,0,none⟩ = some (.map (some b))) (hm:MapAt w b vi L) (hk:∀ x ∈ L,0 ≤ x.1 ∧ x.1 ≤ 4611686018427387904) (hl:L.length ≤ 1000000000) :
 ∃ N Q,N ≤ 1000000000 ∧ (∀ ss : List Int,Q ss → ss.Perm (L.map (·.1))) ∧ SeqGives Fence.wide 2 P (ρ7.f 10) #[.pointer (some ⟨Bm,0,none⟩)] (Value.int .i64) Q N w := by
 obtain ⟨es,hown,hes⟩ := Qt6 (P := P) (k := ρ7.t 26) hm (fun a b e => by simpa [vi] using e) (fun x => .int .i64 x) (fun x hx => keyOf_int_mk K.t26 (by
  have := hk x hx
  simp only [Lit.wf,Bool.and_eq_true,decide_eq_true_eq,show IntKind.i64.min = -9223372036854775808 from by decide,show IntKind.i64.max = 9223372036854775807 from by decide]
  omega)) hl
 have hsz : Maps.size (.map es) = L.length := by
  have := hes.length_eq
  simp at this
  simpa [Maps.size] using this
 refine ⟨_,_,?_,fun ss hp => ?_,AnyZI.keys_gives K Fence.wide 2 trivial rfl (by omega) Bm b _ _ w (cell_lt hc) hc hown⟩
 · rw [hsz]; exact hl
 · refine hp.trans ?_
   simp only [intKeys]
   refine (hes.map _).trans ?_
   rw [List.map_map]
   exact List.Perm.refl _
theorem Qui (w:World) (v:Value) (t:TypeId) : (w.alloc (.cells #[v] t)).cell? ⟨w.heap.size,0,none⟩ = some v := by
 exact cell_one_new w v t 0 v rfl
theorem Qpt {P:Program} {ρ7:Ren} (K:SlLaysZ.n7 P ρ7) (hok:Qra P (ρ7.f 7)) (mb:Option Nat) (w:World) :
 Cal P (ρ7.f 7) [.map mb] w fun r w' => r = .func (.func (ρ7.f 10)) #[] #[.pointer (some ⟨w.heap.size,0,none⟩)] ∧ w'.cell? ⟨w.heap.size,0,none⟩ = some (.map mb) ∧ Ext w w' := by
 refine ⟨hok,(callsIn_wide.1 (AnyZ.keys_in K Fence.wide 5 trivial rfl mb w)).mono ?_⟩
 rintro e w' ⟨rfl,rfl⟩
 exact ⟨_,rfl,rfl,Qui _ _ _,(Below.refl _ _).alloc (Nat.le_refl _) _⟩
theorem Qyr {P:Program} {ρ7:Ren} (K:SlLaysZI.n7 P ρ7) (hok:Qra P (ρ7.f 7)) (mb:Option Nat) (w:World) :
 Cal P (ρ7.f 7) [.map mb] w fun r w' => r = .func (.func (ρ7.f 10)) #[] #[.pointer (some ⟨w.heap.size,0,none⟩)] ∧ w'.cell? ⟨w.heap.size,0,none⟩ = some (.map mb) ∧ Ext w w' := by
 refine ⟨hok,(callsIn_wide.1 (AnyZI.keys_in K Fence.wide 5 trivial rfl mb w)).mono ?_⟩
 rintro e w' ⟨rfl,rfl⟩
 exact ⟨_,rfl,rfl,Qui _ _ _,(Below.refl _ _).alloc (Nat.le_refl _) _⟩
end
end Go.Proofs.YtopncieoolkhjaaGreatDoor
namespace Go.Proofs.YtopncieoolkhjaaGreatDoor
open Go.Se Go.RowKit
open Go.Maps Go.Sort Go.Shelf
theorem Qk8 : Xz [] = [] := by simp [Xz]
theorem Qqg : Qdo [] = [] := by simp [Qdo]
theorem Q3r (m:Nat) : AnyZ.SortsIn Tryz.prog Tryz.sorted78_ren Fence.wide m :=
 ⟨fun blk off cap ss W h1 h2 h3 => callsIn_wide.2 (AnyM.slices_Sort_string Tryz.sort138 blk off cap ss W h1 h2 h3),fun p cap W => callsIn_wide.2 (AnyM.slices_Sort_string_none Tryz.sort138 p cap W)⟩
theorem Q3q (m:Nat) : AnyZI.SortsIn Tryz.prog Tryz.sorted142_ren Fence.wide m :=
 ⟨fun blk off cap ss W h1 h2 h3 => callsIn_wide.2 (AnyM.slices_Sort_int Tryz.sort195 blk off cap ss W h1 h2 h3),fun p cap W => callsIn_wide.2 (AnyM.slices_Sort_int_none Tryz.sort195 p cap W)⟩
theorem Qme (mb:Option Nat) (w:World) : Cal Tryz.prog 141 [.map mb] w fun r w' => r = .func (.func 193) #[] #[.pointer (some ⟨w.heap.size,0,none⟩)] ∧ w'.cell? ⟨w.heap.size,0,none⟩ = some (.map mb) ∧ Ext w w' :=
 Qpt Tryz.keys141 ⟨_,Tryz.func141,rfl,rfl⟩ mb w
theorem Qi3 {w:World} {Bm b:Nat} {L:List (ByteArray × Value)} (hc:w.cell? ⟨Bm,0,none⟩ = some (.map (some b))) (hm:MapAt w b Value.string L) (hk:∀ x ∈ L,x.1.size ≤ 1000000) (hl:L.length ≤ 1000000000) :
 Cal Tryz.prog 78 [.func (.func 193) #[] #[.pointer (some ⟨Bm,0,none⟩)]] w fun r w' => ∃ A c,r = .slice A (Xz (L.map (·.1))).length c ∧ Own Qd3 1 9 w.heap.size w' A c (Xz (L.map (·.1))) ∧ Ext w w' := by
 obtain ⟨N,Q,h1,h2,h3⟩ := Qpu { Tryz.keys141 with } hc hm hk hl
 exact Qi5 Tryz.sorted78 Q3r (enters_of Tryz.func138 (by kernel_rfl) rfl) (enters_of Tryz.func193 (by kernel_rfl) rfl) ⟨_,Tryz.func78,rfl,rfl⟩ h2 h1 h3
theorem Qv5 (mb:Option Nat) (w:World) : Cal Tryz.prog 79 [.map mb] w fun r w' => r = .func (.func 139) #[] #[.pointer (some ⟨w.heap.size,0,none⟩)] ∧ w'.cell? ⟨w.heap.size,0,none⟩ = some (.map mb) ∧ Ext w w' :=
 Qpt Tryz.keys79 ⟨_,Tryz.func79,rfl,rfl⟩ mb w
theorem Qqm {w:World} {Bm b:Nat} {L:List (ByteArray × Value)} (hc:w.cell? ⟨Bm,0,none⟩ = some (.map (some b))) (hm:MapAt w b Value.string L) (hk:∀ x ∈ L,x.1.size ≤ 1000000) (hl:L.length ≤ 1000000000) :
 Cal Tryz.prog 78 [.func (.func 139) #[] #[.pointer (some ⟨Bm,0,none⟩)]] w fun r w' => ∃ A c,r = .slice A (Xz (L.map (·.1))).length c ∧ Own Qd3 1 9 w.heap.size w' A c (Xz (L.map (·.1))) ∧ Ext w w' := by
 obtain ⟨N,Q,h1,h2,h3⟩ := Qpu { Tryz.keys79 with } hc hm hk hl
 exact Qi5 Tryz.sorted78 Q3r (enters_of Tryz.func138 (by kernel_rfl) rfl) (enters_of Tryz.func139 (by kernel_rfl) rfl) ⟨_,Tryz.func78,rfl,rfl⟩ h2 h1 h3
theorem Qmf (mb:Option Nat) (w:World) : Cal Tryz.prog 143 [.map mb] w fun r w' => r = .func (.func 196) #[] #[.pointer (some ⟨w.heap.size,0,none⟩)] ∧ w'.cell? ⟨w.heap.size,0,none⟩ = some (.map mb) ∧ Ext w w' :=
 Qyr Tryz.keys143 ⟨_,Tryz.func143,rfl,rfl⟩ mb w
theorem Qql {w:World} {Bm b:Nat} {L:List (Int × Value)} (hc:w.cell? ⟨Bm,0,none⟩ = some (.map (some b))) (hm:MapAt w b vi L) (hk:∀ x ∈ L,0 ≤ x.1 ∧ x.1 ≤ 4611686018427387904) (hl:L.length ≤ 1000000000) :
 Cal Tryz.prog 142 [.func (.func 196) #[] #[.pointer (some ⟨Bm,0,none⟩)]] w fun r w' => ∃ A c,r = .slice A (Qdo (L.map (·.1))).length c ∧ Own Qjh 1 3 w.heap.size w' A c (Qdo (L.map (·.1))) ∧ Ext w w' := by
 obtain ⟨N,Q,h1,h2,h3⟩ := Qys { Tryz.keys143 with } hc hm hk hl
 exact Qi4 Tryz.sorted142 Q3q (enters_of Tryz.func195 (by kernel_rfl) rfl) (enters_of Tryz.func196 (by kernel_rfl) rfl) ⟨_,Tryz.func142,rfl,rfl⟩ h2 h1 h3
theorem Qsu {w:World} {Bm:Nat} (hc:w.cell? ⟨Bm,0,none⟩ = some (.map none)) :
 Cal Tryz.prog 142 [.func (.func 196) #[] #[.pointer (some ⟨Bm,0,none⟩)]] w fun r w' => ∃ A c,r = .slice A 0 c ∧ Own Qjh 1 3 w.heap.size w' A c [] ∧ Ext w w' := by
 have := Qi4 Tryz.sorted142 Q3q (enters_of Tryz.func195 (by kernel_rfl) rfl) (enters_of Tryz.func196 (by kernel_rfl) rfl) ⟨_,Tryz.func142,rfl,rfl⟩ (l := []) (fun ss (h:ss = []) => by rw [h]) (Nat.zero_le _) (AnyZI.keys_gives_nil { Tryz.keys143 with } Fence.wide 2 trivial rfl Bm w (cell_lt hc) hc)
 simp only [Qk8,Qqg,List.length_nil] at this
 exact this
end Go.Proofs.YtopncieoolkhjaaGreatDoor
namespace Go.Proofs.YtopncieoolkhjaaGreatDoor
open Go.Se Go.RowKit
def Qyc : List ByteArray → List ByteArray
 | [] => []
 | a :: l => if a ∈ l then Qyc l else a :: Qyc l
theorem Qfw {x:ByteArray} : ∀ {l:List ByteArray},x ∈ Qyc l ↔ x ∈ l
 | [] => Iff.rfl
 | a :: l => by
   have ih := Qfw (x := x) (l := l)
   unfold Qyc
   split
   · next h =>
     rw [ih,List.mem_cons]
     constructor
     · exact .inr
     · rintro (rfl | h1)
       · exact h
       · exact h1
   · rw [List.mem_cons,List.mem_cons,ih]
theorem Qd9 : ∀ l : List ByteArray,(Qyc l).Nodup
 | [] => List.nodup_nil
 | a :: l => by
   have ih := Qd9 l
   unfold Qyc
   split
   · exact ih
   · next h => exact List.nodup_cons.2 ⟨fun h1 => h (Qfw.1 h1),ih⟩
def Qev (l:List ByteArray) : List ByteArray := Xz (Qyc l)
theorem Qcz {l:List ByteArray} {x:ByteArray} : x ∈ Qev l ↔ x ∈ l := by unfold Qev; rw [Qk7,Qfw]
theorem Qmr (l:List ByteArray) : (Qev l).Nodup := (Qb5 _).nodup_iff.2 (Qd9 l)
theorem Qsl {K l:List ByteArray} (hn:K.Nodup) (hm:∀ x,x ∈ K ↔ x ∈ l) : Xz K = Qev l := by
 have hp : K.Perm (Qyc l) := Qch hn (Qd9 l) (fun x hx => Qfw.2 ((hm x).1 hx)) (fun x hx => (hm x).2 (Qfw.1 hx))
 exact Qcj ((Qb5 K).trans hp) (Qhs K)
theorem Qmq {k l:List ByteArray} (hm:∀ x,x ∈ k ↔ x ∈ l) : Qev k = Qev l := Qsl (Qd9 k) fun x => Qfw.trans (hm x)
theorem Q2k (l:List ByteArray) : (Qev l).length ≤ l.length := by
 unfold Qev
 rw [Qek]
 induction l with
 | nil => simp [Qyc]
 | cons a l ih => unfold Qyc; split <;> simp <;> omega
theorem Qc3 {β:Type} {L:List (ByteArray × β)} (h:L.Pairwise (fun x y => x.1 ≠ y.1)) : (L.map (·.1)).Nodup := by
 rw [List.nodup_iff_pairwise_ne,List.pairwise_map]; exact h
theorem Q15 {β:Type} {L:List (ByteArray × β)} {k:ByteArray} : k ∈ L.map (·.1) ↔ (Qe L k).isSome = true := by
 cases h : Qe L k with
 | none =>
   have := Qc1.1 h
   simp only [List.mem_map,Option.isSome_none,Bool.false_eq_true,iff_false]
   rintro ⟨x,hx,rfl⟩
   exact this x hx rfl
 | some v =>
   have := Qb9 h
   simp only [Option.isSome_some,iff_true,List.mem_map]
   exact ⟨_,this,rfl⟩
abbrev Grp := Int × Int × List ByteArray
def Qb0 (gap:Int) (acc:List Grp) (t:Int) (its:List ByteArray) : List Grp :=
 match acc.getLast? with
 | some g => if gap < t - g.2.1 then acc ++ [(t,t,its)] else acc.dropLast ++ [(g.1,t,g.2.2 ++ its)]
 | none => [(t,t,its)]
abbrev Qdk := List (Int × List (ByteArray × Bool))
def Xf (k:Qdk) (t:Int) : List ByteArray := ((Qe k t).getD []).map (·.1)
def Qez (gap:Int) (k:Qdk) (ts:List Int) : List Grp := ts.foldl (fun acc t => Qb0 gap acc t (Xf k t)) []
def Q57 (gap:Int) (k:Qdk) : List Grp := Qez gap k (Qdo (k.map (·.1)))
theorem Qfy (gap:Int) (k:Qdk) (ts:List Int) (t:Int) : Qez gap k (ts ++ [t]) = Qb0 gap (Qez gap k ts) t (Xf k t) := by unfold Qez; rw [List.foldl_append]; rfl
structure Sn where
 person : ByteArray
 from_ : Int
 to_ : Int
 items : List ByteArray
deriving DecidableEq,Inhabited
def Q1c (person:ByteArray) (g:Grp) : Sn := ⟨person,g.1,g.2.1,Qev g.2.2⟩
def Qej (gap:Int) (ss:Ses) (person:ByteArray) : List Sn := (Q57 gap ((Qe ss person).getD [])).map (Q1c person)
def Qhq (gap:Int) (ss:Ses) : List Sn := (Xz (ss.map (·.1))).flatMap (Qej gap ss)
theorem Q4l (gap:Int) (acc:List Grp) (t:Int) (its:List ByteArray) : (Qb0 gap acc t its).length ≤ acc.length + 1 := by
 unfold Qb0
 split
 · next g h =>
   split
   · simp
   · simp
 · simp
theorem Qyg (gap:Int) (k:Qdk) : ∀ ts : List Int,(Qez gap k ts).length ≤ ts.length := by
 refine Qv (by simp [Qez]) fun l t ih => ?_
 rw [Qfy]
 have := Q4l gap (Qez gap k l) t (Xf k t)
 simp; omega
theorem Q1z (gap:Int) (k:Qdk) : (Q57 gap k).length ≤ k.length := by
 have := Qyg gap k (Qdo (k.map (·.1)))
 rw [Qqf,List.length_map] at this
 exact this
def hasB (a:ByteArray) (s:Sn) : Bool := decide (a ∈ s.items)
def X3 (S:List Sn) (a:ByteArray) : Nat := (S.filter (hasB a)).length
def Qcq (S:List Sn) (a b:ByteArray) : Nat := (S.filter fun s => hasB a s && hasB b s).length
theorem Qfn (S:List Sn) (a:ByteArray) : X3 S a ≤ S.length := List.length_filter_le _ _
theorem Qsc (S:List Sn) (a b:ByteArray) : Qcq S a b ≤ S.length := List.length_filter_le _ _
theorem Qp4 (S:List Sn) (a b:ByteArray) : Qcq S a b ≤ X3 S a := by
 unfold Qcq X3
 induction S with
 | nil => simp
 | cons s S ih =>
   simp only [List.filter_cons]
   cases hasB a s <;> cases hasB b s <;> simp <;> omega
theorem Qp3 (S:List Sn) (a b:ByteArray) : Qcq S a b = Qcq S b a := by
 unfold Qcq
 congr 1
 apply List.filter_congr
 intro s _
 rw [Bool.and_comm]
def Qes (S:List Sn) (a b:ByteArray) : Int × Int :=
 if X3 S a = 0 ∨ X3 S b = 0 then (0,1) else if a = b then (1,1) else ((Qcq S a b:Int) * Qcq S a b,(X3 S a:Int) * X3 S b)
def Qzq (a b:Int × Int) : Bool := decide (a.1 * b.2 < b.1 * a.2)
def Qct (S:List Sn) (item:ByteArray) (b:Int × Int) (e:Ev) : Int × Int :=
 if Qr e ≤ 0 ∨ e.item = item then b else if Qzq b (Qes S item e.item) = true then Qes S item e.item else b
def Qh6 (S:List Sn) (item:ByteArray) (h:List Ev) : Int × Int := h.foldl (Qct S item) (0,1)
theorem Qh7 (S:List Sn) (item:ByteArray) (h:List Ev) (e:Ev) : Qh6 S item (h ++ [e]) = Qct S item (Qh6 S item h) e := by unfold Qh6; rw [List.foldl_append]; rfl
def Qov (N:Int) (r:Int × Int) : Prop := 0 ≤ r.1 ∧ r.1 ≤ N ∧ 1 ≤ r.2 ∧ r.2 ≤ N
theorem Qy0 {S:List Sn} {N:Int} (hN:(S.length : Int) * S.length ≤ N) (h1:1 ≤ N) (a b:ByteArray) : Qov N (Qes S a b) := by
 unfold Qes
 have ha := Qfn S a
 have hb := Qfn S b
 have hp := Qsc S a b
 split
 · exact ⟨by simp,by simp; omega,by simp,by simp; omega⟩
 split
 · exact ⟨by simp,by simpa using h1,by simp,by simpa using h1⟩
 · next h0 _ =>
   have h2 : (1:Int) ≤ X3 S a := by omega
   have h3 : (1:Int) ≤ X3 S b := by omega
   have e1 : ((Qcq S a b:Int) * Qcq S a b) ≤ (S.length : Int) * S.length := Int.mul_le_mul (by omega) (by omega) (by omega) (by omega)
   have e2 : ((X3 S a:Int) * X3 S b) ≤ (S.length : Int) * S.length := Int.mul_le_mul (by omega) (by omega) (by omega) (by omega)
   have e3 : (1:Int) * 1 ≤ (X3 S a:Int) * X3 S b := Int.mul_le_mul h2 h3 (by omega) (by omega)
   exact ⟨Int.mul_nonneg (by omega) (by omega),by simp only; omega,by simp only; omega,by simp only; omega⟩
theorem Q35 {S:List Sn} {N:Int} (hN:(S.length : Int) * S.length ≤ N) (h1:1 ≤ N) (item:ByteArray) : ∀ h : List Ev,Qov N (Qh6 S item h) := by
 refine Qv ⟨by simp [Qh6],by simp [Qh6]; omega,by simp [Qh6],by simp [Qh6]; omega⟩ fun l e ih => ?_
 rw [Qh7]
 unfold Qct
 split
 · exact ih
 split
 · exact Qy0 hN h1 _ _
 · exact ih
def flB (person maker:ByteArray) (e:Ev) : Bool := decide (e.person = person) && (decide (e.text = maker) && (decide (e.kind = 7) || decide (e.kind = 8)))
def Qt1 (z:List Ev) (person maker:ByteArray) : Bool := match (z.filter (flB person maker)).getLast? with
 | some e => decide (e.kind = 7)
 | none => false
theorem Qpk (person maker:ByteArray) : ∀ rs : List Row,(Qe (Xt rs).follows (person,maker)) = ((evs rs).filter (flB person maker)).getLast?.map fun e => decide (e.kind = 7) := by
 refine Qv (by simp [Xt,evs,Cw0,Qe]) fun rs r ih => ?_
 rw [Qfg,Qng,List.filter_append]
 have hB : (Qcw (Xt rs) r.1).follows = (Qcf (Xt rs) r.1).follows := by
  unfold Qcw Qnx
  split <;> rfl
 rw [hB]
 unfold Qcf
 cases hf : flB person maker r.1 with
 | true =>
   simp only [flB,Bool.and_eq_true,Bool.or_eq_true,decide_eq_true_eq] at hf
   obtain ⟨h1,h2,h3⟩ := hf
   rw [if_neg (by omega),if_neg (by omega),if_neg (by omega),if_pos h3]
   have hf2 : flB person maker r.1 = true := by simp [flB,h1,h2,h3]
   simp only [List.filter_cons,hf2,if_true,List.filter_nil,List.getLast?_append,List.getLast?_singleton,Option.some_or,Option.map_some]
   rw [show ((person,maker) : LK) = mkr r.1 by unfold mkr; rw [h1,h2],Qy]
 | false =>
   simp only [List.filter_cons,hf,Bool.false_eq_true,if_false,List.filter_nil,List.append_nil]
   rw [← ih]
   split
   · rfl
   split
   · rfl
   split
   · rfl
   split
   · next h3 =>
     show Qe (Q3 _ _ _) _ = _
     rw [Xe,if_neg]
     intro he
     unfold mkr at he
     injection he with h1 h2
     simp [flB,← h1,← h2] at hf
     omega
   split
   · rfl
   · rfl
theorem Qvz (z:List Ev) (person maker:ByteArray) : Qt1 (Xn z) person maker = Qt1 z person maker := by
 unfold Qt1 Xn
 rw [List.filter_filter]
 have : (fun a => flB person maker a && peB a) = flB person maker := by
  funext a
  cases h : flB person maker a with
  | false => rfl
  | true =>
    simp only [flB,Bool.and_eq_true,Bool.or_eq_true,decide_eq_true_eq] at h
    have : peB a = true := by simp [peB,thB]; omega
    rw [this]; rfl
 rw [this]
def Qax (fl:List (LK × Bool)) (person:ByteArray) (h:List Ev) : List (ByteArray × Bool) :=
 h.foldl (fun m e => if e.kind = 7 ∧ (Qe fl (person,e.text)).getD false = true then Q3 m e.text true else m) []
theorem Qer (fl:List (LK × Bool)) (person:ByteArray) (h:List Ev) (e:Ev) : Qax fl person (h ++ [e]) = if e.kind = 7 ∧ (Qe fl (person,e.text)).getD false = true then Q3 (Qax fl person h) e.text true else Qax fl person h := by unfold Qax; rw [List.foldl_append]; rfl
theorem Qma (fl:List (LK × Bool)) (person:ByteArray) (x:ByteArray) : ∀ h : List Ev,x ∈ (Qax fl person h).map (·.1) ↔ ∃ e ∈ h,e.kind = 7 ∧ e.text = x ∧ (Qe fl (person,x)).getD false = true := by
 refine Qv (by simp [Qax]) fun h e ih => ?_
 rw [Qer]
 split
 · next hc =>
   rw [Qd8]
   constructor
   · intro hx
     have : x = e.text ∨ x ∈ (Qax fl person h).map (·.1) := by
      split at hx
      · exact .inr hx
      · rcases List.mem_append.1 hx with hx | hx
        · exact .inr hx
        · exact .inl (by simpa using hx)
     rcases this with rfl | hx
     · exact ⟨e,by simp,hc.1,rfl,hc.2⟩
     · obtain ⟨y,hy,h1⟩ := ih.1 hx
       exact ⟨y,by simp [hy],h1⟩
   · rintro ⟨y,hy,h1,rfl,h2⟩
     rcases List.mem_append.1 hy with hy | hy
     · have := ih.2 ⟨y,hy,h1,rfl,h2⟩
       split
       · exact this
       · exact List.mem_append.2 (.inl this)
     · have hy : y = e := by simpa using hy
       subst hy
       split
       · assumption
       · simp
 · next hc =>
   rw [ih]
   constructor
   · rintro ⟨y,hy,h1⟩; exact ⟨y,by simp [hy],h1⟩
   · rintro ⟨y,hy,h1,rfl,h2⟩
     rcases List.mem_append.1 hy with hy | hy
     · exact ⟨y,hy,h1,rfl,h2⟩
     · have hy : y = e := by simpa using hy
       subst hy
       exact absurd ⟨h1,h2⟩ hc
theorem Q4h {rs:List Row} (person maker:ByteArray) : maker ∈ (Qax (Xt rs).follows person (hist (evs rs) person)).map (·.1) ↔ Qt1 (evs rs) person maker = true := by
 rw [Qma,Qpk]
 unfold Qt1
 cases hl : ((evs rs).filter (flB person maker)).getLast? with
 | none => simp
 | some e =>
   have he := List.mem_of_getLast? hl
   have hm := List.mem_filter.1 he
   have hb := hm.2
   simp only [flB,Bool.and_eq_true,Bool.or_eq_true,decide_eq_true_eq] at hb
   simp only [Option.map_some,Option.getD_some,decide_eq_true_eq]
   constructor
   · rintro ⟨_,_,_,_,h⟩; exact h
   · intro h
     exact ⟨e,List.mem_filter.2 ⟨hm.1,by simpa using hb.1⟩,h,hb.2.1,h⟩
def Qqy (half now:Int) (e:Ev) : Int := Qr e * X9 (now - e.at_) half
def Qbu (n:Int) (m:List (ByteArray × Int)) (t:ByteArray) : List (ByteArray × Int) := Q3 m t (IntKind.i64.wrap ((Qe m t).getD 0 + n))
def Qd5 (half now:Int) (m:List (ByteArray × Int)) (r:Row) : List (ByteArray × Int) := if now < r.1.at_ then m else r.2.foldl (Qbu (Qqy half now r.1)) m
def Qtc (half now:Int) (rows:List Row) : List (ByteArray × Int) := rows.foldl (Qd5 half now) []
theorem Qh2 (half now:Int) (l:List Row) (r:Row) : Qtc half now (l ++ [r]) = Qd5 half now (Qtc half now l) r := by unfold Qtc; rw [List.foldl_append]; rfl
theorem Qte (n:Int) (m:List (ByteArray × Int)) (l:List ByteArray) (t:ByteArray) : (l ++ [t]).foldl (Qbu n) m = Qbu n (l.foldl (Qbu n) m) t := by rw [List.foldl_append]; rfl
def Q5t (half now:Int) (rows:List Row) : List (ByteArray × Int) := (Qtc half now rows).filter fun x => decide (0 < x.2)
def rowsOf (rs:List Row) (person:ByteArray) : List Row := rs.filter fun r => decide (r.1.person = person)
theorem Qmx {half now:Int} {e:Ev} (hm:Xy e = true) : 0 ≤ Qqy half now e ∧ Qqy half now e ≤ 5242880 := by
 have h1 := Qf7 hm
 have h2 := Qi6 (now - e.at_) half
 unfold Qqy
 refine ⟨Int.mul_nonneg h1.1 h2.1,?_⟩
 have : Qr e * X9 (now - e.at_) half ≤ 5 * 1048576 := Int.mul_le_mul h1.2 h2.2 h2.1 (by omega)
 omega
theorem Qxe (tg:List ByteArray) (n:Int) (l:List (ByteArray × Int)) : ((tg.foldl (Qbu n) l).length) ≤ l.length + tg.length := by
 induction tg generalizing l with
 | nil => simp
 | cons t tg ih =>
   have := ih (Qbu n l t)
   have h2 := Qeo t (IntKind.i64.wrap ((Qe l t).getD 0 + n)) l
   simp only [List.foldl_cons,List.length_cons]
   unfold Qbu at *
   omega
theorem Qu4 (half now:Int) : ∀ rows : List Row,(Qtc half now rows).length ≤ (rows.map fun r => r.2.length).sum := by
 refine Qv (by simp [Qtc]) fun l r ih => ?_
 rw [Qh2,List.map_append,List.sum_append]
 unfold Qd5
 split
 · simp; omega
 · have := Qxe r.2 (Qqy half now r.1) (Qtc half now l)
   simp; omega
theorem Qtd (n:Int) (tg:List ByteArray) : ∀ l : List (ByteArray × Int),l.Pairwise (fun x y => x.1 ≠ y.1) → (tg.foldl (Qbu n) l).Pairwise (fun x y => x.1 ≠ y.1) := by
 induction tg with
 | nil => intro l h; exact h
 | cons t tg ih => intro l h; exact ih _ (Qa1 h)
theorem Q0z (half now:Int) : ∀ rows : List Row,(Qtc half now rows).Pairwise (fun x y => x.1 ≠ y.1) := by
 refine Qv (by simp [Qtc]) fun l r ih => ?_
 rw [Qh2]
 unfold Qd5
 split
 · exact ih
 · exact Qtd _ _ _ ih
def Qu5 (half now:Int) (rows:List Row) (t:ByteArray) : Int := ((rows.filter fun r => decide (r.1.at_ ≤ now) && decide (t ∈ r.2)).map fun r => Qqy half now r.1).sum
theorem Q5a (n:Int) (t:ByteArray) : ∀ (tg:List ByteArray),tg.Nodup → ∀ m : List (ByteArray × Int),(Qe (tg.foldl (Qbu n) m) t) = if t ∈ tg then some (IntKind.i64.wrap ((Qe m t).getD 0 + n)) else Qe m t := by
 intro tg
 induction tg with
 | nil => intro _ m; simp
 | cons a tg ih =>
   intro hn m
   rw [List.nodup_cons] at hn
   rw [List.foldl_cons,ih hn.2]
   unfold Qbu
   by_cases h1 : t = a
   · subst h1
     rw [if_neg hn.1,Xe,if_pos rfl,if_pos (by simp)]
   · rw [Xe,if_neg h1]
     by_cases h2 : t ∈ tg
     · rw [if_pos h2,if_pos (by simp [h2])]
     · rw [if_neg h2,if_neg (by simp [h1,h2])]
theorem Q00 (half now:Int) (t:ByteArray) : ∀ rows : List Row,(∀ r ∈ rows,Xy r.1 = true ∧ r.2.Nodup) → rows.length < 1000000 → ((Qe (Qtc half now rows) t).getD 0 = Qu5 half now rows t) ∧ 0 ≤ Qu5 half now rows t ∧ Qu5 half now rows t ≤ rows.length * 5242880 ∧ ((Qe (Qtc half now rows) t).isSome = true ↔ ∃ r ∈ rows,r.1.at_ ≤ now ∧ t ∈ r.2) := by
 refine Qv (fun _ _ => by simp [Qtc,Qu5,Qe]) fun l r ih h hl => ?_
 have hl' : l.length < 1000000 := by simp at hl; omega
 obtain ⟨i1,i2,i3,i4⟩ := ih (fun x hx => h x (by simp [hx])) hl'
 have hr := h r (by simp)
 have hb := Qmx (half := half) (now := now) hr.1
 have hlen : (((l ++ [r]).length : Nat) : Int) = l.length + 1 := by simp
 rw [Qh2]
 unfold Qd5
 have hS : Qu5 half now (l ++ [r]) t = Qu5 half now l t + if r.1.at_ ≤ now ∧ t ∈ r.2 then Qqy half now r.1 else 0 := by
  unfold Qu5
  rw [List.filter_append,List.map_append,List.sum_append]
  by_cases hc : r.1.at_ ≤ now ∧ t ∈ r.2
  · simp [hc.1,hc.2]
  · have : (decide (r.1.at_ ≤ now) && decide (t ∈ r.2)) = false := by
     rw [Bool.and_eq_false_iff]
     by_cases h1 : r.1.at_ ≤ now
     · exact .inr (by simpa using fun h2 => hc ⟨h1,h2⟩)
     · exact .inl (by simpa using h1)
    rw [if_neg hc]
    simp [this]
 rw [hS]
 by_cases hnow : now < r.1.at_
 · rw [if_pos hnow,if_neg (by omega)]
   refine ⟨by rw [i1]; omega,by omega,by rw [hlen,Int.add_mul]; omega,i4.trans ⟨?_,?_⟩⟩
   · rintro ⟨x,hx,h1⟩; exact ⟨x,by simp [hx],h1⟩
   · rintro ⟨x,hx,h1,h2⟩
     rcases List.mem_append.1 hx with hx | hx
     · exact ⟨x,hx,h1,h2⟩
     · have : x = r := by simpa using hx
       subst this; omega
 · rw [if_neg hnow,Q5a _ _ _ hr.2]
   by_cases ht : t ∈ r.2
   · rw [if_pos ht,if_pos ⟨by omega,ht⟩,i1]
     refine ⟨?_,by omega,by rw [hlen,Int.add_mul]; omega,by simp only [Option.isSome_some,true_iff]; exact ⟨r,by simp,by omega,ht⟩⟩
     simp only [Option.getD_some]
     exact (wrap_eq rfl ⟨by omega,by omega⟩).symm
   · rw [if_neg ht,if_neg (fun hc => ht hc.2)]
     refine ⟨by rw [i1]; omega,by omega,by rw [hlen,Int.add_mul]; omega,i4.trans ⟨?_,?_⟩⟩
     · rintro ⟨x,hx,h1⟩; exact ⟨x,by simp [hx],h1⟩
     · rintro ⟨x,hx,h1,h2⟩
       rcases List.mem_append.1 hx with hx | hx
       · exact ⟨x,hx,h1,h2⟩
       · have : x = r := by simpa using hx
         subst this; exact absurd h2 ht
theorem Q4w (width:Int) : ∀ l : List Ev,(Qxp width l).Pairwise (fun x y => x.1 ≠ y.1) := by
 refine Qv (by simp [Qxp]) fun l e ih => ?_
 rw [Qsd]
 unfold Qn6
 split
 · exact ih
 · exact Qa1 ih
theorem Qdy {α:Type} (f:α → Int) : ∀ {l:List α},(∀ x ∈ l,f x = 0) → (l.map f).sum = 0
 | [],_ => rfl
 | x :: l,h => by
   have h1 := h x (by simp)
   have h2 := Qdy f (l := l) fun y hy => h y (by simp [hy])
   simp [h1,h2]
theorem Qbd {κ β:Type} [DecidableEq κ] (x:κ × β) (l:List (κ × β)) (k:κ) : Qe (x :: l) k = if k = x.1 then some x.2 else Qe l k := rfl
theorem Qkw {s:X8} {key:ByteArray} {lo hi:Int} (h:hi ≤ lo) : paS s key lo hi = 0 := by
 unfold paS
 have : (s.filter fun x => decide (x.1.1 = key) && (decide (lo ≤ x.1.2) && decide (x.1.2 < hi))) = [] := by
  rw [List.filter_eq_nil_iff]
  intro x _
  simp
  omega
 rw [this]; rfl
theorem Qn3 (x:PK × Int) (s:X8) (key:ByteArray) (lo hi:Int) : paS (x :: s) key lo hi = (if x.1.1 = key ∧ lo ≤ x.1.2 ∧ x.1.2 < hi then x.2 else 0) + paS s key lo hi := by
 unfold paS
 rw [List.filter_cons]
 by_cases h : x.1.1 = key ∧ lo ≤ x.1.2 ∧ x.1.2 < hi
 · rw [if_pos (by simp [h.1,h.2.1,h.2.2]),if_pos h]; simp
 · rw [if_neg (by simpa using h),if_neg h]; omega
theorem Q2a {s:X8} (hp:s.Pairwise (fun x y => x.1 ≠ y.1)) (key:ByteArray) (lo hi:Int) (h:lo ≤ hi) : paS s key lo (hi + 1) = paS s key lo hi + (Qe s (key,hi)).getD 0 := by
 induction s with
 | nil => simp [paS,Qe]
 | cons x s ih =>
   rw [List.pairwise_cons] at hp
   have ih := ih hp.2
   rw [Qn3,Qn3,ih,Qbd]
   by_cases hk : (key,hi) = x.1
   · rw [if_pos hk]
     have h0 : Qe s (key,hi) = none := Qc1.2 fun y hy => by rw [hk]; exact fun e => hp.1 y hy e.symm
     rw [h0,if_pos (by rw [← hk]; simp; omega),if_neg (by rw [← hk]; simp)]
     simp
     omega
   · rw [if_neg hk]
     have : (x.1.1 = key ∧ lo ≤ x.1.2 ∧ x.1.2 < hi + 1) ↔ (x.1.1 = key ∧ lo ≤ x.1.2 ∧ x.1.2 < hi) := by
      constructor
      · rintro ⟨h1,h2,h3⟩
        refine ⟨h1,h2,?_⟩
        have : x.1.2 ≠ hi := fun e => hk (by rw [← h1,← e])
        omega
      · rintro ⟨h1,h2,h3⟩; exact ⟨h1,h2,by omega⟩
     by_cases hc : x.1.1 = key ∧ lo ≤ x.1.2 ∧ x.1.2 < hi
     · rw [if_pos hc,if_pos (this.2 hc)]; omega
     · rw [if_neg hc,if_neg (fun h => hc (this.1 h))]; omega
def Q1b (s:X8) (key:ByteArray) (lo hi:Int) (row:List Int) : Int := ((row.filter fun n => decide (lo ≤ n) && decide (n < hi)).map fun n => (Qe s (key,n)).getD 0).sum
theorem Qzy (s:X8) (key:ByteArray) (lo hi:Int) (row:List Int) (n:Int) : Q1b s key lo hi (row ++ [n]) = Q1b s key lo hi row + if lo ≤ n ∧ n < hi then (Qe s (key,n)).getD 0 else 0 := by
 unfold Q1b
 rw [List.filter_append,List.map_append,List.sum_append]
 by_cases h : lo ≤ n ∧ n < hi
 · simp [h.1,h.2]
 · rw [if_neg h]
   have : (decide (lo ≤ n) && decide (n < hi)) = false := by simpa using fun h1 => by omega
   simp [this]
theorem Q2i {s:X8} (hp:s.Pairwise (fun x y => x.1 ≠ y.1)) (key:ByteArray) (lo hi:Int) : Q1b s key lo hi (Qab s key) = paS s key lo hi := by
 unfold Q1b Qab paS
 rw [List.filter_map,List.map_map,List.filter_filter]
 have : (s.filter fun a => (Function.comp (fun n => decide (lo ≤ n) && decide (n < hi)) fun x : PK × Int => x.1.2) a && decide (a.1.1 = key)) = s.filter fun x => decide (x.1.1 = key) && (decide (lo ≤ x.1.2) && decide (x.1.2 < hi)) := by
  apply List.filter_congr
  intro x _
  simp only [Function.comp]
  rw [Bool.and_comm]
 rw [this]
 congr 1
 apply List.map_congr_left
 intro x hx
 have hm := List.mem_filter.1 hx
 have hk : x.1.1 = key := by have := hm.2; simp at this; exact this.1
 simp only [Function.comp]
 rw [← hk,Qee hp (show ((x.1.1,x.1.2),x.2) ∈ s from hm.1)]
 rfl
theorem Qkv {s:X8} {N:Int} (h:Qe1 s N) (hN:0 ≤ N) (key:ByteArray) (lo hi:Int) : 0 ≤ paS s key lo hi ∧ paS s key lo hi ≤ s.length * N := by
 have hb := Qdi (fun x:PK × Int => x.2) N (s.filter fun x => decide (x.1.1 = key) && (decide (lo ≤ x.1.2) && decide (x.1.2 < hi))) fun x hx => by
  have := h x (List.mem_filter.1 hx).1
  exact ⟨by omega,this.2⟩
 have hl := List.length_filter_le (fun x:PK × Int => decide (x.1.1 = key) && (decide (lo ≤ x.1.2) && decide (x.1.2 < hi))) s
 unfold paS
 refine ⟨hb.1,Int.le_trans hb.2 (Int.mul_le_mul_of_nonneg_right (by omega) hN)⟩
end Go.Proofs.YtopncieoolkhjaaGreatDoor
