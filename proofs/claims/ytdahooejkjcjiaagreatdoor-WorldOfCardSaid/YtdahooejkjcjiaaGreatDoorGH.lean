/- Several texts in one: Rd3, Pl1, Rd1, Rd2, Pl2, Pl3, Pl4. -/
import Derived.Test.YtdahooejkjcjiaaGreatDoorGF
import Derived.Laws.IdiomRangeMap
import Derived.Test.YtdahooejkjcjiaaGreatDoorHKeyL
set_option linter.unusedVariables false
set_option linter.unusedSimpArgs false
namespace Go.Proofs.YtdahooejkjcjiaaGreatDoor
open Go.Se Go.RowKit
theorem Qp5 (a b:Int):IntKind.i64.wrap (IntKind.i64.wrap a+b)=IntKind.i64.wrap (a+b):=by
 simp only[IntKind.wrap,IntKind.bits,IntKind.signed]
 simp
 split <;> split <;> split <;> omega
theorem Q2q (a b:Int):IntKind.i64.wrap (a+IntKind.i64.wrap b)=IntKind.i64.wrap (a+b):=by
 rw[Int.add_comm,Qp5,Int.add_comm]
theorem Q9n:IntKind.i64.wrap 0=0:=by decide
def Xo (age half:Int):Int:=if age<0 then 0 else if 20<age/max half 1 then 0 else(1048576:Int).fdiv (2 ^ (age/max half 1).toNat)
theorem Qoe (age half:Int) (ha:-4611686018427387904≤age∧age≤9223372036854775807) (w:World) :
 Cal Tryz.prog 66 [.int .i64 age,.int .i64 half] w fun r w'=>r = .int .i64 (Xo age half)∧w'=w:=by
 have hm:max half 1≠0:=by omega
 refine Fi Tryz.func66 rfl _ rfl rfl (Hh ?_);constructor
 · intro hc
   have hc:age<0:=by simpa using hc
   conv=>whnf
   exact⟨by rw[Xo,if_pos hc],rfl⟩
 · intro hc
   have hc:¬ age<0:=by simpa using hc
   have h1:age.tdiv (max half 1)=age/max half 1:=Int.tdiv_eq_ediv_of_nonneg (by omega);have h2:0≤age/max half 1:=Int.ediv_nonneg (by omega) (by omega);have h3:age/max half 1≤age:=Int.ediv_le_self _ (by omega);have hw:Xo age half=if 20<age/max half 1 then 0 else(1048576:Int).fdiv (2 ^ (age/max half 1).toNat):=by rw[Xo,if_neg hc]
   rw[hw];clear hw
   conv=>whnf
   refine⟨age/max half 1,⟨hm,wrap_eq h1.symm ⟨by omega,by omega⟩⟩,Hh ?_⟩;generalize age/max half 1=n at h2 h3 ⊢;constructor
   · intro hn
     have hn:20<n:=by simpa using hn
     conv=>whnf
     exact⟨by rw[if_pos hn],rfl⟩
   · intro hn
     have hn:¬ 20<n:=by simpa using hn
     have hmin:min n.toNat IntKind.i64.bits=n.toNat:=by simp only[IntKind.bits];omega
     conv=>whnf
     refine⟨(1048576:Int).fdiv (2 ^ n.toNat),⟨h2,by rw[hmin]⟩,Hh ?_⟩
     exact⟨by rw[if_neg hn],rfl⟩
def Qow (half now:Int) (r:List (Int×Int)):Int:=(r.map fun x=>x.2*Xo (now-x.1) half).sum
theorem Q75 {l m:List Int} (h:l.Perm m):l.sum=m.sum:=by
 induction h with
 | nil=>rfl
 | cons a _ ih=>simp[ih]
 | swap a b l=>simp only[List.sum_cons];omega
 | trans _ _ h1 h2=>exact h1.trans h2
theorem Q2f {half now:Int} {r s:List (Int×Int)} (h:r.Perm s):Qow half now r=Qow half now s:=Q75 (h.map _)
def Qae (s:Qlm) (half:Int) (key:ByteArray) (now:Int):Int:=IntKind.i64.wrap (Qow half now ((Qe s key).getD []))
theorem Q47 {P:Program} {w:World} {mt kt et:TypeId} (ht:P.underlying mt=some (.map kt et)) {R:Value→World→Prop}
 (h:∀ w',Ext w w'→w'.heap[w.heap.size]? = some (.mapIter none 0 #[] 0)→R (.pointer (some ⟨w.heap.size,0,none⟩)) w'):Qk3 P (Instr.range mt (.map none)) w R:=by
 refine⟨_,_,Go.run_range_nilMap w mt kt et ht,h _ ((Below.refl _ _).alloc (Nat.le_refl _) _) (heap_alloc_new w _)⟩
theorem Q7v {P:Program} {w:World} {r:Nat} {a b:Nat} {s:Array Nat} {ty:TypeId} (hr:w.heap[r]? = some (.mapIter none a s b)) {R:Value→World→Prop} (h:R (.tuple #[.bool false]) w):Qk3 P (Instr.next (.pointer (some ⟨r,0,none⟩)) false ty) w R:=by
 refine⟨_,_,?_,h⟩;simp only[Instr.next,getObj,Sem.run_bind,Sem.run,hr,Result.andThen]
 rfl
theorem Q2p {vs L:List (Int×Int)} (h:(Qau vi vs).Perm (Qau vi L)):vs.Perm L:=by
 have h1:=h.map (fun x:Int×Value=>(x.1,match x.2 with | .int _ n=>n | _=>0))
 simpa [Qau,List.map_map,Function.comp_def,vi] using h1
theorem Qkb (w:World) (S:Nat→Prop) (p:Nat) (half n:Int) (s:Qlm) (h:Qqa w S p half n s) (key:ByteArray) (now:Int) (hnow:0≤now∧now≤1099511627776) (ht:∀ r,Qe s key=some r→∀ x∈r,0≤x.1∧x.1≤1099511627776) :
 Cal Tryz.prog 32 [.pointer (some ⟨p,0,none⟩),.string key,.int .i64 now] w fun r w'=>r = .int .i64 (Qae s half key now)∧Ext w w':=by
 obtain⟨bm,h⟩:=h;have hplt:=h.head.lt;have hhead:=h.head;refine Fi Tryz.func32 rfl _ rfl rfl (Hh ?_);constructor
 · intro hc
   have hc:now<0:=by simpa using hc
   omega
 intro _
 conv=>whnf
 refine⟨.map (some bm),h.head.one rfl,Hh ?_⟩;rcases h.sums.look Qaq Q8u (Xa Qad) (e:=ty115) ty115_ok rfl key with⟨hno,hrd⟩ | ⟨b,m,Sk,hsome,hrd,hIv,hSk,_⟩
 · have hres:Qae s half key now=0:=by unfold Qae;rw[hno];exact Q9n
   rw[hres];refine⟨_,hrd .same Qx,Hh ?_⟩;refine Q47 Q2n fun w2 hx2 hr2 => ?_
   generalize w.heap.size=r at hr2 ⊢
   conv=>whnf
   refine Qd Qa (fun(_:Unit) w'=>w'=w2) (fun _ => [(19,.pointer (some ⟨r,0,none⟩)),(7,.int .i64 0)]) (fun _=>0) () rfl Rr ?_;rintro _ w3 rfl
   conv=>whnf
   refine Q7v hr2 ?_
   conv=>whnf
   constructor
   · intro hh;cases hh
   intro _
   conv=>whnf
   exact⟨rfl,hx2⟩
 · have hm:=hIv.2
   have ht:=ht m hsome;have hres:Qae s half key now=IntKind.i64.wrap (Qow half now m):=by unfold Qae;rw[hsome];rfl
   rw[hres];refine⟨_,hrd .same Qx,Hh ?_⟩;refine map_range Q2n hm fun w3 hi3 hx3 => ?_
   have hrw:w.heap.size≤w.heap.size:=Nat.le_refl _;generalize hr:w.heap.size=r at hi3 ⊢
   conv=>whnf
   refine Qd Qa (fun(q:List (Int×Int)×Int) w'=>Ext w w'∧Iter w' r b vi (Qau vi m) (Qau vi q.1)∧q.2=IntKind.i64.wrap (Qow half now q.1))
    (fun | (vs,z) => [(0,.pointer (some ⟨p,0,none⟩)),(2,.int .i64 now),(19,.pointer (some ⟨r,0,none⟩)),(7,.int .i64 z)]) (fun q=>m.length-q.1.length) ([],0) ⟨hx3,hi3,Q9n.symm⟩ Rr ?_
   clear hi3 hx3;rintro ⟨vs,z⟩ w4 ⟨hx4,hi4,hz⟩;simp only at hi4 hz
   conv=>whnf
   refine Qgi hi4 (fun hp => ?_) (fun x w5 hin hnew hlt hi5 ho5 hen => ?_)
   · have hp:=Q2p hp
     conv=>whnf
     constructor
     · intro hh;cases hh
     intro _
     conv=>whnf
     exact⟨by rw[hz,Q2f hp],hx4⟩
   · obtain⟨y,hy,rfl⟩:=List.mem_map.1 hin
     have hlt:vs.length<m.length:=by simpa [Qau] using hlt
     have hvs:Qau vi vs ++ [(y.1,vi y.2)]=Qau vi (vs ++ [y]):=by simp[Qau]
     rw[hvs] at hi5;have hx5:=ho5.ext hx4 (by omega);have hty:=ht y hy
     have hsn:IntKind.i64.wrap (Qow half now (vs ++ [y]))=IntKind.i64.wrap (z+IntKind.i64.wrap (y.2*Xo (now-y.1) half)):=by
      rw[hz,Qp5,Q2q]
      simp[Qow]
     conv=>whnf
     constructor
     · intro _
       conv=>whnf
       refine Qb5 (hen w5 rfl rfl) ?_
       conv=>whnf
       refine⟨now-y.1,wrap_eq rfl ⟨by omega,by omega⟩,Hh ?_⟩;refine⟨_,(hhead.ext hx5).one rfl,Hh ?_⟩;refine(Qoe (now-y.1) half ⟨by omega,by omega⟩ w5).mono ?_;rintro _ _ ⟨rfl,rfl⟩
       conv=>whnf
       refine⟨_,rfl,Hh ?_⟩;refine⟨_,rfl,Hh ?_⟩
       exact⟨(vs ++ [y],_),by simp;omega,⟨hx5,hi5,hsn.symm⟩,Rr⟩
     · intro hh;cases hh
instance memDec (a:ByteArray) (l:List ByteArray):Decidable (a∈l):=decidable_of_iff (l.any (fun b=>decide (b=a))=true) (by simp)
def wpB (e:Ev):Bool:=decide (0<Qv e)
theorem Xbi {e:Ev} (h:wpB e=true):e.kind=1∨e.kind=2∨e.kind=3∨e.kind=4:=by
 have h:0<Qv e:=by simpa [wpB] using h
 unfold Qv at h
 by_cases h1:e.kind=1
 · exact .inl h1
 by_cases h2:e.kind=2
 · exact .inr (.inl h2)
 by_cases h3:e.kind=3
 · exact .inr (.inr (.inl h3))
 by_cases h4:e.kind=4
 · exact .inr (.inr (.inr h4))
 rw[if_neg h1,if_neg h2,if_neg h3,if_neg h4] at h;omega
def Qf6 (l:List Ev):Qlm:=l.foldl (fun s e=>Qpr s e.item e.at_ (Qv e)) []
def Qg0 (width:Int) (l:List Ev):Qbp:=l.foldl (fun s e=>Qpq s (e.item,e.at_/Qw width) (Qv e)) []
def Qid (l:List Ev):Ses:=l.foldl (fun s e=>Q6f s e.person e.at_ e.item) []
theorem Qmr (l:List Ev) (e:Ev):Qf6 (l ++ [e])=Qpr (Qf6 l) e.item e.at_ (Qv e):=by unfold Qf6;rw[List.foldl_append];rfl
theorem Qrm (width:Int) (l:List Ev) (e:Ev):Qg0 width (l ++ [e])=Qpq (Qg0 width l) (e.item,e.at_/Qw width) (Qv e):=by unfold Qg0;rw[List.foldl_append];rfl
theorem Qxw (l:List Ev) (e:Ev):Qid (l ++ [e])=Q6f (Qid l) e.person e.at_ e.item:=by unfold Qid;rw[List.foldl_append];rfl
theorem Qdb (width:Int) (z:List Ev):(Qo width z).ds=Qf6 (z.filter wpB)∧(Qo width z).ps=Qg0 width (z.filter wpB)∧(Qo width z).ss=Qid (z.filter wpB):=by
 induction z using Xf with
 | h0=>exact⟨rfl,rfl,rfl⟩
 | h1 l a ih =>
   rw[Qbn,List.filter_append];unfold Qdy
   cases hw:wpB a with
   | true =>
     have hk:=Xbi hw;have h0:0<Qv a:=by simpa [wpB] using hw
     have e1 : [a].filter wpB = [a]:=by simp[hw]
     rw[e1,Qmr,Qrm,Qxw,if_neg (by omega),if_neg (by omega),if_pos h0,← ih.1,← ih.2.1,← ih.2.2]
     exact⟨rfl,rfl,rfl⟩
   | false =>
     have h0:¬ 0<Qv a:=by simpa [wpB] using hw
     have e1 : [a].filter wpB = []:=by simp[hw]
     rw[e1,List.append_nil,← ih.1,← ih.2.1,← ih.2.2]
     split
     · exact⟨rfl,rfl,rfl⟩
     split
     · exact⟨rfl,rfl,rfl⟩
     exact⟨rfl,rfl,rfl⟩
def Qop (l:List Ev) (half:Int) (key:ByteArray) (now:Int):Int:=((l.filter fun e=>decide (e.item=key)).map fun e=>Qv e*Xo (now-e.at_) half).sum
theorem Qz1 (f:Int→Int) (t n:Int):∀ r:List (Int×Int),((Xp r t ((Qe r t).getD 0+n)).map fun x=>x.2*f x.1).sum=(r.map fun x=>x.2*f x.1).sum+n*f t
 | []=>by simp[Xp,Qe]
 | x :: r=>by
   have ih:=Qz1 f t n r;unfold Xp Qe
   by_cases h:t=x.1
   · rw[if_pos h,if_pos h]
     simp only[Option.getD_some,List.map_cons,List.sum_cons];rw[Int.add_mul,h];omega
   · rw[if_neg h,if_neg h]
     simp only[List.map_cons,List.sum_cons];rw[ih];omega
theorem Xbu (half:Int) (key:ByteArray) (now:Int):∀ l:List Ev,(∀ e∈l,wpB e=true)→Qow half now ((Qe (Qf6 l) key).getD [])=Qop l half key now:=by
 refine Xf (fun _=>by simp[Qf6,Qe,Qow,Qop]) fun l e ih h => ?_
 have ih:=ih fun x hx=>h x (by simp[hx])
 have hw:0<Qv e:=by simpa [wpB] using h e (by simp)
 rw[Qmr];unfold Qop Qpr at *;rw[if_neg (by omega),List.filter_append,List.map_append,List.sum_append,← ih,X4]
 by_cases hk:key=e.item
 · subst hk
   rw[if_pos rfl];simp only[Option.getD_some];have hs:=Qz1 (fun t=>Xo (now-t) half) e.at_ (Qv e) ((Qe (Qf6 l) e.item).getD []);unfold Qow;rw[hs]
   simp
 · rw[if_neg hk]
   have:decide (e.item=key)=false:=by simp;exact fun h=>hk h.symm
   simp[this]
theorem Q7b:∀ l:List Ev,∀ key r,Qe (Qf6 l) key=some r→∀ x∈r,∃ e∈l,e.at_=x.1∧e.item=key:=by
 refine Xf (fun key r h=>by simp[Qf6,Qe] at h) fun l e ih key r h x hx => ?_
 rw[Qmr] at h;unfold Qpr at h
 split at h
 · obtain⟨y,hy,h1⟩:=ih key r h x hx
   exact⟨y,by simp[hy],h1⟩
 · rw[X4] at h
   by_cases hk:key=e.item
   · rw[if_pos hk] at h
     injection h with h;subst h;rcases Qcq hx with rfl | hx
     · exact⟨e,by simp,rfl,hk.symm⟩
     · cases hl:Qe (Qf6 l) e.item with
       | none=>rw[hl] at hx;simp at hx
       | some r =>
         rw[hl] at hx;obtain⟨y,hy,h1⟩:=ih e.item r hl x hx
         exact⟨y,by simp[hy],h1.1,h1.2.trans hk.symm⟩
   · rw[if_neg hk] at h
     obtain⟨y,hy,h1⟩:=ih key r h x hx
     exact⟨y,by simp[hy],h1⟩
theorem Qc5 (age half:Int):0≤Xo age half∧Xo age half≤1048576:=by
 unfold Xo
 split
 · omega
 split
 · omega
 · rw[Int.fdiv_eq_ediv_of_nonneg _ (by exact Int.le_of_lt (Int.pow_pos (by omega)))]
   exact⟨Int.ediv_nonneg (by omega) (Int.le_of_lt (Int.pow_pos (by omega))),Int.ediv_le_self _ (by omega)⟩
theorem Qdi {α:Type} (f:α→Int) (M:Int):∀ l:List α,(∀ x∈l,0≤f x∧f x≤M)→0≤(l.map f).sum∧(l.map f).sum≤l.length*M
 | [],_=>by simp
 | x :: l,h=>by
   have h1:=h x (by simp);have ih:=Qdi f M l fun y hy=>h y (by simp[hy])
   simp only[List.map_cons,List.sum_cons,List.length_cons]
   have:((l.length+1:Nat):Int)*M=l.length*M+M:=by
    rw[show ((l.length+1:Nat):Int)=(l.length:Int)+1 by omega,Int.add_mul];omega
   rw[this];omega
theorem Q44 {l:List Ev} (hm:∀ e∈l,Xn e=true) (half:Int) (key:ByteArray) (now:Int):0≤Qop l half key now∧Qop l half key now≤l.length*5242880:=by
 have h:=Qdi (fun e:Ev=>Qv e*Xo (now-e.at_) half) 5242880 (l.filter fun e=>decide (e.item=key)) fun e he=>by
  have h1:=Qdw (hm e (List.mem_filter.1 he).1);have h2:=Qc5 (now-e.at_) half;refine⟨Int.mul_nonneg h1.1 h2.1,?_⟩
  calc Qv e*Xo (now-e.at_) half≤5*1048576:=Int.mul_le_mul h1.2 h2.2 h2.1 (by omega)
   _=5242880:=by omega
 have hl:=List.length_filter_le (fun e:Ev=>decide (e.item=key)) l;unfold Qop;refine⟨h.1,Int.le_trans h.2 ?_⟩
 exact Int.mul_le_mul_of_nonneg_right (by omega) (by omega)
def paE (l:List Ev) (width:Int) (key:ByteArray) (lo hi:Int):Int:=((l.filter fun e=>decide (e.item=key)&&(decide (lo≤e.at_/Qw width)&&decide (e.at_/Qw width<hi))).map Qv).sum
def paS (s:Qbp) (key:ByteArray) (lo hi:Int):Int:=((s.filter fun x=>decide (x.1.1=key)&&(decide (lo≤x.1.2)&&decide (x.1.2<hi))).map (·.2)).sum
theorem Qzq (key:ByteArray) (lo hi:Int) (c:PK) (n:Int):∀ s:Qbp,paS (Xp s c ((Qe s c).getD 0+n)) key lo hi=paS s key lo hi+if(decide (c.1=key)&&(decide (lo≤c.2)&&decide (c.2<hi)))=true then n else 0
 | []=>by
   unfold paS;simp only[Xp,Qe,Option.getD_none,Int.zero_add,List.filter_cons,List.filter_nil]
   split <;> simp
 | x :: s=>by
   have ih:=Qzq key lo hi c n s;unfold paS at *;unfold Xp Qe
   by_cases h:c=x.1
   · rw[if_pos h,if_pos h]
     simp only[Option.getD_some,List.filter_cons];rw[← h]
     split
     · simp only[List.map_cons,List.sum_cons];omega
     · simp
   · rw[if_neg h,if_neg h]
     simp only[List.filter_cons]
     split
     · simp only[List.map_cons,List.sum_cons];rw[ih];omega
     · exact ih
theorem Q9a (width:Int) (key:ByteArray) (lo hi:Int):∀ l:List Ev,(∀ e∈l,wpB e=true)→paS (Qg0 width l) key lo hi=paE l width key lo hi:=by
 refine Xf (fun _=>by simp[Qg0,paS,paE]) fun l e ih h => ?_
 have ih:=ih fun x hx=>h x (by simp[hx])
 have hw:0<Qv e:=by simpa [wpB] using h e (by simp)
 rw[Qrm];unfold Qpq paE at *;rw[if_neg (by omega),Qzq,ih,List.filter_append,List.map_append,List.sum_append];simp only[List.filter_cons,List.filter_nil]
 split <;> simp
theorem Q72 {l:List Ev} (hm:∀ e∈l,Xn e=true) (width:Int) (key:ByteArray) (lo hi:Int):0≤paE l width key lo hi∧paE l width key lo hi≤l.length*5:=by
 have h:=Qdi Qv 5 (l.filter fun e=>decide (e.item=key)&&(decide (lo≤e.at_/Qw width)&&decide (e.at_/Qw width<hi))) fun e he=>Qdw (hm e (List.mem_filter.1 he).1)
 have hl:=List.length_filter_le (fun e:Ev=>decide (e.item=key)&&(decide (lo≤e.at_/Qw width)&&decide (e.at_/Qw width<hi))) l;unfold paE;refine⟨h.1,Int.le_trans h.2 ?_⟩
 exact Int.mul_le_mul_of_nonneg_right (by omega) (by omega)
def Qag (l:List ByteArray):List ByteArray:=l.mergeSort fun a b => !bLt b a
theorem Q36 (a b c:ByteArray) (h1:(!bLt b a)=true) (h2:(!bLt c b)=true):(!bLt c a)=true:=by
 rw[Bool.not_eq_true'] at *
 cases h:bLt c a with
 | false=>rfl
 | true =>
   cases hab:bLt a b with
   | true=>rw[Qav h hab] at h2;cases h2
   | false=>rw[Qb4 hab h1] at h;rw[h] at h2;cases h2
theorem Q35 (a b:ByteArray):((!bLt b a)||(!bLt a b))=true:=by
 cases h:bLt b a with
 | false=>rfl
 | true=>rw[Qg6 h];rfl
theorem Qds (l:List ByteArray):(Qag l).Perm l:=List.mergeSort_perm _ _
theorem Qjx (l:List ByteArray):Srt bLt (Qag l):=by
 have:=List.pairwise_mergeSort (le:=fun a b => !bLt b a) Q36 Q35 l
 exact this.imp fun h=>by simpa using h
theorem Qc4 {l z:List ByteArray} (hp:z.Perm l) (hs:Srt bLt z):z=Qag l :=
 List.Perm.eq_of_pairwise (le:=fun a b=>bLt b a=false) (fun a b _ _ h1 h2=>Qb4 h2 h1) hs (Qjx l) (hp.trans (Qds l).symm)
theorem Qhs {l:List ByteArray} {x:ByteArray}:x∈Qag l↔x∈l:=(Qds l).mem_iff
theorem Qdh (l:List ByteArray):(Qag l).length=l.length:=(Qds l).length_eq
def Qfa (l:List Int):List Int:=l.mergeSort fun x y=>decide (x≤y)
theorem Qen (l:List Int):(Qfa l).Perm l:=List.mergeSort_perm _ _
theorem Qnv (l:List Int):(Qfa l).Pairwise (· ≤ ·):=by
 have:=List.pairwise_mergeSort (le:=fun x y:Int=>decide (x≤y)) (fun a b c h1 h2=>by simp at *;omega) (fun a b=>by simp;omega) l
 exact this.imp fun h=>by simpa using h
theorem Quh {l z:List Int} (hp:z.Perm l) (hs:z.Pairwise (· ≤ ·)):z=Qfa l :=
 List.Perm.eq_of_pairwise (le:=(· ≤ ·)) (fun a b _ _ h1 h2=>Int.le_antisymm h1 h2) hs (Qnv l) (hp.trans (Qen l).symm)
theorem Qnt {l:List Int} {x:Int}:x∈Qfa l↔x∈l:=(Qen l).mem_iff
theorem Quf (l:List Int):(Qfa l).length=l.length:=(Qen l).length_eq
section
open Go.Maps Go.Sort Go.Shelf Go.WideElems
open Go.WideMaps (keyOf_string_mk)
open Go.WideShapes (sorted_perm)
theorem Qq3 {κ:Type} {enc:κ→Value} {P:Program} {k:TypeId} {w:World} {b:Nat} {L:List (κ×Value)} (hm:MapAt w b enc L) (hinj:∀ a b,enc a=enc b→a=b) (lit:κ→Lit) (hk:∀ x∈L,keyOf P k (enc x.1)=some (lit x.1)) (hl:L.length≤1000000000) :
 ∃ es:List (Lit×DataW Unit),w.ownsMap P k (fun _=>some (.nil,[])) b L.length (.map es)∧es.Perm (L.map fun x=>(lit x.1,.nil)):=by
 obtain⟨E,clock,hE,rfl⟩:=hm;have hEl:(strip E).length=E.length:=by simp[strip]
 have hrd:∀ x∈E,rd (H:=Unit) P k (fun _=>some (.nil,[])) (mkE enc x)=some (lit x.1,.nil):=fun x hx =>
  Go.WideElems.rd_mk (P:=P) (k:=k) (R:=fun _=>some (.nil,[])) (val:=x.2.1) (born:=x.2.2) (yv:=(.nil,[])) (hk (x.1,x.2.1) (List.mem_map.2 ⟨x,hx,rfl⟩)) rfl
 refine⟨_,⟨_,clock,hE.block,⟨?_,⟨?_,?_,?_⟩,?_⟩,?_,rfl⟩,?_⟩
 · rw[hEl] at hl;simp only[List.size_toArray,List.length_map];unfold maxLen;omega
 · intro x hx
   simp only[List.mem_map] at hx;obtain⟨y,hy,rfl⟩:=hx
   exact hE.below y hy
 · simp only[List.map_map]
   rw[List.nodup_iff_pairwise_ne,List.pairwise_map]
   exact hE.rising.imp fun h=>by simp only[mkE,Function.comp];omega
 · simp only[List.map_map]
   rw[List.nodup_iff_pairwise_ne,List.pairwise_map]
   exact hE.keys.imp fun h e=>h (hinj _ _ e)
 · intro x hx
   simp only[List.mem_map] at hx;obtain⟨y,hy,rfl⟩:=hx
   exact⟨_,hrd y hy⟩
 · rw[hEl];simp
 · refine(sorted_perm _).trans ?_
   have:(E.map (mkE enc)).toArray.toList.map (rg (H:=Unit) P k (fun _=>some (.nil,[])))=(strip E).map fun x=>(lit x.1,.nil):=by
    simp only[strip,List.map_map]
    exact List.map_congr_left fun x hx=>rg_of (hrd x hx)
   rw[this]
theorem Qek {α:Type} {enc:α→List Value} {sz:Nat} {te:TypeId} {base:Nat} {w:World} {v:Value} {l:List α} {n:Nat} {xs:List Value} (h:w.ownsRow base te sz v n xs) (hn:n=l.length) (hx:xs=l.flatMap enc) :
 ∃ A c,v = .slice A l.length c∧Own enc sz te base w A c l:=by
 subst hn hx;unfold Own;rcases h with⟨h1,⟨h2,h3⟩ | ⟨g,cap,cur,h2,h3⟩⟩
 · refine⟨none,0,by rw[h2,h3],h1,.inl ⟨by rw[h3],h3⟩⟩
 · exact⟨_,cap,h2,h1,.inr ⟨g,cap,cur,rfl,h3⟩⟩
theorem Qml {α:Type} {enc:α→List Value} {sz:Nat} {te:TypeId} {b1 b2:Nat} {w:World} {A:Option Addr} {c:Nat} {l:List α} (h:Own enc sz te b1 w A c l) (hb:b2≤b1):Own enc sz te b2 w A c l:=by
 unfold Own at *;rcases h with⟨h1,h2 | ⟨g,cap,cur,h2,h3,h4⟩⟩
 · exact⟨h1,.inl h2⟩
 · exact⟨h1,.inr ⟨g,cap,cur,h2,by omega,h4⟩⟩
theorem Qh6 {α:Type} (f:α→Value) (l:List α):l.flatMap (fun x => [f x])=l.map f:=by induction l with | nil=>rfl | cons a l ih=>simp[ih]
theorem Qd5 {P:Program} {ρ6:Ren} (S:SlLaysZ.n6 P ρ6) (hsort:∀ m,AnyZ.SortsIn P ρ6 Fence.wide m) (e9:∀ args w,(callFunc (ρ6.f 9) args).run P w = .ok (.enter (ρ6.f 9) args) w) {g:Nat} {lb:Array Value} (eg:∀ args w,(callFunc g args).run P w = .ok (.enter g args) w)
 (hok:Qsg P (ρ6.f 6)) {w:World} {l:List ByteArray} {N:Nat} {Q:List (List UInt8)→Prop} (hQ:∀ ss,Q ss→ss.Perm (l.map fun x=>x.data.toList)) (hN:N≤1000000000) (hseq:SeqGives Fence.wide 2 P g lb encStr Q N w) :
 Cal P (ρ6.f 6) [.func (.func g) #[] lb] w fun r w'=>∃ A c,r = .slice A (Qag l).length c∧Own Qbg 1 (ρ6.t 26) w.heap.size w' A c (Qag l)∧Ext w w':=by
 have hS:=AnyZ.sorted_in S Fence.wide 5 trivial trivial trivial trivial rfl (by omega) (hsort _) e9 g lb trivial eg _ N (by unfold maxLen;omega) (by omega) w hseq;refine⟨hok,(callsIn_wide.1 hS).mono ?_⟩;rintro e w' ⟨v,ss,rfl,hp,hrow,_,hb⟩;have hkeys:=hQ ss hp
 have hz:(ss.mergeSort fun x y=>decide (x≤y)).map (fun x=>(⟨x.toArray⟩:ByteArray))=Qag l:=by
  apply Qc4
  · have h1:=(List.mergeSort_perm ss fun x y=>decide (x≤y)).trans hkeys
    have h2:=h1.map (fun x=>(⟨x.toArray⟩:ByteArray))
    simpa [List.map_map,Function.comp_def] using h2
  · unfold Srt
    rw[List.pairwise_map];have:=List.pairwise_mergeSort (le:=fun x y:List UInt8=>decide (x≤y)) (fun a b c h1 h2=>by simp only[decide_eq_true_eq] at *;exact List.le_trans h1 h2) (fun a b=>by simp only[Bool.or_eq_true,decide_eq_true_eq];exact List.le_total a b) ss;refine this.imp fun {a b} h => ?_
    simp only[decide_eq_true_eq] at h;unfold bLt;rw[ByteArray.toList_eq,ByteArray.toList_eq,bytesLess_eq]
    simpa using h
 obtain⟨A,c,hv,ho⟩:=Qek (enc:=Qbg) (l:=Qag l) hrow (by rw[← hz];simp) (by
  rw[← hz,show Qbg=fun x => [Value.string x] from rfl,Qh6,List.map_map];rfl)
 exact⟨v,rfl,A,c,hv,ho,hb⟩
theorem Qlj {P:Program} {ρ6:Ren} (S:SlLaysZI.n6 P ρ6) (hsort:∀ m,AnyZI.SortsIn P ρ6 Fence.wide m) (e9:∀ args w,(callFunc (ρ6.f 9) args).run P w = .ok (.enter (ρ6.f 9) args) w) {g:Nat} {lb:Array Value} (eg:∀ args w,(callFunc g args).run P w = .ok (.enter g args) w)
 (hok:Qsg P (ρ6.f 6)) {w:World} {l:List Int} {N:Nat} {Q:List Int→Prop} (hQ:∀ ss,Q ss→ss.Perm l) (hN:N≤1000000000) (hseq:SeqGives Fence.wide 2 P g lb (Value.int .i64) Q N w) :
 Cal P (ρ6.f 6) [.func (.func g) #[] lb] w fun r w'=>∃ A c,r = .slice A (Qfa l).length c∧Own Qpf 1 (ρ6.t 26) w.heap.size w' A c (Qfa l)∧Ext w w':=by
 have hS:=AnyZI.sorted_in S Fence.wide 5 trivial trivial trivial trivial rfl (by omega) (hsort _) e9 g lb trivial eg _ N (by unfold maxLen;omega) (by omega) w hseq;refine⟨hok,(callsIn_wide.1 hS).mono ?_⟩;rintro e w' ⟨v,ss,rfl,hp,hrow,_,hb⟩;have hz:(ss.mergeSort fun x y=>decide (x≤y))=Qfa l:=Quh ((Qen ss).trans (hQ ss hp)) (Qnv ss)
 obtain⟨A,c,hv,ho⟩:=Qek (enc:=Qpf) (l:=Qfa l) hrow (by rw[← hz];simp) (by
  rw[← hz,show Qpf=fun x => [Value.int .i64 x] from rfl,Qh6])
 exact⟨v,rfl,A,c,hv,ho,hb⟩
theorem Qjg {P:Program} {ρ7:Ren} (K:SlLaysZ.n10 P ρ7) {w:World} {Bm b:Nat} {L:List (ByteArray×Value)} (hc:w.cell? ⟨Bm,0,none⟩=some (.map (some b))) (hm:MapAt w b Value.string L) (hk:∀ x∈L,x.1.size≤1000000) (hl:L.length≤1000000000) :
 ∃ N Q,N≤1000000000∧(∀ ss:List (List UInt8),Q ss→ss.Perm ((L.map (·.1)).map fun x=>x.data.toList))∧SeqGives Fence.wide 2 P (ρ7.f 10) #[.pointer (some ⟨Bm,0,none⟩)] encStr Q N w:=by
 obtain⟨es,hown,hes⟩:=Qq3 (P:=P) (k:=ρ7.t 26) hm (fun a b e=>by simpa using e) (fun x => .string x.data.toList) (fun x hx=>keyOf_string_mk K.t26 (by have:=hk x hx;unfold maxLen;omega)) hl
 have hsz:Maps.size (.map es)=L.length:=by
  have:=hes.length_eq
  simp at this
  simpa [Maps.size] using this
 refine⟨_,_,?_,fun ss hp => ?_,AnyZ.keys_gives K Fence.wide 2 trivial rfl (by omega) Bm b _ _ w (cell_lt hc) hc hown⟩
 · rw[hsz];exact hl
 · refine hp.trans ?_
   simp only[strKeys];refine(hes.map _).trans ?_;rw[List.map_map,List.map_map]
   exact List.Perm.refl _
theorem Q33 {P:Program} {ρ7:Ren} (K:SlLaysZI.n10 P ρ7) {w:World} {Bm b:Nat} {L:List (Int×Value)} (hc:w.cell? ⟨Bm,0,none⟩=some (.map (some b))) (hm:MapAt w b vi L) (hk:∀ x∈L,0≤x.1∧x.1≤4611686018427387904) (hl:L.length≤1000000000) :
 ∃ N Q,N≤1000000000∧(∀ ss:List Int,Q ss→ss.Perm (L.map (·.1)))∧SeqGives Fence.wide 2 P (ρ7.f 10) #[.pointer (some ⟨Bm,0,none⟩)] (Value.int .i64) Q N w:=by
 obtain⟨es,hown,hes⟩:=Qq3 (P:=P) (k:=ρ7.t 26) hm (fun a b e=>by simpa [vi] using e) (fun x => .int .i64 x) (fun x hx=>keyOf_int_mk K.t26 (by
  have:=hk x hx;simp only[Lit.wf,Bool.and_eq_true,decide_eq_true_eq,show IntKind.i64.min = -9223372036854775808 from by decide,show IntKind.i64.max=9223372036854775807 from by decide];omega)) hl
 have hsz:Maps.size (.map es)=L.length:=by
  have:=hes.length_eq
  simp at this
  simpa [Maps.size] using this
 refine⟨_,_,?_,fun ss hp => ?_,AnyZI.keys_gives K Fence.wide 2 trivial rfl (by omega) Bm b _ _ w (cell_lt hc) hc hown⟩
 · rw[hsz];exact hl
 · refine hp.trans ?_
   simp only[intKeys];refine(hes.map _).trans ?_;rw[List.map_map]
   exact List.Perm.refl _
theorem Qra (w:World) (v:Value) (t:TypeId):(w.alloc (.cells #[v] t)).cell? ⟨w.heap.size,0,none⟩=some v:=by
 exact cell_one_new w v t 0 v rfl
theorem Qhb {P:Program} {ρ7:Ren} (K:SlLaysZ.n7 P ρ7) (hok:Qsg P (ρ7.f 7)) (mb:Option Nat) (w:World) :
 Cal P (ρ7.f 7) [.map mb] w fun r w'=>r = .func (.func (ρ7.f 10)) #[] #[.pointer (some ⟨w.heap.size,0,none⟩)]∧w'.cell? ⟨w.heap.size,0,none⟩=some (.map mb)∧Ext w w':=by
 refine⟨hok,(callsIn_wide.1 (AnyZ.keys_in K Fence.wide 5 trivial rfl mb w)).mono ?_⟩;rintro e w' ⟨rfl,rfl⟩
 exact⟨_,rfl,rfl,Qra _ _ _,(Below.refl _ _).alloc (Nat.le_refl _) _⟩
theorem Q32 {P:Program} {ρ7:Ren} (K:SlLaysZI.n7 P ρ7) (hok:Qsg P (ρ7.f 7)) (mb:Option Nat) (w:World) :
 Cal P (ρ7.f 7) [.map mb] w fun r w'=>r = .func (.func (ρ7.f 10)) #[] #[.pointer (some ⟨w.heap.size,0,none⟩)]∧w'.cell? ⟨w.heap.size,0,none⟩=some (.map mb)∧Ext w w':=by
 refine⟨hok,(callsIn_wide.1 (AnyZI.keys_in K Fence.wide 5 trivial rfl mb w)).mono ?_⟩;rintro e w' ⟨rfl,rfl⟩
 exact⟨_,rfl,rfl,Qra _ _ _,(Below.refl _ _).alloc (Nat.le_refl _) _⟩
end
end Go.Proofs.YtdahooejkjcjiaaGreatDoor
namespace Go.Proofs.YtdahooejkjcjiaaGreatDoor
open Go.Se Go.RowKit
open Go.Maps Go.Sort Go.Shelf
theorem Qjw:Qag [] = []:=by simp[Qag]
theorem Qnu:Qfa [] = []:=by simp[Qfa]
theorem Qup (m:Nat):AnyZ.SortsIn Tryz.prog Tryz.sorted111_ren Fence.wide m :=
 ⟨fun blk off cap ss W h1 h2 h3=>callsIn_wide.2 (AnyM.slices_Sort_string Tryz.sort175 blk off cap ss W h1 h2 h3),fun p cap W=>callsIn_wide.2 (AnyM.slices_Sort_string_none Tryz.sort175 p cap W)⟩
theorem Q9j (m:Nat):AnyZI.SortsIn Tryz.prog Tryz.sorted127_ren Fence.wide m :=
 ⟨fun blk off cap ss W h1 h2 h3=>callsIn_wide.2 (AnyM.slices_Sort_int Tryz.sort195 blk off cap ss W h1 h2 h3),fun p cap W=>callsIn_wide.2 (AnyM.slices_Sort_int_none Tryz.sort195 p cap W)⟩
theorem Q0w (mb:Option Nat) (w:World):Cal Tryz.prog 126 [.map mb] w fun r w'=>r = .func (.func 193) #[] #[.pointer (some ⟨w.heap.size,0,none⟩)]∧w'.cell? ⟨w.heap.size,0,none⟩=some (.map mb)∧Ext w w' :=
 Qhb Tryz.keys126 ⟨_,Tryz.func126,rfl,rfl⟩ mb w
theorem Quk {w:World} {Bm b:Nat} {L:List (ByteArray×Value)} (hc:w.cell? ⟨Bm,0,none⟩=some (.map (some b))) (hm:MapAt w b Value.string L) (hk:∀ x∈L,x.1.size≤1000000) (hl:L.length≤1000000000) :
 Cal Tryz.prog 111 [.func (.func 193) #[] #[.pointer (some ⟨Bm,0,none⟩)]] w fun r w'=>∃ A c,r = .slice A (Qag (L.map (·.1))).length c∧Own Qbg 1 9 w.heap.size w' A c (Qag (L.map (·.1)))∧Ext w w':=by
 obtain⟨N,Q,h1,h2,h3⟩:=Qjg { Tryz.keys126 with } hc hm hk hl
 exact Qd5 Tryz.sorted111 Qup (enters_of Tryz.func175 (by kernel_rfl) rfl) (enters_of Tryz.func193 (by kernel_rfl) rfl) ⟨_,Tryz.func111,rfl,rfl⟩ h2 h1 h3
theorem Q0z (mb:Option Nat) (w:World):Cal Tryz.prog 112 [.map mb] w fun r w'=>r = .func (.func 177) #[] #[.pointer (some ⟨w.heap.size,0,none⟩)]∧w'.cell? ⟨w.heap.size,0,none⟩=some (.map mb)∧Ext w w' :=
 Qhb Tryz.keys112 ⟨_,Tryz.func112,rfl,rfl⟩ mb w
theorem Qun {w:World} {Bm b:Nat} {L:List (ByteArray×Value)} (hc:w.cell? ⟨Bm,0,none⟩=some (.map (some b))) (hm:MapAt w b Value.string L) (hk:∀ x∈L,x.1.size≤1000000) (hl:L.length≤1000000000) :
 Cal Tryz.prog 111 [.func (.func 177) #[] #[.pointer (some ⟨Bm,0,none⟩)]] w fun r w'=>∃ A c,r = .slice A (Qag (L.map (·.1))).length c∧Own Qbg 1 9 w.heap.size w' A c (Qag (L.map (·.1)))∧Ext w w':=by
 obtain⟨N,Q,h1,h2,h3⟩:=Qjg { Tryz.keys112 with } hc hm hk hl
 exact Qd5 Tryz.sorted111 Qup (enters_of Tryz.func175 (by kernel_rfl) rfl) (enters_of Tryz.func177 (by kernel_rfl) rfl) ⟨_,Tryz.func111,rfl,rfl⟩ h2 h1 h3
theorem Qph (mb:Option Nat) (w:World):Cal Tryz.prog 128 [.map mb] w fun r w'=>r = .func (.func 196) #[] #[.pointer (some ⟨w.heap.size,0,none⟩)]∧w'.cell? ⟨w.heap.size,0,none⟩=some (.map mb)∧Ext w w' :=
 Q32 Tryz.keys128 ⟨_,Tryz.func128,rfl,rfl⟩ mb w
theorem Qum {w:World} {Bm b:Nat} {L:List (Int×Value)} (hc:w.cell? ⟨Bm,0,none⟩=some (.map (some b))) (hm:MapAt w b vi L) (hk:∀ x∈L,0≤x.1∧x.1≤4611686018427387904) (hl:L.length≤1000000000) :
 Cal Tryz.prog 127 [.func (.func 196) #[] #[.pointer (some ⟨Bm,0,none⟩)]] w fun r w'=>∃ A c,r = .slice A (Qfa (L.map (·.1))).length c∧Own Qpf 1 3 w.heap.size w' A c (Qfa (L.map (·.1)))∧Ext w w':=by
 obtain⟨N,Q,h1,h2,h3⟩:=Q33 { Tryz.keys128 with } hc hm hk hl
 exact Qlj Tryz.sorted127 Q9j (enters_of Tryz.func195 (by kernel_rfl) rfl) (enters_of Tryz.func196 (by kernel_rfl) rfl) ⟨_,Tryz.func127,rfl,rfl⟩ h2 h1 h3
theorem Qxs {w:World} {Bm:Nat} (hc:w.cell? ⟨Bm,0,none⟩=some (.map none)) :
 Cal Tryz.prog 127 [.func (.func 196) #[] #[.pointer (some ⟨Bm,0,none⟩)]] w fun r w'=>∃ A c,r = .slice A 0 c∧Own Qpf 1 3 w.heap.size w' A c []∧Ext w w':=by
 have:=Qlj Tryz.sorted127 Q9j (enters_of Tryz.func195 (by kernel_rfl) rfl) (enters_of Tryz.func196 (by kernel_rfl) rfl) ⟨_,Tryz.func127,rfl,rfl⟩ (l := []) (fun ss (h:ss = [])=>by rw[h]) (Nat.zero_le _) (AnyZI.keys_gives_nil { Tryz.keys128 with } Fence.wide 2 trivial rfl Bm w (cell_lt hc) hc);simp only[Qjw,Qnu,List.length_nil] at this
 exact this
end Go.Proofs.YtdahooejkjcjiaaGreatDoor
namespace Go.Proofs.YtdahooejkjcjiaaGreatDoor
open Go.Se Go.RowKit
def Q3j:List ByteArray→List ByteArray
 | [] => []
 | a :: l=>if a∈l then Q3j l else a :: Q3j l
theorem Qh1 {x:ByteArray}:∀ {l:List ByteArray},x∈Q3j l↔x∈l
 | []=>Iff.rfl
 | a :: l=>by
   have ih:=Qh1 (x:=x) (l:=l);unfold Q3j
   split
   · next h =>
     rw[ih,List.mem_cons];constructor
     · exact .inr
     · rintro (rfl | h1)
       · exact h
       · exact h1
   · rw[List.mem_cons,List.mem_cons,ih]
theorem Qfp:∀ l:List ByteArray,(Q3j l).Nodup
 | []=>List.nodup_nil
 | a :: l=>by
   have ih:=Qfp l;unfold Q3j
   split
   · exact ih
   · next h=>exact List.nodup_cons.2 ⟨fun h1=>h (Qh1.1 h1),ih⟩
def Qbt (l:List ByteArray):List ByteArray:=Qag (Q3j l)
theorem X7 {l:List ByteArray} {x:ByteArray}:x∈Qbt l↔x∈l:=by unfold Qbt;rw[Qhs,Qh1]
theorem Qf2 (l:List ByteArray):(Qbt l).Nodup:=(Qds _).nodup_iff.2 (Qfp l)
theorem Qhn {K l:List ByteArray} (hn:K.Nodup) (hm:∀ x,x∈K↔x∈l):Qag K=Qbt l:=by
 have hp:K.Perm (Q3j l):=Qfd hn (Qfp l) (fun x hx=>Qh1.2 ((hm x).1 hx)) (fun x hx=>(hm x).2 (Qh1.1 hx))
 exact Qc4 ((Qds K).trans hp) (Qjx K)
theorem Qkw {k l:List ByteArray} (hm:∀ x,x∈k↔x∈l):Qbt k=Qbt l:=Qhn (Qfp k) fun x=>Qh1.trans (hm x)
theorem Qgn (l:List ByteArray):(Qbt l).length≤l.length:=by
 unfold Qbt;rw[Qdh]
 induction l with
 | nil=>simp[Q3j]
 | cons a l ih=>unfold Q3j;split <;> simp <;> omega
theorem Qas {β:Type} {L:List (ByteArray×β)} (h:L.Pairwise (fun x y=>x.1≠y.1)):(L.map (·.1)).Nodup:=by
 rw[List.nodup_iff_pairwise_ne,List.pairwise_map];exact h
theorem Qjk {β:Type} {L:List (ByteArray×β)} {k:ByteArray}:k∈L.map (·.1)↔(Qe L k).isSome=true:=by
 cases h:Qe L k with
 | none =>
   have:=Qhy.1 h;simp only[List.mem_map,Option.isSome_none,Bool.false_eq_true,iff_false];rintro ⟨x,hx,rfl⟩
   exact this x hx rfl
 | some v =>
   have:=Qbs h;simp only[Option.isSome_some,iff_true,List.mem_map]
   exact⟨_,this,rfl⟩
abbrev Grp:=Int×Int×List ByteArray
def Qdq (gap:Int) (acc:List Grp) (t:Int) (its:List ByteArray):List Grp :=
 match acc.getLast? with
 | some g=>if gap<t-g.2.1 then acc ++ [(t,t,its)] else acc.dropLast ++ [(g.1,t,g.2.2++its)]
 | none => [(t,t,its)]
abbrev Qe7:=List (Int×List (ByteArray×Bool))
def Xz (k:Qe7) (t:Int):List ByteArray:=((Qe k t).getD []).map (·.1)
def Qgz (gap:Int) (k:Qe7) (ts:List Int):List Grp:=ts.foldl (fun acc t=>Qdq gap acc t (Xz k t)) []
def Xbw (gap:Int) (k:Qe7):List Grp:=Qgz gap k (Qfa (k.map (·.1)))
theorem Qh3 (gap:Int) (k:Qe7) (ts:List Int) (t:Int):Qgz gap k (ts ++ [t])=Qdq gap (Qgz gap k ts) t (Xz k t):=by unfold Qgz;rw[List.foldl_append];rfl
structure Sn where
 person:ByteArray
 from_:Int
 to_:Int
 items:List ByteArray
deriving DecidableEq,Inhabited
def Q6i (person:ByteArray) (g:Grp):Sn:=⟨person,g.1,g.2.1,Qbt g.2.2⟩
def Qf3 (gap:Int) (ss:Ses) (person:ByteArray):List Sn:=(Xbw gap ((Qe ss person).getD [])).map (Q6i person)
def Qhp (gap:Int) (ss:Ses):List Sn:=(Qag (ss.map (·.1))).flatMap (Qf3 gap ss)
theorem Q96 (gap:Int) (acc:List Grp) (t:Int) (its:List ByteArray):(Qdq gap acc t its).length≤acc.length+1:=by
 unfold Qdq
 split
 · next g h =>
   split
   · simp
   · simp
 · simp
theorem Q3o (gap:Int) (k:Qe7):∀ ts:List Int,(Qgz gap k ts).length≤ts.length:=by
 refine Xf (by simp[Qgz]) fun l t ih => ?_
 rw[Qh3];have:=Q96 gap (Qgz gap k l) t (Xz k t)
 simp;omega
theorem Q7m (gap:Int) (k:Qe7):(Xbw gap k).length≤k.length:=by
 have:=Q3o gap k (Qfa (k.map (·.1)));rw[Quf,List.length_map] at this
 exact this
def hasB (a:ByteArray) (s:Sn):Bool:=decide (a∈s.items)
def Qho (S:List Sn) (a:ByteArray):Nat:=(S.filter (hasB a)).length
def Qa7 (S:List Sn) (a b:ByteArray):Nat:=(S.filter fun s=>hasB a s&&hasB b s).length
theorem Q5t (S:List Sn) (a:ByteArray):Qho S a≤S.length:=List.length_filter_le _ _
theorem Qnj (S:List Sn) (a b:ByteArray):Qa7 S a b≤S.length:=List.length_filter_le _ _
def Qlu (half now:Int) (e:Ev):Int:=Qv e*Xo (now-e.at_) half
def Qdm (n:Int) (m:List (ByteArray×Int)) (t:ByteArray):List (ByteArray×Int):=Xp m t (IntKind.i64.wrap ((Qe m t).getD 0+n))
def Qfo (half now:Int) (m:List (ByteArray×Int)) (r:Row):List (ByteArray×Int):=if now<r.1.at_ then m else r.2.foldl (Qdm (Qlu half now r.1)) m
def Qyc (half now:Int) (rows:List Row):List (ByteArray×Int):=rows.foldl (Qfo half now) []
theorem Qj6 (half now:Int) (l:List Row) (r:Row):Qyc half now (l ++ [r])=Qfo half now (Qyc half now l) r:=by unfold Qyc;rw[List.foldl_append];rfl
theorem Qye (n:Int) (m:List (ByteArray×Int)) (l:List ByteArray) (t:ByteArray):(l ++ [t]).foldl (Qdm n) m=Qdm n (l.foldl (Qdm n) m) t:=by rw[List.foldl_append];rfl
def Q6j (half now:Int) (rows:List Row):List (ByteArray×Int):=(Qyc half now rows).filter fun x=>decide (0<x.2)
def rowsOf (rs:List Row) (person:ByteArray):List Row:=rs.filter fun r=>decide (r.1.person=person)
theorem Qp2 {half now:Int} {e:Ev} (hm:Xn e=true):0≤Qlu half now e∧Qlu half now e≤5242880:=by
 have h1:=Qdw hm;have h2:=Qc5 (now-e.at_) half;unfold Qlu;refine⟨Int.mul_nonneg h1.1 h2.1,?_⟩;have:Qv e*Xo (now-e.at_) half≤5*1048576:=Int.mul_le_mul h1.2 h2.2 h2.1 (by omega);omega
theorem Q2m (tg:List ByteArray) (n:Int) (l:List (ByteArray×Int)):((tg.foldl (Qdm n) l).length)≤l.length+tg.length:=by
 induction tg generalizing l with
 | nil=>simp
 | cons t tg ih =>
   have:=ih (Qdm n l t);have h2:=Qf9 t (IntKind.i64.wrap ((Qe l t).getD 0+n)) l;simp only[List.foldl_cons,List.length_cons];unfold Qdm at *;omega
theorem Qz4 (half now:Int):∀ rows:List Row,(Qyc half now rows).length≤(rows.map fun r=>r.2.length).sum:=by
 refine Xf (by simp[Qyc]) fun l r ih => ?_
 rw[Qj6,List.map_append,List.sum_append];unfold Qfo
 split
 · simp;omega
 · have:=Q2m r.2 (Qlu half now r.1) (Qyc half now l)
   simp;omega
theorem Qyd (n:Int) (tg:List ByteArray):∀ l:List (ByteArray×Int),l.Pairwise (fun x y=>x.1≠y.1)→(tg.foldl (Qdm n) l).Pairwise (fun x y=>x.1≠y.1):=by
 induction tg with
 | nil=>intro l h;exact h
 | cons t tg ih=>intro l h;exact ih _ (Qbm h)
theorem Qu2 (half now:Int):∀ rows:List Row,(Qyc half now rows).Pairwise (fun x y=>x.1≠y.1):=by
 refine Xf (by simp[Qyc]) fun l r ih => ?_
 rw[Qj6];unfold Qfo
 split
 · exact ih
 · exact Qyd _ _ _ ih
def Q6k (half now:Int) (rows:List Row) (t:ByteArray):Int:=((rows.filter fun r=>decide (r.1.at_≤now)&&decide (t∈r.2)).map fun r=>Qlu half now r.1).sum
theorem Xa5 (n:Int) (t:ByteArray):∀ (tg:List ByteArray),tg.Nodup→∀ m:List (ByteArray×Int),(Qe (tg.foldl (Qdm n) m) t)=if t∈tg then some (IntKind.i64.wrap ((Qe m t).getD 0+n)) else Qe m t:=by
 intro tg
 induction tg with
 | nil=>intro _ m;simp
 | cons a tg ih =>
   intro hn m;rw[List.nodup_cons] at hn;rw[List.foldl_cons,ih hn.2];unfold Qdm
   by_cases h1:t=a
   · subst h1
     rw[if_neg hn.1,X4,if_pos rfl,if_pos (by simp)]
   · rw[X4,if_neg h1]
     by_cases h2:t∈tg
     · rw[if_pos h2,if_pos (by simp[h2])]
     · rw[if_neg h2,if_neg (by simp[h1,h2])]
theorem Q59 (half now:Int) (t:ByteArray):∀ rows:List Row,(∀ r∈rows,Xn r.1=true∧r.2.Nodup)→rows.length<1000000→((Qe (Qyc half now rows) t).getD 0=Q6k half now rows t)∧0≤Q6k half now rows t∧Q6k half now rows t≤rows.length*5242880∧((Qe (Qyc half now rows) t).isSome=true↔∃ r∈rows,r.1.at_≤now∧t∈r.2):=by
 refine Xf (fun _ _=>by simp[Qyc,Q6k,Qe]) fun l r ih h hl => ?_
 have hl':l.length<1000000:=by simp at hl;omega
 obtain⟨i1,i2,i3,i4⟩:=ih (fun x hx=>h x (by simp[hx])) hl';have hr:=h r (by simp);have hb:=Qp2 (half:=half) (now:=now) hr.1;have hlen:(((l ++ [r]).length:Nat):Int)=l.length+1:=by simp
 rw[Qj6];unfold Qfo
 have hS:Q6k half now (l ++ [r]) t=Q6k half now l t+if r.1.at_≤now∧t∈r.2 then Qlu half now r.1 else 0:=by
  unfold Q6k;rw[List.filter_append,List.map_append,List.sum_append]
  by_cases hc:r.1.at_≤now∧t∈r.2
  · simp[hc.1,hc.2]
  · have:(decide (r.1.at_≤now)&&decide (t∈r.2))=false:=by
     rw[Bool.and_eq_false_iff]
     by_cases h1:r.1.at_≤now
     · exact .inr (by simpa using fun h2=>hc ⟨h1,h2⟩)
     · exact .inl (by simpa using h1)
    rw[if_neg hc]
    simp[this]
 rw[hS]
 by_cases hnow:now<r.1.at_
 · rw[if_pos hnow,if_neg (by omega)]
   refine⟨by rw[i1];omega,by omega,by rw[hlen,Int.add_mul];omega,i4.trans ⟨?_,?_⟩⟩
   · rintro ⟨x,hx,h1⟩;exact⟨x,by simp[hx],h1⟩
   · rintro ⟨x,hx,h1,h2⟩
     rcases List.mem_append.1 hx with hx | hx
     · exact⟨x,hx,h1,h2⟩
     · have:x=r:=by simpa using hx
       subst this;omega
 · rw[if_neg hnow,Xa5 _ _ _ hr.2]
   by_cases ht:t∈r.2
   · rw[if_pos ht,if_pos ⟨by omega,ht⟩,i1]
     refine⟨?_,by omega,by rw[hlen,Int.add_mul];omega,by simp only[Option.isSome_some,true_iff];exact⟨r,by simp,by omega,ht⟩⟩;simp only[Option.getD_some]
     exact(wrap_eq rfl ⟨by omega,by omega⟩).symm
   · rw[if_neg ht,if_neg (fun hc=>ht hc.2)]
     refine⟨by rw[i1];omega,by omega,by rw[hlen,Int.add_mul];omega,i4.trans ⟨?_,?_⟩⟩
     · rintro ⟨x,hx,h1⟩;exact⟨x,by simp[hx],h1⟩
     · rintro ⟨x,hx,h1,h2⟩
       rcases List.mem_append.1 hx with hx | hx
       · exact⟨x,hx,h1,h2⟩
       · have:x=r:=by simpa using hx
         subst this;exact absurd h2 ht
theorem Xaq (width:Int):∀ l:List Ev,(Qg0 width l).Pairwise (fun x y=>x.1≠y.1):=by
 refine Xf (by simp[Qg0]) fun l e ih => ?_
 rw[Qrm];unfold Qpq
 split
 · exact ih
 · exact Qbm ih
theorem Qo1 {κ β:Type} [DecidableEq κ] (x:κ×β) (l:List (κ×β)) (k:κ):Qe (x :: l) k=if k=x.1 then some x.2 else Qe l k:=rfl
theorem Qni {s:Qbp} {key:ByteArray} {lo hi:Int} (h:hi≤lo):paS s key lo hi=0:=by
 unfold paS
 have:(s.filter fun x=>decide (x.1.1=key)&&(decide (lo≤x.1.2)&&decide (x.1.2<hi))) = []:=by
  rw[List.filter_eq_nil_iff];intro x _
  simp
  omega
 rw[this];rfl
theorem Qrh (x:PK×Int) (s:Qbp) (key:ByteArray) (lo hi:Int):paS (x :: s) key lo hi=(if x.1.1=key∧lo≤x.1.2∧x.1.2<hi then x.2 else 0)+paS s key lo hi:=by
 unfold paS;rw[List.filter_cons]
 by_cases h:x.1.1=key∧lo≤x.1.2∧x.1.2<hi
 · rw[if_pos (by simp[h.1,h.2.1,h.2.2]),if_pos h];simp
 · rw[if_neg (by simpa using h),if_neg h];omega
theorem Q71 {s:Qbp} (hp:s.Pairwise (fun x y=>x.1≠y.1)) (key:ByteArray) (lo hi:Int) (h:lo≤hi):paS s key lo (hi+1)=paS s key lo hi+(Qe s (key,hi)).getD 0:=by
 induction s with
 | nil=>simp[paS,Qe]
 | cons x s ih =>
   rw[List.pairwise_cons] at hp;have ih:=ih hp.2;rw[Qrh,Qrh,ih,Qo1]
   by_cases hk:(key,hi)=x.1
   · rw[if_pos hk]
     have h0:Qe s (key,hi)=none:=Qhy.2 fun y hy=>by rw[hk];exact fun e=>hp.1 y hy e.symm
     rw[h0,if_pos (by rw[← hk];simp;omega),if_neg (by rw[← hk];simp)]
     simp
     omega
   · rw[if_neg hk]
     have:(x.1.1=key∧lo≤x.1.2∧x.1.2<hi+1)↔(x.1.1=key∧lo≤x.1.2∧x.1.2<hi):=by
      constructor
      · rintro ⟨h1,h2,h3⟩
        refine⟨h1,h2,?_⟩;have:x.1.2≠hi:=fun e=>hk (by rw[← h1,← e])
        omega
      · rintro ⟨h1,h2,h3⟩;exact⟨h1,h2,by omega⟩
     by_cases hc:x.1.1=key∧lo≤x.1.2∧x.1.2<hi
     · rw[if_pos hc,if_pos (this.2 hc)];omega
     · rw[if_neg hc,if_neg (fun h=>hc (this.1 h))];omega
def Q6h (s:Qbp) (key:ByteArray) (lo hi:Int) (row:List Int):Int:=((row.filter fun n=>decide (lo≤n)&&decide (n<hi)).map fun n=>(Qe s (key,n)).getD 0).sum
theorem Q5e (s:Qbp) (key:ByteArray) (lo hi:Int) (row:List Int) (n:Int):Q6h s key lo hi (row ++ [n])=Q6h s key lo hi row+if lo≤n∧n<hi then(Qe s (key,n)).getD 0 else 0:=by
 unfold Q6h;rw[List.filter_append,List.map_append,List.sum_append]
 by_cases h:lo≤n∧n<hi
 · simp[h.1,h.2]
 · rw[if_neg h]
   have:(decide (lo≤n)&&decide (n<hi))=false:=by simpa using fun h1=>by omega
   simp[this]
theorem Q8c {s:Qbp} (hp:s.Pairwise (fun x y=>x.1≠y.1)) (key:ByteArray) (lo hi:Int):Q6h s key lo hi (Qa9 s key)=paS s key lo hi:=by
 unfold Q6h Qa9 paS;rw[List.filter_map,List.map_map,List.filter_filter]
 have:(s.filter fun a=>(Function.comp (fun n=>decide (lo≤n)&&decide (n<hi)) fun x:PK×Int=>x.1.2) a&&decide (a.1.1=key))=s.filter fun x=>decide (x.1.1=key)&&(decide (lo≤x.1.2)&&decide (x.1.2<hi)):=by
  apply List.filter_congr
  intro x _;simp only[Function.comp];rw[Bool.and_comm]
 rw[this]
 congr 1
 apply List.map_congr_left
 intro x hx;have hm:=List.mem_filter.1 hx;have hk:x.1.1=key:=by have:=hm.2;simp at this;exact this.1
 simp only[Function.comp];rw[← hk,Qd1 hp (show ((x.1.1,x.1.2),x.2)∈s from hm.1)]
 rfl
theorem Q4t {s:Qbp} {N:Int} (h:Qg2 s N) (hN:0≤N) (key:ByteArray) (lo hi:Int):0≤paS s key lo hi∧paS s key lo hi≤s.length*N:=by
 have hb:=Qdi (fun x:PK×Int=>x.2) N (s.filter fun x=>decide (x.1.1=key)&&(decide (lo≤x.1.2)&&decide (x.1.2<hi))) fun x hx=>by
  have:=h x (List.mem_filter.1 hx).1
  exact⟨by omega,this.2⟩
 have hl:=List.length_filter_le (fun x:PK×Int=>decide (x.1.1=key)&&(decide (lo≤x.1.2)&&decide (x.1.2<hi))) s;unfold paS;refine⟨hb.1,Int.le_trans hb.2 (Int.mul_le_mul_of_nonneg_right (by omega) hN)⟩
end Go.Proofs.YtdahooejkjcjiaaGreatDoor
