/- Several texts in one: Rd3, Pl1, Rd1, Rd2, Pl2, Pl3, Pl4. -/
import Derived.Test.YteabekcdcphjpaaGreatDoorGF
import Derived.Laws.IdiomRangeMap
import Derived.Test.YteabekcdcphjpaaGreatDoorHKeyL
set_option linter.unusedVariables false
set_option linter.unusedSimpArgs false
namespace Go.Proofs.YteabekcdcphjpaaGreatDoor
open Go.Se Go.RowKit
theorem Qqf (a b:Int):IntKind.i64.wrap (IntKind.i64.wrap a+b)=IntKind.i64.wrap (a+b):=by
 simp only[IntKind.wrap,IntKind.bits,IntKind.signed]
 simp
 split <;> split <;> split <;> omega
theorem Q24 (a b:Int):IntKind.i64.wrap (a+IntKind.i64.wrap b)=IntKind.i64.wrap (a+b):=by
 rw[Int.add_comm,Qqf,Int.add_comm]
theorem Q9w:IntKind.i64.wrap 0=0:=by decide
def Xq (age half:Int):Int:=if age<0 then 0 else if 20<age/max half 1 then 0 else(1048576:Int).fdiv (2 ^ (age/max half 1).toNat)
theorem Qor (age half:Int) (ha:-4611686018427387904<=age/\age<=9223372036854775807) (w:World) :
 Cal Tryz.prog 77 [.int .i64 age,.int .i64 half] w fun r w'=>r = .int .i64 (Xq age half)/\w'=w:=by
 have hm:max half 1≠0:=by omega
 refine Fi Tryz.func77 rfl _ rfl rfl (Hh ?_);constructor
 . intro hc
   have hc:age<0:=by simpa using hc
   conv=>whnf
   exact⟨by rw[Xq,if_pos hc],rfl⟩
 . intro hc
   have hc:¬ age<0:=by simpa using hc
   have h1:age.tdiv (max half 1)=age/max half 1:=Int.tdiv_eq_ediv_of_nonneg (by omega);have h2:0<=age/max half 1:=Int.ediv_nonneg (by omega) (by omega);have h3:age/max half 1<=age:=Int.ediv_le_self _ (by omega);have hw:Xq age half=if 20<age/max half 1 then 0 else(1048576:Int).fdiv (2 ^ (age/max half 1).toNat):=by rw[Xq,if_neg hc]
   rw[hw];clear hw
   conv=>whnf
   refine⟨age/max half 1,⟨hm,wrap_eq h1.symm ⟨by omega,by omega⟩⟩,Hh ?_⟩;generalize age/max half 1=n at h2 h3 ⊢;constructor
   . intro hn
     have hn:20<n:=by simpa using hn
     conv=>whnf
     exact⟨by rw[if_pos hn],rfl⟩
   . intro hn
     have hn:¬ 20<n:=by simpa using hn
     have hmin:min n.toNat IntKind.i64.bits=n.toNat:=by simp only[IntKind.bits];omega
     conv=>whnf
     refine⟨(1048576:Int).fdiv (2 ^ n.toNat),⟨h2,by rw[hmin]⟩,Hh ?_⟩
     exact⟨by rw[if_neg hn],rfl⟩
def Qo7 (half now:Int) (r:List (Int×Int)):Int:=(r.map fun x=>x.2*Xq (now-x.1) half).sum
theorem Q8f {l m:List Int} (h:l.Perm m):l.sum=m.sum:=by
 induction h with
 | nil=>rfl
 | cons a _ ih=>simp[ih]
 | swap a b l=>simp only[List.sum_cons];omega
 | trans _ _ h1 h2=>exact h1.trans h2
theorem Q2s {half now:Int} {r s:List (Int×Int)} (h:r.Perm s):Qo7 half now r=Qo7 half now s:=Q8f (h.map _)
def Qaf (s:Qih) (half:Int) (key:ByteArray) (now:Int):Int:=IntKind.i64.wrap (Qo7 half now ((Qe s key).getD []))
theorem Q5k {P:Program} {w:World} {mt kt et:TypeId} (ht:P.underlying mt=some (.map kt et)) {R:Value->World->Prop}
 (h:∀ w',Ext w w'->w'.heap[w.heap.size]? = some (.mapIter none 0 #[] 0)->R (.pointer (some ⟨w.heap.size,0,none⟩)) w'):Qk5 P (Instr.range mt (.map none)) w R:=by
 refine⟨_,_,Go.run_range_nilMap w mt kt et ht,h _ ((Below.refl _ _).alloc (Nat.le_refl _) _) (heap_alloc_new w _)⟩
theorem Q75 {P:Program} {w:World} {r:Nat} {a b:Nat} {s:Array Nat} {ty:TypeId} (hr:w.heap[r]? = some (.mapIter none a s b)) {R:Value->World->Prop} (h:R (.tuple #[.bool false]) w):Qk5 P (Instr.next (.pointer (some ⟨r,0,none⟩)) false ty) w R:=by
 refine⟨_,_,?_,h⟩;simp only[Instr.next,getObj,Sem.run_bind,Sem.run,hr,Result.andThen]
 rfl
theorem Q23 {vs L:List (Int×Int)} (h:(Qas vi vs).Perm (Qas vi L)):vs.Perm L:=by
 have h1:=h.map (fun x:Int×Value=>(x.1,match x.2 with | .int _ n=>n | _=>0))
 simpa [Qas,List.map_map,Function.comp_def,vi] using h1
theorem Qj9 (w:World) (S:Nat->Prop) (p:Nat) (half n:Int) (s:Qih) (h:Qls w S p half n s) (key:ByteArray) (now:Int) (hnow:0<=now/\now<=1099511627776) (ht:∀ r,Qe s key=some r->∀ x∈r,0<=x.1/\x.1<=1099511627776) :
 Cal Tryz.prog 15 [.pointer (some ⟨p,0,none⟩),.string key,.int .i64 now] w fun r w'=>r = .int .i64 (Qaf s half key now)/\Ext w w':=by
 obtain⟨bm,h⟩:=h;have hplt:=h.head.lt;have hhead:=h.head;refine Fi Tryz.func15 rfl _ rfl rfl (Hh ?_);constructor
 . intro hc
   have hc:now<0:=by simpa using hc
   omega
 intro _
 conv=>whnf
 refine⟨.map (some bm),h.head.one rfl,Hh ?_⟩;rcases h.sums.look Xn Qym (Q9 Qae) (e:=ty122) ty122_ok rfl key with⟨hno,hrd⟩ | ⟨b,m,Sk,hsome,hrd,hIv,hSk,_⟩
 . have hres:Qaf s half key now=0:=by unfold Qaf;rw[hno];exact Q9w
   rw[hres];refine⟨_,hrd .same Xb,Hh ?_⟩;refine Q5k Q20 fun w2 hx2 hr2 => ?_
   generalize w.heap.size=r at hr2 ⊢
   conv=>whnf
   refine Qd Qa (fun(_:Unit) w'=>w'=w2) (fun _ => [(19,.pointer (some ⟨r,0,none⟩)),(7,.int .i64 0)]) (fun _=>0) () rfl Rr ?_;rintro _ w3 rfl
   conv=>whnf
   refine Q75 hr2 ?_
   conv=>whnf
   constructor
   . intro hh;cases hh
   intro _
   conv=>whnf
   exact⟨rfl,hx2⟩
 . have hm:=hIv.2
   have ht:=ht m hsome;have hres:Qaf s half key now=IntKind.i64.wrap (Qo7 half now m):=by unfold Qaf;rw[hsome];rfl
   rw[hres];refine⟨_,hrd .same Xb,Hh ?_⟩;refine map_range Q20 hm fun w3 hi3 hx3 => ?_
   have hrw:w.heap.size<=w.heap.size:=Nat.le_refl _;generalize hr:w.heap.size=r at hi3 ⊢
   conv=>whnf
   refine Qd Qa (fun(q:List (Int×Int)×Int) w'=>Ext w w'/\Iter w' r b vi (Qas vi m) (Qas vi q.1)/\q.2=IntKind.i64.wrap (Qo7 half now q.1))
    (fun | (vs,z) => [(0,.pointer (some ⟨p,0,none⟩)),(2,.int .i64 now),(19,.pointer (some ⟨r,0,none⟩)),(7,.int .i64 z)]) (fun q=>m.length-q.1.length) ([],0) ⟨hx3,hi3,Q9w.symm⟩ Rr ?_
   clear hi3 hx3;rintro ⟨vs,z⟩ w4 ⟨hx4,hi4,hz⟩;simp only at hi4 hz
   conv=>whnf
   refine Qea hi4 (fun hp => ?_) (fun x w5 hin hnew hlt hi5 ho5 hen => ?_)
   . have hp:=Q23 hp
     conv=>whnf
     constructor
     . intro hh;cases hh
     intro _
     conv=>whnf
     exact⟨by rw[hz,Q2s hp],hx4⟩
   . obtain⟨y,hy,rfl⟩:=List.mem_map.1 hin
     have hlt:vs.length<m.length:=by simpa [Qas] using hlt
     have hvs:Qas vi vs ++ [(y.1,vi y.2)]=Qas vi (vs ++ [y]):=by simp[Qas]
     rw[hvs] at hi5;have hx5:=ho5.ext hx4 (by omega);have hty:=ht y hy
     have hsn:IntKind.i64.wrap (Qo7 half now (vs ++ [y]))=IntKind.i64.wrap (z+IntKind.i64.wrap (y.2*Xq (now-y.1) half)):=by
      rw[hz,Qqf,Q24]
      simp[Qo7]
     conv=>whnf
     constructor
     . intro _
       conv=>whnf
       refine Qa8 (hen w5 rfl rfl) ?_
       conv=>whnf
       refine⟨now-y.1,wrap_eq rfl ⟨by omega,by omega⟩,Hh ?_⟩;refine⟨_,(hhead.ext hx5).one rfl,Hh ?_⟩;refine(Qor (now-y.1) half ⟨by omega,by omega⟩ w5).mono ?_;rintro _ _ ⟨rfl,rfl⟩
       conv=>whnf
       refine⟨_,rfl,Hh ?_⟩;refine⟨_,rfl,Hh ?_⟩
       exact⟨(vs ++ [y],_),by simp;omega,⟨hx5,hi5,hsn.symm⟩,Rr⟩
     . intro hh;cases hh
instance memDec (a:ByteArray) (l:List ByteArray):Decidable (a∈l):=decidable_of_iff (l.any (fun b=>decide (b=a))=true) (by simp)
def wpB (e:Ev):Bool:=decide (0<Qw e)
theorem Xbs {e:Ev} (h:wpB e=true):e.kind=1\/e.kind=2\/e.kind=3\/e.kind=4:=by
 have h:0<Qw e:=by simpa [wpB] using h
 unfold Qw at h
 by_cases h1:e.kind=1
 . exact .inl h1
 by_cases h2:e.kind=2
 . exact .inr (.inl h2)
 by_cases h3:e.kind=3
 . exact .inr (.inr (.inl h3))
 by_cases h4:e.kind=4
 . exact .inr (.inr (.inr h4))
 rw[if_neg h1,if_neg h2,if_neg h3,if_neg h4] at h;omega
def Qf2 (l:List Ev):Qih:=l.foldl (fun s e=>Qp1 s e.item e.at_ (Qw e)) []
def Qgs (width:Int) (l:List Ev):Qbm:=l.foldl (fun s e=>Qp0 s (e.item,e.at_/Qv width) (Qw e)) []
def Qh5 (l:List Ev):Ses:=l.foldl (fun s e=>Q6v s e.person e.at_ e.item) []
theorem Qm5 (l:List Ev) (e:Ev):Qf2 (l ++ [e])=Qp1 (Qf2 l) e.item e.at_ (Qw e):=by unfold Qf2;rw[List.foldl_append];rfl
theorem Qrv (width:Int) (l:List Ev) (e:Ev):Qgs width (l ++ [e])=Qp0 (Qgs width l) (e.item,e.at_/Qv width) (Qw e):=by unfold Qgs;rw[List.foldl_append];rfl
theorem Qx2 (l:List Ev) (e:Ev):Qh5 (l ++ [e])=Q6v (Qh5 l) e.person e.at_ e.item:=by unfold Qh5;rw[List.foldl_append];rfl
theorem Qb6 (width:Int) (z:List Ev):(Ql width z).ds=Qf2 (z.filter wpB)/\(Ql width z).ps=Qgs width (z.filter wpB)/\(Ql width z).ss=Qh5 (z.filter wpB):=by
 induction z using Xf with
 | h0=>exact⟨rfl,rfl,rfl⟩
 | h1 l a ih =>
   rw[Qc7,List.filter_append];unfold Qd7
   cases hw:wpB a with
   | true =>
     have hk:=Xbs hw;have h0:0<Qw a:=by simpa [wpB] using hw
     have e1 : [a].filter wpB = [a]:=by simp[hw]
     rw[e1,Qm5,Qrv,Qx2,if_neg (by omega),if_neg (by omega),if_pos h0,<- ih.1,<- ih.2.1,<- ih.2.2]
     exact⟨rfl,rfl,rfl⟩
   | false =>
     have h0:¬ 0<Qw a:=by simpa [wpB] using hw
     have e1 : [a].filter wpB = []:=by simp[hw]
     rw[e1,List.append_nil,<- ih.1,<- ih.2.1,<- ih.2.2]
     split
     . exact⟨rfl,rfl,rfl⟩
     split
     . exact⟨rfl,rfl,rfl⟩
     exact⟨rfl,rfl,rfl⟩
def Qoz (l:List Ev) (half:Int) (key:ByteArray) (now:Int):Int:=((l.filter fun e=>decide (e.item=key)).map fun e=>Qw e*Xq (now-e.at_) half).sum
theorem Qz7 (f:Int->Int) (t n:Int):∀ r:List (Int×Int),((Xr r t ((Qe r t).getD 0+n)).map fun x=>x.2*f x.1).sum=(r.map fun x=>x.2*f x.1).sum+n*f t
 | []=>by simp[Xr,Qe]
 | x :: r=>by
   have ih:=Qz7 f t n r;unfold Xr Qe
   by_cases h:t=x.1
   . rw[if_pos h,if_pos h]
     simp only[Option.getD_some,List.map_cons,List.sum_cons];rw[Int.add_mul,h];omega
   . rw[if_neg h,if_neg h]
     simp only[List.map_cons,List.sum_cons];rw[ih];omega
theorem Xb9 (half:Int) (key:ByteArray) (now:Int):∀ l:List Ev,(∀ e∈l,wpB e=true)->Qo7 half now ((Qe (Qf2 l) key).getD [])=Qoz l half key now:=by
 refine Xf (fun _=>by simp[Qf2,Qe,Qo7,Qoz]) fun l e ih h => ?_
 have ih:=ih fun x hx=>h x (by simp[hx])
 have hw:0<Qw e:=by simpa [wpB] using h e (by simp)
 rw[Qm5];unfold Qoz Qp1 at *;rw[if_neg (by omega),List.filter_append,List.map_append,List.sum_append,<- ih,X0]
 by_cases hk:key=e.item
 . subst hk
   rw[if_pos rfl];simp only[Option.getD_some];have hs:=Qz7 (fun t=>Xq (now-t) half) e.at_ (Qw e) ((Qe (Qf2 l) e.item).getD []);unfold Qo7;rw[hs]
   simp
 . rw[if_neg hk]
   have:decide (e.item=key)=false:=by simp;exact fun h=>hk h.symm
   simp[this]
theorem Qzc:∀ l:List Ev,∀ key r,Qe (Qf2 l) key=some r->∀ x∈r,∃ e∈l,e.at_=x.1/\e.item=key:=by
 refine Xf (fun key r h=>by simp[Qf2,Qe] at h) fun l e ih key r h x hx => ?_
 rw[Qm5] at h;unfold Qp1 at h
 split at h
 . obtain⟨y,hy,h1⟩:=ih key r h x hx
   exact⟨y,by simp[hy],h1⟩
 . rw[X0] at h
   by_cases hk:key=e.item
   . rw[if_pos hk] at h
     injection h with h;subst h;rcases Qcq hx with rfl | hx
     . exact⟨e,by simp,rfl,hk.symm⟩
     . cases hl:Qe (Qf2 l) e.item with
       | none=>rw[hl] at hx;simp at hx
       | some r =>
         rw[hl] at hx;obtain⟨y,hy,h1⟩:=ih e.item r hl x hx
         exact⟨y,by simp[hy],h1.1,h1.2.trans hk.symm⟩
   . rw[if_neg hk] at h
     obtain⟨y,hy,h1⟩:=ih key r h x hx
     exact⟨y,by simp[hy],h1⟩
theorem Qc1 (age half:Int):0<=Xq age half/\Xq age half<=1048576:=by
 unfold Xq
 split
 . omega
 split
 . omega
 . rw[Int.fdiv_eq_ediv_of_nonneg _ (by exact Int.le_of_lt (Int.pow_pos (by omega)))]
   exact⟨Int.ediv_nonneg (by omega) (Int.le_of_lt (Int.pow_pos (by omega))),Int.ediv_le_self _ (by omega)⟩
theorem Qdd {α:Type} (f:α->Int) (M:Int):∀ l:List α,(∀ x∈l,0<=f x/\f x<=M)->0<=(l.map f).sum/\(l.map f).sum<=l.length*M
 | [],_=>by simp
 | x :: l,h=>by
   have h1:=h x (by simp);have ih:=Qdd f M l fun y hy=>h y (by simp[hy])
   simp only[List.map_cons,List.sum_cons,List.length_cons]
   have:((l.length+1:Nat):Int)*M=l.length*M+M:=by
    rw[show ((l.length+1:Nat):Int)=(l.length:Int)+1 by omega,Int.add_mul];omega
   rw[this];omega
theorem Q5h {l:List Ev} (hm:∀ e∈l,Xp e=true) (half:Int) (key:ByteArray) (now:Int):0<=Qoz l half key now/\Qoz l half key now<=l.length*5242880:=by
 have h:=Qdd (fun e:Ev=>Qw e*Xq (now-e.at_) half) 5242880 (l.filter fun e=>decide (e.item=key)) fun e he=>by
  have h1:=Qdt (hm e (List.mem_filter.1 he).1);have h2:=Qc1 (now-e.at_) half;refine⟨Int.mul_nonneg h1.1 h2.1,?_⟩
  calc Qw e*Xq (now-e.at_) half<=5*1048576:=Int.mul_le_mul h1.2 h2.2 h2.1 (by omega)
   _=5242880:=by omega
 have hl:=List.length_filter_le (fun e:Ev=>decide (e.item=key)) l;unfold Qoz;refine⟨h.1,Int.le_trans h.2 ?_⟩
 exact Int.mul_le_mul_of_nonneg_right (by omega) (by omega)
def paE (l:List Ev) (width:Int) (key:ByteArray) (lo hi:Int):Int:=((l.filter fun e=>decide (e.item=key)&&(decide (lo<=e.at_/Qv width)&&decide (e.at_/Qv width<hi))).map Qw).sum
def paS (s:Qbm) (key:ByteArray) (lo hi:Int):Int:=((s.filter fun x=>decide (x.1.1=key)&&(decide (lo<=x.1.2)&&decide (x.1.2<hi))).map (·.2)).sum
theorem Qzx (key:ByteArray) (lo hi:Int) (c:PK) (n:Int):∀ s:Qbm,paS (Xr s c ((Qe s c).getD 0+n)) key lo hi=paS s key lo hi+if(decide (c.1=key)&&(decide (lo<=c.2)&&decide (c.2<hi)))=true then n else 0
 | []=>by
   unfold paS;simp only[Xr,Qe,Option.getD_none,Int.zero_add,List.filter_cons,List.filter_nil]
   split <;> simp
 | x :: s=>by
   have ih:=Qzx key lo hi c n s;unfold paS at *;unfold Xr Qe
   by_cases h:c=x.1
   . rw[if_pos h,if_pos h]
     simp only[Option.getD_some,List.filter_cons];rw[<- h]
     split
     . simp only[List.map_cons,List.sum_cons];omega
     . simp
   . rw[if_neg h,if_neg h]
     simp only[List.filter_cons]
     split
     . simp only[List.map_cons,List.sum_cons];rw[ih];omega
     . exact ih
theorem Q9j (width:Int) (key:ByteArray) (lo hi:Int):∀ l:List Ev,(∀ e∈l,wpB e=true)->paS (Qgs width l) key lo hi=paE l width key lo hi:=by
 refine Xf (fun _=>by simp[Qgs,paS,paE]) fun l e ih h => ?_
 have ih:=ih fun x hx=>h x (by simp[hx])
 have hw:0<Qw e:=by simpa [wpB] using h e (by simp)
 rw[Qrv];unfold Qp0 paE at *;rw[if_neg (by omega),Qzx,ih,List.filter_append,List.map_append,List.sum_append];simp only[List.filter_cons,List.filter_nil]
 split <;> simp
theorem Q8b {l:List Ev} (hm:∀ e∈l,Xp e=true) (width:Int) (key:ByteArray) (lo hi:Int):0<=paE l width key lo hi/\paE l width key lo hi<=l.length*5:=by
 have h:=Qdd Qw 5 (l.filter fun e=>decide (e.item=key)&&(decide (lo<=e.at_/Qv width)&&decide (e.at_/Qv width<hi))) fun e he=>Qdt (hm e (List.mem_filter.1 he).1)
 have hl:=List.length_filter_le (fun e:Ev=>decide (e.item=key)&&(decide (lo<=e.at_/Qv width)&&decide (e.at_/Qv width<hi))) l;unfold paE;refine⟨h.1,Int.le_trans h.2 ?_⟩
 exact Int.mul_le_mul_of_nonneg_right (by omega) (by omega)
def Qah (l:List ByteArray):List ByteArray:=l.mergeSort fun a b => !bLt b a
theorem Q4i (a b c:ByteArray) (h1:(!bLt b a)=true) (h2:(!bLt c b)=true):(!bLt c a)=true:=by
 rw[Bool.not_eq_true'] at *
 cases h:bLt c a with
 | false=>rfl
 | true =>
   cases hab:bLt a b with
   | true=>rw[Qaw h hab] at h2;cases h2
   | false=>rw[Qby hab h1] at h;rw[h] at h2;cases h2
theorem Q4h (a b:ByteArray):((!bLt b a)||(!bLt a b))=true:=by
 cases h:bLt b a with
 | false=>rfl
 | true=>rw[Qgx h];rfl
theorem Qdn (l:List ByteArray):(Qah l).Perm l:=List.mergeSort_perm _ _
theorem Qju (l:List ByteArray):Srt bLt (Qah l):=by
 have:=List.pairwise_mergeSort (le:=fun a b => !bLt b a) Q4i Q4h l
 exact this.imp fun h=>by simpa using h
theorem Qc0 {l z:List ByteArray} (hp:z.Perm l) (hs:Srt bLt z):z=Qah l :=
 List.Perm.eq_of_pairwise (le:=fun a b=>bLt b a=false) (fun a b _ _ h1 h2=>Qby h2 h1) hs (Qju l) (hp.trans (Qdn l).symm)
theorem Qhi {l:List ByteArray} {x:ByteArray}:x∈Qah l↔x∈l:=(Qdn l).mem_iff
theorem Qdc (l:List ByteArray):(Qah l).length=l.length:=(Qdn l).length_eq
def Qe6 (l:List Int):List Int:=l.mergeSort fun x y=>decide (x<=y)
theorem Qel (l:List Int):(Qe6 l).Perm l:=List.mergeSort_perm _ _
theorem Qn8 (l:List Int):(Qe6 l).Pairwise (· <= ·):=by
 have:=List.pairwise_mergeSort (le:=fun x y:Int=>decide (x<=y)) (fun a b c h1 h2=>by simp at *;omega) (fun a b=>by simp;omega) l
 exact this.imp fun h=>by simpa using h
theorem Quo {l z:List Int} (hp:z.Perm l) (hs:z.Pairwise (· <= ·)):z=Qe6 l :=
 List.Perm.eq_of_pairwise (le:=(· <= ·)) (fun a b _ _ h1 h2=>Int.le_antisymm h1 h2) hs (Qn8 l) (hp.trans (Qel l).symm)
theorem Qn6 {l:List Int} {x:Int}:x∈Qe6 l↔x∈l:=(Qel l).mem_iff
theorem Qum (l:List Int):(Qe6 l).length=l.length:=(Qel l).length_eq
section
open Go.Maps Go.Sort Go.Shelf Go.WideElems
open Go.WideMaps (keyOf_string_mk)
open Go.WideShapes (sorted_perm)
theorem Qrc {κ:Type} {enc:κ->Value} {P:Program} {k:TypeId} {w:World} {b:Nat} {L:List (κ×Value)} (hm:MapAt w b enc L) (hinj:∀ a b,enc a=enc b->a=b) (lit:κ->Lit) (hk:∀ x∈L,keyOf P k (enc x.1)=some (lit x.1)) (hl:L.length<=1000000000) :
 ∃ es:List (Lit×DataW Unit),w.ownsMap P k (fun _=>some (.nil,[])) b L.length (.map es)/\es.Perm (L.map fun x=>(lit x.1,.nil)):=by
 obtain⟨E,clock,hE,rfl⟩:=hm;have hEl:(strip E).length=E.length:=by simp[strip]
 have hrd:∀ x∈E,rd (H:=Unit) P k (fun _=>some (.nil,[])) (mkE enc x)=some (lit x.1,.nil):=fun x hx =>
  Go.WideElems.rd_mk (P:=P) (k:=k) (R:=fun _=>some (.nil,[])) (val:=x.2.1) (born:=x.2.2) (yv:=(.nil,[])) (hk (x.1,x.2.1) (List.mem_map.2 ⟨x,hx,rfl⟩)) rfl
 refine⟨_,⟨_,clock,hE.block,⟨?_,⟨?_,?_,?_⟩,?_⟩,?_,rfl⟩,?_⟩
 . rw[hEl] at hl;simp only[List.size_toArray,List.length_map];unfold maxLen;omega
 . intro x hx
   simp only[List.mem_map] at hx;obtain⟨y,hy,rfl⟩:=hx
   exact hE.below y hy
 . simp only[List.map_map]
   rw[List.nodup_iff_pairwise_ne,List.pairwise_map]
   exact hE.rising.imp fun h=>by simp only[mkE,Function.comp];omega
 . simp only[List.map_map]
   rw[List.nodup_iff_pairwise_ne,List.pairwise_map]
   exact hE.keys.imp fun h e=>h (hinj _ _ e)
 . intro x hx
   simp only[List.mem_map] at hx;obtain⟨y,hy,rfl⟩:=hx
   exact⟨_,hrd y hy⟩
 . rw[hEl];simp
 . refine(sorted_perm _).trans ?_
   have:(E.map (mkE enc)).toArray.toList.map (rg (H:=Unit) P k (fun _=>some (.nil,[])))=(strip E).map fun x=>(lit x.1,.nil):=by
    simp only[strip,List.map_map]
    exact List.map_congr_left fun x hx=>rg_of (hrd x hx)
   rw[this]
theorem Qeh {α:Type} {enc:α->List Value} {sz:Nat} {te:TypeId} {base:Nat} {w:World} {v:Value} {l:List α} {n:Nat} {xs:List Value} (h:w.ownsRow base te sz v n xs) (hn:n=l.length) (hx:xs=l.flatMap enc) :
 ∃ A c,v = .slice A l.length c/\Own enc sz te base w A c l:=by
 subst hn hx;unfold Own;rcases h with⟨h1,⟨h2,h3⟩ | ⟨g,cap,cur,h2,h3⟩⟩
 . refine⟨none,0,by rw[h2,h3],h1,.inl ⟨by rw[h3],h3⟩⟩
 . exact⟨_,cap,h2,h1,.inr ⟨g,cap,cur,rfl,h3⟩⟩
theorem Qmy {α:Type} {enc:α->List Value} {sz:Nat} {te:TypeId} {b1 b2:Nat} {w:World} {A:Option Addr} {c:Nat} {l:List α} (h:Own enc sz te b1 w A c l) (hb:b2<=b1):Own enc sz te b2 w A c l:=by
 unfold Own at *;rcases h with⟨h1,h2 | ⟨g,cap,cur,h2,h3,h4⟩⟩
 . exact⟨h1,.inl h2⟩
 . exact⟨h1,.inr ⟨g,cap,cur,h2,by omega,h4⟩⟩
theorem Qhz {α:Type} (f:α->Value) (l:List α):l.flatMap (fun x => [f x])=l.map f:=by induction l with | nil=>rfl | cons a l ih=>simp[ih]
theorem Qd1 {P:Program} {ρ6:Ren} (S:SlLaysZ.n6 P ρ6) (hsort:∀ m,AnyZ.SortsIn P ρ6 Fence.wide m) (e9:∀ args w,(callFunc (ρ6.f 9) args).run P w = .ok (.enter (ρ6.f 9) args) w) {g:Nat} {lb:Array Value} (eg:∀ args w,(callFunc g args).run P w = .ok (.enter g args) w)
 (hok:Qqj P (ρ6.f 6)) {w:World} {l:List ByteArray} {N:Nat} {Q:List (List UInt8)->Prop} (hQ:∀ ss,Q ss->ss.Perm (l.map fun x=>x.data.toList)) (hN:N<=1000000000) (hseq:SeqGives Fence.wide 2 P g lb encStr Q N w) :
 Cal P (ρ6.f 6) [.func (.func g) #[] lb] w fun r w'=>∃ A c,r = .slice A (Qah l).length c/\Own Qbg 1 (ρ6.t 26) w.heap.size w' A c (Qah l)/\Ext w w':=by
 have hS:=AnyZ.sorted_in S Fence.wide 5 trivial trivial trivial trivial rfl (by omega) (hsort _) e9 g lb trivial eg _ N (by unfold maxLen;omega) (by omega) w hseq;refine⟨hok,(callsIn_wide.1 hS).mono ?_⟩;rintro e w' ⟨v,ss,rfl,hp,hrow,_,hb⟩;have hkeys:=hQ ss hp
 have hz:(ss.mergeSort fun x y=>decide (x<=y)).map (fun x=>(⟨x.toArray⟩:ByteArray))=Qah l:=by
  apply Qc0
  . have h1:=(List.mergeSort_perm ss fun x y=>decide (x<=y)).trans hkeys
    have h2:=h1.map (fun x=>(⟨x.toArray⟩:ByteArray))
    simpa [List.map_map,Function.comp_def] using h2
  . unfold Srt
    rw[List.pairwise_map];have:=List.pairwise_mergeSort (le:=fun x y:List UInt8=>decide (x<=y)) (fun a b c h1 h2=>by simp only[decide_eq_true_eq] at *;exact List.le_trans h1 h2) (fun a b=>by simp only[Bool.or_eq_true,decide_eq_true_eq];exact List.le_total a b) ss;refine this.imp fun {a b} h => ?_
    simp only[decide_eq_true_eq] at h;unfold bLt;rw[ByteArray.toList_eq,ByteArray.toList_eq,bytesLess_eq]
    simpa using h
 obtain⟨A,c,hv,ho⟩:=Qeh (enc:=Qbg) (l:=Qah l) hrow (by rw[<- hz];simp) (by
  rw[<- hz,show Qbg=fun x => [Value.string x] from rfl,Qhz,List.map_map];rfl)
 exact⟨v,rfl,A,c,hv,ho,hb⟩
theorem Qlp {P:Program} {ρ6:Ren} (S:SlLaysZI.n6 P ρ6) (hsort:∀ m,AnyZI.SortsIn P ρ6 Fence.wide m) (e9:∀ args w,(callFunc (ρ6.f 9) args).run P w = .ok (.enter (ρ6.f 9) args) w) {g:Nat} {lb:Array Value} (eg:∀ args w,(callFunc g args).run P w = .ok (.enter g args) w)
 (hok:Qqj P (ρ6.f 6)) {w:World} {l:List Int} {N:Nat} {Q:List Int->Prop} (hQ:∀ ss,Q ss->ss.Perm l) (hN:N<=1000000000) (hseq:SeqGives Fence.wide 2 P g lb (Value.int .i64) Q N w) :
 Cal P (ρ6.f 6) [.func (.func g) #[] lb] w fun r w'=>∃ A c,r = .slice A (Qe6 l).length c/\Own Qmc 1 (ρ6.t 26) w.heap.size w' A c (Qe6 l)/\Ext w w':=by
 have hS:=AnyZI.sorted_in S Fence.wide 5 trivial trivial trivial trivial rfl (by omega) (hsort _) e9 g lb trivial eg _ N (by unfold maxLen;omega) (by omega) w hseq;refine⟨hok,(callsIn_wide.1 hS).mono ?_⟩;rintro e w' ⟨v,ss,rfl,hp,hrow,_,hb⟩;have hz:(ss.mergeSort fun x y=>decide (x<=y))=Qe6 l:=Quo ((Qel ss).trans (hQ ss hp)) (Qn8 ss)
 obtain⟨A,c,hv,ho⟩:=Qeh (enc:=Qmc) (l:=Qe6 l) hrow (by rw[<- hz];simp) (by
  rw[<- hz,show Qmc=fun x => [Value.int .i64 x] from rfl,Qhz])
 exact⟨v,rfl,A,c,hv,ho,hb⟩
theorem Qjd {P:Program} {ρ7:Ren} (K:SlLaysZ.n10 P ρ7) {w:World} {Bm b:Nat} {L:List (ByteArray×Value)} (hc:w.cell? ⟨Bm,0,none⟩=some (.map (some b))) (hm:MapAt w b Value.string L) (hk:∀ x∈L,x.1.size<=1000000) (hl:L.length<=1000000000) :
 ∃ N Q,N<=1000000000/\(∀ ss:List (List UInt8),Q ss->ss.Perm ((L.map (·.1)).map fun x=>x.data.toList))/\SeqGives Fence.wide 2 P (ρ7.f 10) #[.pointer (some ⟨Bm,0,none⟩)] encStr Q N w:=by
 obtain⟨es,hown,hes⟩:=Qrc (P:=P) (k:=ρ7.t 26) hm (fun a b e=>by simpa using e) (fun x => .string x.data.toList) (fun x hx=>keyOf_string_mk K.t26 (by have:=hk x hx;unfold maxLen;omega)) hl
 have hsz:Maps.size (.map es)=L.length:=by
  have:=hes.length_eq
  simp at this
  simpa [Maps.size] using this
 refine⟨_,_,?_,fun ss hp => ?_,AnyZ.keys_gives K Fence.wide 2 trivial rfl (by omega) Bm b _ _ w (cell_lt hc) hc hown⟩
 . rw[hsz];exact hl
 . refine hp.trans ?_
   simp only[strKeys];refine(hes.map _).trans ?_;rw[List.map_map,List.map_map]
   exact List.Perm.refl _
theorem Q4f {P:Program} {ρ7:Ren} (K:SlLaysZI.n10 P ρ7) {w:World} {Bm b:Nat} {L:List (Int×Value)} (hc:w.cell? ⟨Bm,0,none⟩=some (.map (some b))) (hm:MapAt w b vi L) (hk:∀ x∈L,0<=x.1/\x.1<=4611686018427387904) (hl:L.length<=1000000000) :
 ∃ N Q,N<=1000000000/\(∀ ss:List Int,Q ss->ss.Perm (L.map (·.1)))/\SeqGives Fence.wide 2 P (ρ7.f 10) #[.pointer (some ⟨Bm,0,none⟩)] (Value.int .i64) Q N w:=by
 obtain⟨es,hown,hes⟩:=Qrc (P:=P) (k:=ρ7.t 26) hm (fun a b e=>by simpa [vi] using e) (fun x => .int .i64 x) (fun x hx=>keyOf_int_mk K.t26 (by
  have:=hk x hx;simp only[Lit.wf,Bool.and_eq_true,decide_eq_true_eq,show IntKind.i64.min = -9223372036854775808 from by decide,show IntKind.i64.max=9223372036854775807 from by decide];omega)) hl
 have hsz:Maps.size (.map es)=L.length:=by
  have:=hes.length_eq
  simp at this
  simpa [Maps.size] using this
 refine⟨_,_,?_,fun ss hp => ?_,AnyZI.keys_gives K Fence.wide 2 trivial rfl (by omega) Bm b _ _ w (cell_lt hc) hc hown⟩
 . rw[hsz];exact hl
 . refine hp.trans ?_
   simp only[intKeys];refine(hes.map _).trans ?_;rw[List.map_map]
   exact List.Perm.refl _
theorem Qrj (w:World) (v:Value) (t:TypeId):(w.alloc (.cells #[v] t)).cell? ⟨w.heap.size,0,none⟩=some v:=by
 exact cell_one_new w v t 0 v rfl
theorem Qg1 {P:Program} {ρ7:Ren} (K:SlLaysZ.n7 P ρ7) (hok:Qqj P (ρ7.f 7)) (mb:Option Nat) (w:World) :
 Cal P (ρ7.f 7) [.map mb] w fun r w'=>r = .func (.func (ρ7.f 10)) #[] #[.pointer (some ⟨w.heap.size,0,none⟩)]/\w'.cell? ⟨w.heap.size,0,none⟩=some (.map mb)/\Ext w w':=by
 refine⟨hok,(callsIn_wide.1 (AnyZ.keys_in K Fence.wide 5 trivial rfl mb w)).mono ?_⟩;rintro e w' ⟨rfl,rfl⟩
 exact⟨_,rfl,rfl,Qrj _ _ _,(Below.refl _ _).alloc (Nat.le_refl _) _⟩
theorem Q4e {P:Program} {ρ7:Ren} (K:SlLaysZI.n7 P ρ7) (hok:Qqj P (ρ7.f 7)) (mb:Option Nat) (w:World) :
 Cal P (ρ7.f 7) [.map mb] w fun r w'=>r = .func (.func (ρ7.f 10)) #[] #[.pointer (some ⟨w.heap.size,0,none⟩)]/\w'.cell? ⟨w.heap.size,0,none⟩=some (.map mb)/\Ext w w':=by
 refine⟨hok,(callsIn_wide.1 (AnyZI.keys_in K Fence.wide 5 trivial rfl mb w)).mono ?_⟩;rintro e w' ⟨rfl,rfl⟩
 exact⟨_,rfl,rfl,Qrj _ _ _,(Below.refl _ _).alloc (Nat.le_refl _) _⟩
end
end Go.Proofs.YteabekcdcphjpaaGreatDoor
namespace Go.Proofs.YteabekcdcphjpaaGreatDoor
open Go.Se Go.RowKit
open Go.Maps Go.Sort Go.Shelf
theorem Qjt:Qah [] = []:=by simp[Qah]
theorem Qn7:Qe6 [] = []:=by simp[Qe6]
theorem Quw (m:Nat):AnyZ.SortsIn Tryz.prog Tryz.sorted94_ren Fence.wide m :=
 ⟨fun blk off cap ss W h1 h2 h3=>callsIn_wide.2 (AnyM.slices_Sort_string Tryz.sort92 blk off cap ss W h1 h2 h3),fun p cap W=>callsIn_wide.2 (AnyM.slices_Sort_string_none Tryz.sort92 p cap W)⟩
theorem Q9s (m:Nat):AnyZI.SortsIn Tryz.prog Tryz.sorted235_ren Fence.wide m :=
 ⟨fun blk off cap ss W h1 h2 h3=>callsIn_wide.2 (AnyM.slices_Sort_int Tryz.sort263 blk off cap ss W h1 h2 h3),fun p cap W=>callsIn_wide.2 (AnyM.slices_Sort_int_none Tryz.sort263 p cap W)⟩
theorem Q05 (mb:Option Nat) (w:World):Cal Tryz.prog 234 [.map mb] w fun r w'=>r = .func (.func 261) #[] #[.pointer (some ⟨w.heap.size,0,none⟩)]/\w'.cell? ⟨w.heap.size,0,none⟩=some (.map mb)/\Ext w w' :=
 Qg1 Tryz.keys234 ⟨_,Tryz.func234,rfl,rfl⟩ mb w
theorem Qur {w:World} {Bm b:Nat} {L:List (ByteArray×Value)} (hc:w.cell? ⟨Bm,0,none⟩=some (.map (some b))) (hm:MapAt w b Value.string L) (hk:∀ x∈L,x.1.size<=1000000) (hl:L.length<=1000000000) :
 Cal Tryz.prog 94 [.func (.func 261) #[] #[.pointer (some ⟨Bm,0,none⟩)]] w fun r w'=>∃ A c,r = .slice A (Qah (L.map (·.1))).length c/\Own Qbg 1 9 w.heap.size w' A c (Qah (L.map (·.1)))/\Ext w w':=by
 obtain⟨N,Q,h1,h2,h3⟩:=Qjd { Tryz.keys234 with } hc hm hk hl
 exact Qd1 Tryz.sorted94 Quw (enters_of Tryz.func92 (by kernel_rfl) rfl) (enters_of Tryz.func261 (by kernel_rfl) rfl) ⟨_,Tryz.func94,rfl,rfl⟩ h2 h1 h3
theorem Q08 (mb:Option Nat) (w:World):Cal Tryz.prog 104 [.map mb] w fun r w'=>r = .func (.func 176) #[] #[.pointer (some ⟨w.heap.size,0,none⟩)]/\w'.cell? ⟨w.heap.size,0,none⟩=some (.map mb)/\Ext w w' :=
 Qg1 Tryz.keys104 ⟨_,Tryz.func104,rfl,rfl⟩ mb w
theorem Quu {w:World} {Bm b:Nat} {L:List (ByteArray×Value)} (hc:w.cell? ⟨Bm,0,none⟩=some (.map (some b))) (hm:MapAt w b Value.string L) (hk:∀ x∈L,x.1.size<=1000000) (hl:L.length<=1000000000) :
 Cal Tryz.prog 94 [.func (.func 176) #[] #[.pointer (some ⟨Bm,0,none⟩)]] w fun r w'=>∃ A c,r = .slice A (Qah (L.map (·.1))).length c/\Own Qbg 1 9 w.heap.size w' A c (Qah (L.map (·.1)))/\Ext w w':=by
 obtain⟨N,Q,h1,h2,h3⟩:=Qjd { Tryz.keys104 with } hc hm hk hl
 exact Qd1 Tryz.sorted94 Quw (enters_of Tryz.func92 (by kernel_rfl) rfl) (enters_of Tryz.func176 (by kernel_rfl) rfl) ⟨_,Tryz.func94,rfl,rfl⟩ h2 h1 h3
theorem Qpr (mb:Option Nat) (w:World):Cal Tryz.prog 236 [.map mb] w fun r w'=>r = .func (.func 264) #[] #[.pointer (some ⟨w.heap.size,0,none⟩)]/\w'.cell? ⟨w.heap.size,0,none⟩=some (.map mb)/\Ext w w' :=
 Q4e Tryz.keys236 ⟨_,Tryz.func236,rfl,rfl⟩ mb w
theorem Qut {w:World} {Bm b:Nat} {L:List (Int×Value)} (hc:w.cell? ⟨Bm,0,none⟩=some (.map (some b))) (hm:MapAt w b vi L) (hk:∀ x∈L,0<=x.1/\x.1<=4611686018427387904) (hl:L.length<=1000000000) :
 Cal Tryz.prog 235 [.func (.func 264) #[] #[.pointer (some ⟨Bm,0,none⟩)]] w fun r w'=>∃ A c,r = .slice A (Qe6 (L.map (·.1))).length c/\Own Qmc 1 3 w.heap.size w' A c (Qe6 (L.map (·.1)))/\Ext w w':=by
 obtain⟨N,Q,h1,h2,h3⟩:=Q4f { Tryz.keys236 with } hc hm hk hl
 exact Qlp Tryz.sorted235 Q9s (enters_of Tryz.func263 (by kernel_rfl) rfl) (enters_of Tryz.func264 (by kernel_rfl) rfl) ⟨_,Tryz.func235,rfl,rfl⟩ h2 h1 h3
theorem Qxy {w:World} {Bm:Nat} (hc:w.cell? ⟨Bm,0,none⟩=some (.map none)) :
 Cal Tryz.prog 235 [.func (.func 264) #[] #[.pointer (some ⟨Bm,0,none⟩)]] w fun r w'=>∃ A c,r = .slice A 0 c/\Own Qmc 1 3 w.heap.size w' A c []/\Ext w w':=by
 have:=Qlp Tryz.sorted235 Q9s (enters_of Tryz.func263 (by kernel_rfl) rfl) (enters_of Tryz.func264 (by kernel_rfl) rfl) ⟨_,Tryz.func235,rfl,rfl⟩ (l := []) (fun ss (h:ss = [])=>by rw[h]) (Nat.zero_le _) (AnyZI.keys_gives_nil { Tryz.keys236 with } Fence.wide 2 trivial rfl Bm w (cell_lt hc) hc);simp only[Qjt,Qn7,List.length_nil] at this
 exact this
end Go.Proofs.YteabekcdcphjpaaGreatDoor
namespace Go.Proofs.YteabekcdcphjpaaGreatDoor
open Go.Se Go.RowKit
def Q3v:List ByteArray->List ByteArray
 | [] => []
 | a :: l=>if a∈l then Q3v l else a :: Q3v l
theorem Qht {x:ByteArray}:∀ {l:List ByteArray},x∈Q3v l↔x∈l
 | []=>Iff.rfl
 | a :: l=>by
   have ih:=Qht (x:=x) (l:=l);unfold Q3v
   split
   . next h =>
     rw[ih,List.mem_cons];constructor
     . exact .inr
     . rintro (rfl | h1)
       . exact h
       . exact h1
   . rw[List.mem_cons,List.mem_cons,ih]
theorem Qfn:∀ l:List ByteArray,(Q3v l).Nodup
 | []=>List.nodup_nil
 | a :: l=>by
   have ih:=Qfn l;unfold Q3v
   split
   . exact ih
   . next h=>exact List.nodup_cons.2 ⟨fun h1=>h (Qht.1 h1),ih⟩
def Qbp (l:List ByteArray):List ByteArray:=Qah (Q3v l)
theorem X7 {l:List ByteArray} {x:ByteArray}:x∈Qbp l↔x∈l:=by unfold Qbp;rw[Qhi,Qht]
theorem Qfy (l:List ByteArray):(Qbp l).Nodup:=(Qdn _).nodup_iff.2 (Qfn l)
theorem Qhd {K l:List ByteArray} (hn:K.Nodup) (hm:∀ x,x∈K↔x∈l):Qah K=Qbp l:=by
 have hp:K.Perm (Q3v l):=Qe8 hn (Qfn l) (fun x hx=>Qht.2 ((hm x).1 hx)) (fun x hx=>(hm x).2 (Qht.1 hx))
 exact Qc0 ((Qdn K).trans hp) (Qju K)
theorem Qkz {k l:List ByteArray} (hm:∀ x,x∈k↔x∈l):Qbp k=Qbp l:=Qhd (Qfn k) fun x=>Qht.trans (hm x)
theorem Qgi (l:List ByteArray):(Qbp l).length<=l.length:=by
 unfold Qbp;rw[Qdc]
 induction l with
 | nil=>simp[Q3v]
 | cons a l ih=>unfold Q3v;split <;> simp <;> omega
theorem Qau {β:Type} {L:List (ByteArray×β)} (h:L.Pairwise (fun x y=>x.1≠y.1)):(L.map (·.1)).Nodup:=by
 rw[List.nodup_iff_pairwise_ne,List.pairwise_map];exact h
theorem Qjh {β:Type} {L:List (ByteArray×β)} {k:ByteArray}:k∈L.map (·.1)↔(Qe L k).isSome=true:=by
 cases h:Qe L k with
 | none =>
   have:=Qho.1 h;simp only[List.mem_map,Option.isSome_none,Bool.false_eq_true,iff_false];rintro ⟨x,hx,rfl⟩
   exact this x hx rfl
 | some v =>
   have:=Qa4 h;simp only[Option.isSome_some,iff_true,List.mem_map]
   exact⟨_,this,rfl⟩
abbrev Grp:=Int×Int×List ByteArray
def Qdl (gap:Int) (acc:List Grp) (t:Int) (its:List ByteArray):List Grp :=
 match acc.getLast? with
 | some g=>if gap<t-g.2.1 then acc ++ [(t,t,its)] else acc.dropLast ++ [(g.1,t,g.2.2++its)]
 | none => [(t,t,its)]
abbrev Qe3:=List (Int×List (ByteArray×Bool))
def X3 (k:Qe3) (t:Int):List ByteArray:=((Qe k t).getD []).map (·.1)
def Qgq (gap:Int) (k:Qe3) (ts:List Int):List Grp:=ts.foldl (fun acc t=>Qdl gap acc t (X3 k t)) []
def Xcb (gap:Int) (k:Qe3):List Grp:=Qgq gap k (Qe6 (k.map (·.1)))
theorem Qhv (gap:Int) (k:Qe3) (ts:List Int) (t:Int):Qgq gap k (ts ++ [t])=Qdl gap (Qgq gap k ts) t (X3 k t):=by unfold Qgq;rw[List.foldl_append];rfl
structure Sn where
 person:ByteArray
 from_:Int
 to_:Int
 items:List ByteArray
deriving DecidableEq,Inhabited
def Q6z (person:ByteArray) (g:Grp):Sn:=⟨person,g.1,g.2.1,Qbp g.2.2⟩
def Qfz (gap:Int) (ss:Ses) (person:ByteArray):List Sn:=(Xcb gap ((Qe ss person).getD [])).map (Q6z person)
def Qhf (gap:Int) (ss:Ses):List Sn:=(Qah (ss.map (·.1))).flatMap (Qfz gap ss)
theorem Xag (gap:Int) (acc:List Grp) (t:Int) (its:List ByteArray):(Qdl gap acc t its).length<=acc.length+1:=by
 unfold Qdl
 split
 . next g h =>
   split
   . simp
   . simp
 . simp
theorem Q30 (gap:Int) (k:Qe3):∀ ts:List Int,(Qgq gap k ts).length<=ts.length:=by
 refine Xf (by simp[Qgq]) fun l t ih => ?_
 rw[Qhv];have:=Xag gap (Qgq gap k l) t (X3 k t)
 simp;omega
theorem Q7w (gap:Int) (k:Qe3):(Xcb gap k).length<=k.length:=by
 have:=Q30 gap k (Qe6 (k.map (·.1)));rw[Qum,List.length_map] at this
 exact this
def hasB (a:ByteArray) (s:Sn):Bool:=decide (a∈s.items)
def Qhe (S:List Sn) (a:ByteArray):Nat:=(S.filter (hasB a)).length
def Qa9 (S:List Sn) (a b:ByteArray):Nat:=(S.filter fun s=>hasB a s&&hasB b s).length
theorem Q58 (S:List Sn) (a:ByteArray):Qhe S a<=S.length:=List.length_filter_le _ _
theorem Qnu (S:List Sn) (a b:ByteArray):Qa9 S a b<=S.length:=List.length_filter_le _ _
def Ql1 (half now:Int) (e:Ev):Int:=Qw e*Xq (now-e.at_) half
def Qdh (n:Int) (m:List (ByteArray×Int)) (t:ByteArray):List (ByteArray×Int):=Xr m t (IntKind.i64.wrap ((Qe m t).getD 0+n))
def Qfm (half now:Int) (m:List (ByteArray×Int)) (r:Row):List (ByteArray×Int):=if now<r.1.at_ then m else r.2.foldl (Qdh (Ql1 half now r.1)) m
def Qyi (half now:Int) (rows:List Row):List (ByteArray×Int):=rows.foldl (Qfm half now) []
theorem Qj2 (half now:Int) (l:List Row) (r:Row):Qyi half now (l ++ [r])=Qfm half now (Qyi half now l) r:=by unfold Qyi;rw[List.foldl_append];rfl
theorem Qyk (n:Int) (m:List (ByteArray×Int)) (l:List ByteArray) (t:ByteArray):(l ++ [t]).foldl (Qdh n) m=Qdh n (l.foldl (Qdh n) m) t:=by rw[List.foldl_append];rfl
def Q60 (half now:Int) (rows:List Row):List (ByteArray×Int):=(Qyi half now rows).filter fun x=>decide (0<x.2)
def rowsOf (rs:List Row) (person:ByteArray):List Row:=rs.filter fun r=>decide (r.1.person=person)
theorem Qqc {half now:Int} {e:Ev} (hm:Xp e=true):0<=Ql1 half now e/\Ql1 half now e<=5242880:=by
 have h1:=Qdt hm;have h2:=Qc1 (now-e.at_) half;unfold Ql1;refine⟨Int.mul_nonneg h1.1 h2.1,?_⟩;have:Qw e*Xq (now-e.at_) half<=5*1048576:=Int.mul_le_mul h1.2 h2.2 h2.1 (by omega);omega
theorem Q2z (tg:List ByteArray) (n:Int) (l:List (ByteArray×Int)):((tg.foldl (Qdh n) l).length)<=l.length+tg.length:=by
 induction tg generalizing l with
 | nil=>simp
 | cons t tg ih =>
   have:=ih (Qdh n l t);have h2:=Qf4 t (IntKind.i64.wrap ((Qe l t).getD 0+n)) l;simp only[List.foldl_cons,List.length_cons];unfold Qdh at *;omega
theorem Qz9 (half now:Int):∀ rows:List Row,(Qyi half now rows).length<=(rows.map fun r=>r.2.length).sum:=by
 refine Xf (by simp[Qyi]) fun l r ih => ?_
 rw[Qj2,List.map_append,List.sum_append];unfold Qfm
 split
 . simp;omega
 . have:=Q2z r.2 (Ql1 half now r.1) (Qyi half now l)
   simp;omega
theorem Qyj (n:Int) (tg:List ByteArray):∀ l:List (ByteArray×Int),l.Pairwise (fun x y=>x.1≠y.1)->(tg.foldl (Qdh n) l).Pairwise (fun x y=>x.1≠y.1):=by
 induction tg with
 | nil=>intro l h;exact h
 | cons t tg ih=>intro l h;exact ih _ (Qbk h)
theorem Qu9 (half now:Int):∀ rows:List Row,(Qyi half now rows).Pairwise (fun x y=>x.1≠y.1):=by
 refine Xf (by simp[Qyi]) fun l r ih => ?_
 rw[Qj2];unfold Qfm
 split
 . exact ih
 . exact Qyj _ _ _ ih
def Q61 (half now:Int) (rows:List Row) (t:ByteArray):Int:=((rows.filter fun r=>decide (r.1.at_<=now)&&decide (t∈r.2)).map fun r=>Ql1 half now r.1).sum
theorem Xbf (n:Int) (t:ByteArray):∀ (tg:List ByteArray),tg.Nodup->∀ m:List (ByteArray×Int),(Qe (tg.foldl (Qdh n) m) t)=if t∈tg then some (IntKind.i64.wrap ((Qe m t).getD 0+n)) else Qe m t:=by
 intro tg
 induction tg with
 | nil=>intro _ m;simp
 | cons a tg ih =>
   intro hn m;rw[List.nodup_cons] at hn;rw[List.foldl_cons,ih hn.2];unfold Qdh
   by_cases h1:t=a
   . subst h1
     rw[if_neg hn.1,X0,if_pos rfl,if_pos (by simp)]
   . rw[X0,if_neg h1]
     by_cases h2:t∈tg
     . rw[if_pos h2,if_pos (by simp[h2])]
     . rw[if_neg h2,if_neg (by simp[h1,h2])]
theorem Q6q (half now:Int) (t:ByteArray):∀ rows:List Row,(∀ r∈rows,Xp r.1=true/\r.2.Nodup)->rows.length<1000000->((Qe (Qyi half now rows) t).getD 0=Q61 half now rows t)/\0<=Q61 half now rows t/\Q61 half now rows t<=rows.length*5242880/\((Qe (Qyi half now rows) t).isSome=true↔∃ r∈rows,r.1.at_<=now/\t∈r.2):=by
 refine Xf (fun _ _=>by simp[Qyi,Q61,Qe]) fun l r ih h hl => ?_
 have hl':l.length<1000000:=by simp at hl;omega
 obtain⟨i1,i2,i3,i4⟩:=ih (fun x hx=>h x (by simp[hx])) hl';have hr:=h r (by simp);have hb:=Qqc (half:=half) (now:=now) hr.1;have hlen:(((l ++ [r]).length:Nat):Int)=l.length+1:=by simp
 rw[Qj2];unfold Qfm
 have hS:Q61 half now (l ++ [r]) t=Q61 half now l t+if r.1.at_<=now/\t∈r.2 then Ql1 half now r.1 else 0:=by
  unfold Q61;rw[List.filter_append,List.map_append,List.sum_append]
  by_cases hc:r.1.at_<=now/\t∈r.2
  . simp[hc.1,hc.2]
  . have:(decide (r.1.at_<=now)&&decide (t∈r.2))=false:=by
     rw[Bool.and_eq_false_iff]
     by_cases h1:r.1.at_<=now
     . exact .inr (by simpa using fun h2=>hc ⟨h1,h2⟩)
     . exact .inl (by simpa using h1)
    rw[if_neg hc]
    simp[this]
 rw[hS]
 by_cases hnow:now<r.1.at_
 . rw[if_pos hnow,if_neg (by omega)]
   refine⟨by rw[i1];omega,by omega,by rw[hlen,Int.add_mul];omega,i4.trans ⟨?_,?_⟩⟩
   . rintro ⟨x,hx,h1⟩;exact⟨x,by simp[hx],h1⟩
   . rintro ⟨x,hx,h1,h2⟩
     rcases List.mem_append.1 hx with hx | hx
     . exact⟨x,hx,h1,h2⟩
     . have:x=r:=by simpa using hx
       subst this;omega
 . rw[if_neg hnow,Xbf _ _ _ hr.2]
   by_cases ht:t∈r.2
   . rw[if_pos ht,if_pos ⟨by omega,ht⟩,i1]
     refine⟨?_,by omega,by rw[hlen,Int.add_mul];omega,by simp only[Option.isSome_some,true_iff];exact⟨r,by simp,by omega,ht⟩⟩;simp only[Option.getD_some]
     exact(wrap_eq rfl ⟨by omega,by omega⟩).symm
   . rw[if_neg ht,if_neg (fun hc=>ht hc.2)]
     refine⟨by rw[i1];omega,by omega,by rw[hlen,Int.add_mul];omega,i4.trans ⟨?_,?_⟩⟩
     . rintro ⟨x,hx,h1⟩;exact⟨x,by simp[hx],h1⟩
     . rintro ⟨x,hx,h1,h2⟩
       rcases List.mem_append.1 hx with hx | hx
       . exact⟨x,hx,h1,h2⟩
       . have:x=r:=by simpa using hx
         subst this;exact absurd h2 ht
theorem Q5j (width:Int):∀ l:List Ev,(Qgs width l).Pairwise (fun x y=>x.1≠y.1):=by
 refine Xf (by simp[Qgs]) fun l e ih => ?_
 rw[Qrv];unfold Qp0
 split
 . exact ih
 . exact Qbk ih
theorem Qpc {κ β:Type} [DecidableEq κ] (x:κ×β) (l:List (κ×β)) (k:κ):Qe (x :: l) k=if k=x.1 then some x.2 else Qe l k:=rfl
theorem Qnt {s:Qbm} {key:ByteArray} {lo hi:Int} (h:hi<=lo):paS s key lo hi=0:=by
 unfold paS
 have:(s.filter fun x=>decide (x.1.1=key)&&(decide (lo<=x.1.2)&&decide (x.1.2<hi))) = []:=by
  rw[List.filter_eq_nil_iff];intro x _
  simp
  omega
 rw[this];rfl
theorem Qrq (x:PK×Int) (s:Qbm) (key:ByteArray) (lo hi:Int):paS (x :: s) key lo hi=(if x.1.1=key/\lo<=x.1.2/\x.1.2<hi then x.2 else 0)+paS s key lo hi:=by
 unfold paS;rw[List.filter_cons]
 by_cases h:x.1.1=key/\lo<=x.1.2/\x.1.2<hi
 . rw[if_pos (by simp[h.1,h.2.1,h.2.2]),if_pos h];simp
 . rw[if_neg (by simpa using h),if_neg h];omega
theorem Q8a {s:Qbm} (hp:s.Pairwise (fun x y=>x.1≠y.1)) (key:ByteArray) (lo hi:Int) (h:lo<=hi):paS s key lo (hi+1)=paS s key lo hi+(Qe s (key,hi)).getD 0:=by
 induction s with
 | nil=>simp[paS,Qe]
 | cons x s ih =>
   rw[List.pairwise_cons] at hp;have ih:=ih hp.2;rw[Qrq,Qrq,ih,Qpc]
   by_cases hk:(key,hi)=x.1
   . rw[if_pos hk]
     have h0:Qe s (key,hi)=none:=Qho.2 fun y hy=>by rw[hk];exact fun e=>hp.1 y hy e.symm
     rw[h0,if_pos (by rw[<- hk];simp;omega),if_neg (by rw[<- hk];simp)]
     simp
     omega
   . rw[if_neg hk]
     have:(x.1.1=key/\lo<=x.1.2/\x.1.2<hi+1)↔(x.1.1=key/\lo<=x.1.2/\x.1.2<hi):=by
      constructor
      . rintro ⟨h1,h2,h3⟩
        refine⟨h1,h2,?_⟩;have:x.1.2≠hi:=fun e=>hk (by rw[<- h1,<- e])
        omega
      . rintro ⟨h1,h2,h3⟩;exact⟨h1,h2,by omega⟩
     by_cases hc:x.1.1=key/\lo<=x.1.2/\x.1.2<hi
     . rw[if_pos hc,if_pos (this.2 hc)];omega
     . rw[if_neg hc,if_neg (fun h=>hc (this.1 h))];omega
def Q6y (s:Qbm) (key:ByteArray) (lo hi:Int) (row:List Int):Int:=((row.filter fun n=>decide (lo<=n)&&decide (n<hi)).map fun n=>(Qe s (key,n)).getD 0).sum
theorem Q5t (s:Qbm) (key:ByteArray) (lo hi:Int) (row:List Int) (n:Int):Q6y s key lo hi (row ++ [n])=Q6y s key lo hi row+if lo<=n/\n<hi then(Qe s (key,n)).getD 0 else 0:=by
 unfold Q6y;rw[List.filter_append,List.map_append,List.sum_append]
 by_cases h:lo<=n/\n<hi
 . simp[h.1,h.2]
 . rw[if_neg h]
   have:(decide (lo<=n)&&decide (n<hi))=false:=by simpa using fun h1=>by omega
   simp[this]
theorem Q8n {s:Qbm} (hp:s.Pairwise (fun x y=>x.1≠y.1)) (key:ByteArray) (lo hi:Int):Q6y s key lo hi (Qak s key)=paS s key lo hi:=by
 unfold Q6y Qak paS;rw[List.filter_map,List.map_map,List.filter_filter]
 have:(s.filter fun a=>(Function.comp (fun n=>decide (lo<=n)&&decide (n<hi)) fun x:PK×Int=>x.1.2) a&&decide (a.1.1=key))=s.filter fun x=>decide (x.1.1=key)&&(decide (lo<=x.1.2)&&decide (x.1.2<hi)):=by
  apply List.filter_congr
  intro x _;simp only[Function.comp];rw[Bool.and_comm]
 rw[this]
 congr 1
 apply List.map_congr_left
 intro x hx;have hm:=List.mem_filter.1 hx;have hk:x.1.1=key:=by have:=hm.2;simp at this;exact this.1
 simp only[Function.comp];rw[<- hk,Qco hp (show ((x.1.1,x.1.2),x.2)∈s from hm.1)]
 rfl
theorem Q45 {s:Qbm} {N:Int} (h:Qgt s N) (hN:0<=N) (key:ByteArray) (lo hi:Int):0<=paS s key lo hi/\paS s key lo hi<=s.length*N:=by
 have hb:=Qdd (fun x:PK×Int=>x.2) N (s.filter fun x=>decide (x.1.1=key)&&(decide (lo<=x.1.2)&&decide (x.1.2<hi))) fun x hx=>by
  have:=h x (List.mem_filter.1 hx).1
  exact⟨by omega,this.2⟩
 have hl:=List.length_filter_le (fun x:PK×Int=>decide (x.1.1=key)&&(decide (lo<=x.1.2)&&decide (x.1.2<hi))) s;unfold paS;refine⟨hb.1,Int.le_trans hb.2 (Int.mul_le_mul_of_nonneg_right (by omega) hN)⟩
end Go.Proofs.YteabekcdcphjpaaGreatDoor
