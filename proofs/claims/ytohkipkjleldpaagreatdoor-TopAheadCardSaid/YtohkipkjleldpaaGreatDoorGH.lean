/- Several texts in one: Rd3, Pl1, Rd1, Rd2, Pl2, Pl3, Pl4. -/
import Derived.Test.YtohkipkjleldpaaGreatDoorGF
import Derived.Laws.IdiomRangeMap
import Derived.Test.YtohkipkjleldpaaGreatDoorHKeyL
set_option linter.unusedVariables false
set_option linter.unusedSimpArgs false
namespace Go.Proofs.YtohkipkjleldpaaGreatDoor
open Go.Se Go.RowKit
theorem Qoq (a b:Int):IntKind.i64.wrap (IntKind.i64.wrap a+b)=IntKind.i64.wrap (a+b):=by
 simp only[IntKind.wrap,IntKind.bits,IntKind.signed]
 simp
 split <;> split <;> split <;> omega
theorem Q1v (a b:Int):IntKind.i64.wrap (a+IntKind.i64.wrap b)=IntKind.i64.wrap (a+b):=by
 rw[Int.add_comm,Qoq,Int.add_comm]
theorem Q9r:IntKind.i64.wrap 0=0:=by decide
def Qc9 (age half:Int):Int:=if age<0 then 0 else if 20<age/max half 1 then 0 else(1048576:Int).fdiv (2 ^ (age/max half 1).toNat)
theorem Qmv (age half:Int) (ha:-4611686018427387904≤age∧age≤9223372036854775807) (w:World) :
 Cal Tryz.prog 246 [.int .i64 age,.int .i64 half] w fun r w'=>r = .int .i64 (Qc9 age half)∧w'=w:=by
 have hm:max half 1≠0:=by omega
 refine Fi Tryz.func246 rfl _ rfl rfl (Hh ?_);constructor
 · intro hc
   have hc:age<0:=by simpa using hc
   conv=>whnf
   exact⟨by rw[Qc9,if_pos hc],rfl⟩
 · intro hc
   have hc:¬ age<0:=by simpa using hc
   have h1:age.tdiv (max half 1)=age/max half 1:=Int.tdiv_eq_ediv_of_nonneg (by omega);have h2:0≤age/max half 1:=Int.ediv_nonneg (by omega) (by omega);have h3:age/max half 1≤age:=Int.ediv_le_self _ (by omega);have hw:Qc9 age half=if 20<age/max half 1 then 0 else(1048576:Int).fdiv (2 ^ (age/max half 1).toNat):=by rw[Qc9,if_neg hc]
   rw[hw];clear hw
   conv=>whnf
   refine⟨age/max half 1,⟨hm,wrap_eq h1.symm ⟨by omega,by omega⟩⟩,Hh ?_⟩;generalize age/max half 1=n at h2 h3 ⊢;constructor
   · intro hn
     have hn:20<n:=by simpa using hn
     conv=>whnf
     exact⟨by rw[if_pos hn],rfl⟩
   · intro hn
     have hn:¬ 20<n:=by simpa using hn
     have hmin:min n.toNat IntKind.i64.bits=n.toNat:=by simp only[IntKind.bits];omega
     conv=>whnf
     refine⟨(1048576:Int).fdiv (2 ^ n.toNat),⟨h2,by rw[hmin]⟩,Hh ?_⟩
     exact⟨by rw[if_neg hn],rfl⟩
def Qwp (half now:Int) (r:List (Int×Int)):Int:=(r.map fun x=>x.2*Qc9 (now-x.1) half).sum
theorem Q78 {l m:List Int} (h:l.Perm m):l.sum=m.sum:=by
 induction h with
 | nil=>rfl
 | cons a _ ih=>simp[ih]
 | swap a b l=>simp only[List.sum_cons];omega
 | trans _ _ h1 h2=>exact h1.trans h2
theorem Q1f {half now:Int} {r s:List (Int×Int)} (h:r.Perm s):Qwp half now r=Qwp half now s:=Q78 (h.map _)
def Qb2 (s:Qjv) (half:Int) (key:ByteArray) (now:Int):Int:=IntKind.i64.wrap (Qwp half now ((Qe s key).getD []))
theorem Q40 {P:Program} {w:World} {mt kt et:TypeId} (ht:P.underlying mt=some (.map kt et)) {R:Value→World→Prop}
 (h:∀ w',Ext w w'→w'.heap[w.heap.size]? = some (.mapIter none 0 #[] 0)→R (.pointer (some ⟨w.heap.size,0,none⟩)) w'):Qhr P (Instr.range mt (.map none)) w R:=by
 refine⟨_,_,Go.run_range_nilMap w mt kt et ht,h _ ((Below.refl _ _).alloc (Nat.le_refl _) _) (heap_alloc_new w _)⟩
theorem Q71 {P:Program} {w:World} {r:Nat} {a b:Nat} {s:Array Nat} {ty:TypeId} (hr:w.heap[r]? = some (.mapIter none a s b)) {R:Value→World→Prop} (h:R (.tuple #[.bool false]) w):Qhr P (Instr.next (.pointer (some ⟨r,0,none⟩)) false ty) w R:=by
 refine⟨_,_,?_,h⟩;simp only[Instr.next,getObj,Sem.run_bind,Sem.run,hr,Result.andThen]
 rfl
theorem Q1t {vs L:List (Int×Int)} (h:(Xm vi vs).Perm (Xm vi L)):vs.Perm L:=by
 have h1:=h.map (fun x:Int×Value=>(x.1,match x.2 with | .int _ n=>n | _=>0))
 simpa [Xm,List.map_map,Function.comp_def,vi] using h1
theorem Qzj (w:World) (S:Nat→Prop) (p:Nat) (half n:Int) (s:Qjv) (h:Qmy w S p half n s) (key:ByteArray) (now:Int) (hnow:0≤now∧now≤1099511627776) (ht:∀ r,Qe s key=some r→∀ x∈r,0≤x.1∧x.1≤1099511627776) :
 Cal Tryz.prog 321 [.pointer (some ⟨p,0,none⟩),.string key,.int .i64 now] w fun r w'=>r = .int .i64 (Qb2 s half key now)∧Ext w w':=by
 obtain⟨bm,h⟩:=h;have hplt:=h.head.lt;have hhead:=h.head;refine Fi Tryz.func321 rfl _ rfl rfl (Hh ?_);constructor
 · intro hc
   have hc:now<0:=by simpa using hc
   omega
 intro _
 conv=>whnf
 refine⟨.map (some bm),h.head.one rfl,Hh ?_⟩;rcases h.sums.look Qaa Q8y (Qo Xc) (e:=ty338) ty338_ok rfl key with⟨hno,hrd⟩ | ⟨b,m,Sk,hsome,hrd,hIv,hSk,_⟩
 · have hres:Qb2 s half key now=0:=by unfold Qb2;rw[hno];exact Q9r
   rw[hres];refine⟨_,hrd .same Qm,Hh ?_⟩;refine Q40 Q1r fun w2 hx2 hr2 => ?_
   generalize w.heap.size=r at hr2 ⊢
   conv=>whnf
   refine Qh Qa (fun(_:Unit) w'=>w'=w2) (fun _ => [(19,.pointer (some ⟨r,0,none⟩)),(7,.int .i64 0)]) (fun _=>0) () rfl Rr ?_;rintro _ w3 rfl
   conv=>whnf
   refine Q71 hr2 ?_
   conv=>whnf
   constructor
   · intro hh;cases hh
   intro _
   conv=>whnf
   exact⟨rfl,hx2⟩
 · have hm:=hIv.2
   have ht:=ht m hsome;have hres:Qb2 s half key now=IntKind.i64.wrap (Qwp half now m):=by unfold Qb2;rw[hsome];rfl
   rw[hres];refine⟨_,hrd .same Qm,Hh ?_⟩;refine map_range Q1r hm fun w3 hi3 hx3 => ?_
   have hrw:w.heap.size≤w.heap.size:=Nat.le_refl _;generalize hr:w.heap.size=r at hi3 ⊢
   conv=>whnf
   refine Qh Qa (fun(q:List (Int×Int)×Int) w'=>Ext w w'∧Iter w' r b vi (Xm vi m) (Xm vi q.1)∧q.2=IntKind.i64.wrap (Qwp half now q.1))
    (fun | (vs,z) => [(0,.pointer (some ⟨p,0,none⟩)),(2,.int .i64 now),(19,.pointer (some ⟨r,0,none⟩)),(7,.int .i64 z)]) (fun q=>m.length-q.1.length) ([],0) ⟨hx3,hi3,Q9r.symm⟩ Rr ?_
   clear hi3 hx3;rintro ⟨vs,z⟩ w4 ⟨hx4,hi4,hz⟩;simp only at hi4 hz
   conv=>whnf
   refine Qeb hi4 (fun hp => ?_) (fun x w5 hin hnew hlt hi5 ho5 hen => ?_)
   · have hp:=Q1t hp
     conv=>whnf
     constructor
     · intro hh;cases hh
     intro _
     conv=>whnf
     exact⟨by rw[hz,Q1f hp],hx4⟩
   · obtain⟨y,hy,rfl⟩:=List.mem_map.1 hin
     have hlt:vs.length<m.length:=by simpa [Xm] using hlt
     have hvs:Xm vi vs ++ [(y.1,vi y.2)]=Xm vi (vs ++ [y]):=by simp[Xm]
     rw[hvs] at hi5;have hx5:=ho5.ext hx4 (by omega);have hty:=ht y hy
     have hsn:IntKind.i64.wrap (Qwp half now (vs ++ [y]))=IntKind.i64.wrap (z+IntKind.i64.wrap (y.2*Qc9 (now-y.1) half)):=by
      rw[hz,Qoq,Q1v]
      simp[Qwp]
     conv=>whnf
     constructor
     · intro _
       conv=>whnf
       refine Qat (hen w5 rfl rfl) ?_
       conv=>whnf
       refine⟨now-y.1,wrap_eq rfl ⟨by omega,by omega⟩,Hh ?_⟩;refine⟨_,(hhead.ext hx5).one rfl,Hh ?_⟩;refine(Qmv (now-y.1) half ⟨by omega,by omega⟩ w5).mono ?_;rintro _ _ ⟨rfl,rfl⟩
       conv=>whnf
       refine⟨_,rfl,Hh ?_⟩;refine⟨_,rfl,Hh ?_⟩
       exact⟨(vs ++ [y],_),by simp;omega,⟨hx5,hi5,hsn.symm⟩,Rr⟩
     · intro hh;cases hh
instance memDec (a:ByteArray) (l:List ByteArray):Decidable (a∈l):=decidable_of_iff (l.any (fun b=>decide (b=a))=true) (by simp)
def wpB (e:Ev):Bool:=decide (0<Qy e)
theorem Xbz {e:Ev} (h:wpB e=true):e.kind=1∨e.kind=2∨e.kind=3∨e.kind=4:=by
 have h:0<Qy e:=by simpa [wpB] using h
 unfold Qy at h
 by_cases h1:e.kind=1
 · exact .inl h1
 by_cases h2:e.kind=2
 · exact .inr (.inl h2)
 by_cases h3:e.kind=3
 · exact .inr (.inr (.inl h3))
 by_cases h4:e.kind=4
 · exact .inr (.inr (.inr h4))
 rw[if_neg h1,if_neg h2,if_neg h3,if_neg h4] at h;omega
def Qi7 (l:List Ev):Qjv:=l.foldl (fun s e=>Qqg s e.item e.at_ (Qy e)) []
def Qt7 (width:Int) (l:List Ev):Qae:=l.foldl (fun s e=>Qoa s (e.item,e.at_/Xr width) (Qy e)) []
def Qg7 (l:List Ev):Ses:=l.foldl (fun s e=>Q6o s e.person e.at_ e.item) []
theorem Qpe (l:List Ev) (e:Ev):Qi7 (l ++ [e])=Qqg (Qi7 l) e.item e.at_ (Qy e):=by unfold Qi7;rw[List.foldl_append];rfl
theorem Qqf (width:Int) (l:List Ev) (e:Ev):Qt7 width (l ++ [e])=Qoa (Qt7 width l) (e.item,e.at_/Xr width) (Qy e):=by unfold Qt7;rw[List.foldl_append];rfl
theorem Qwk (l:List Ev) (e:Ev):Qg7 (l ++ [e])=Q6o (Qg7 l) e.person e.at_ e.item:=by unfold Qg7;rw[List.foldl_append];rfl
theorem Qdd (width:Int) (z:List Ev):(Ql width z).ds=Qi7 (z.filter wpB)∧(Ql width z).ps=Qt7 width (z.filter wpB)∧(Ql width z).ss=Qg7 (z.filter wpB):=by
 induction z using Qu with
 | h0=>exact⟨rfl,rfl,rfl⟩
 | h1 l a ih =>
   rw[Qbh,List.filter_append];unfold Qcx
   cases hw:wpB a with
   | true =>
     have hk:=Xbz hw;have h0:0<Qy a:=by simpa [wpB] using hw
     have e1 : [a].filter wpB = [a]:=by simp[hw]
     rw[e1,Qpe,Qqf,Qwk,if_neg (by omega),if_neg (by omega),if_pos h0,← ih.1,← ih.2.1,← ih.2.2]
     exact⟨rfl,rfl,rfl⟩
   | false =>
     have h0:¬ 0<Qy a:=by simpa [wpB] using hw
     have e1 : [a].filter wpB = []:=by simp[hw]
     rw[e1,List.append_nil,← ih.1,← ih.2.1,← ih.2.2]
     split
     · exact⟨rfl,rfl,rfl⟩
     split
     · exact⟨rfl,rfl,rfl⟩
     exact⟨rfl,rfl,rfl⟩
theorem Q7h:∀ l:List Ev,∀ key r,Qe (Qi7 l) key=some r→∀ x∈r,∃ e∈l,e.at_=x.1∧e.item=key:=by
 refine Qu (fun key r h=>by simp[Qi7,Qe] at h) fun l e ih key r h x hx => ?_
 rw[Qpe] at h;unfold Qqg at h
 split at h
 · obtain⟨y,hy,h1⟩:=ih key r h x hx
   exact⟨y,by simp[hy],h1⟩
 · rw[Xg] at h
   by_cases hk:key=e.item
   · rw[if_pos hk] at h
     injection h with h;subst h;rcases X4 hx with rfl | hx
     · exact⟨e,by simp,rfl,hk.symm⟩
     · cases hl:Qe (Qi7 l) e.item with
       | none=>rw[hl] at hx;simp at hx
       | some r =>
         rw[hl] at hx;obtain⟨y,hy,h1⟩:=ih e.item r hl x hx
         exact⟨y,by simp[hy],h1.1,h1.2.trans hk.symm⟩
   · rw[if_neg hk] at h
     obtain⟨y,hy,h1⟩:=ih key r h x hx
     exact⟨y,by simp[hy],h1⟩
theorem Qtw (age half:Int):0≤Qc9 age half∧Qc9 age half≤1048576:=by
 unfold Qc9
 split
 · omega
 split
 · omega
 · rw[Int.fdiv_eq_ediv_of_nonneg _ (by exact Int.le_of_lt (Int.pow_pos (by omega)))]
   exact⟨Int.ediv_nonneg (by omega) (Int.le_of_lt (Int.pow_pos (by omega))),Int.ediv_le_self _ (by omega)⟩
theorem Qiq {α:Type} (f:α→Int) (M:Int):∀ l:List α,(∀ x∈l,0≤f x∧f x≤M)→0≤(l.map f).sum∧(l.map f).sum≤l.length*M
 | [],_=>by simp
 | x :: l,h=>by
   have h1:=h x (by simp);have ih:=Qiq f M l fun y hy=>h y (by simp[hy])
   simp only[List.map_cons,List.sum_cons,List.length_cons]
   have:((l.length+1:Nat):Int)*M=l.length*M+M:=by
    rw[show ((l.length+1:Nat):Int)=(l.length:Int)+1 by omega,Int.add_mul];omega
   rw[this];omega
def paE (l:List Ev) (width:Int) (key:ByteArray) (lo hi:Int):Int:=((l.filter fun e=>decide (e.item=key)&&(decide (lo≤e.at_/Xr width)&&decide (e.at_/Xr width<hi))).map Qy).sum
def paS (s:Qae) (key:ByteArray) (lo hi:Int):Int:=((s.filter fun x=>decide (x.1.1=key)&&(decide (lo≤x.1.2)&&decide (x.1.2<hi))).map (·.2)).sum
theorem Qx7 (key:ByteArray) (lo hi:Int) (c:PK) (n:Int):∀ s:Qae,paS (Q7 s c ((Qe s c).getD 0+n)) key lo hi=paS s key lo hi+if(decide (c.1=key)&&(decide (lo≤c.2)&&decide (c.2<hi)))=true then n else 0
 | []=>by
   unfold paS;simp only[Q7,Qe,Option.getD_none,Int.zero_add,List.filter_cons,List.filter_nil]
   split <;> simp
 | x :: s=>by
   have ih:=Qx7 key lo hi c n s;unfold paS at *;unfold Q7 Qe
   by_cases h:c=x.1
   · rw[if_pos h,if_pos h]
     simp only[Option.getD_some,List.filter_cons];rw[← h]
     split
     · simp only[List.map_cons,List.sum_cons];omega
     · simp
   · rw[if_neg h,if_neg h]
     simp only[List.filter_cons]
     split
     · simp only[List.map_cons,List.sum_cons];rw[ih];omega
     · exact ih
theorem Xcw (width:Int) (key:ByteArray) (lo hi:Int):∀ l:List Ev,(∀ e∈l,wpB e=true)→paS (Qt7 width l) key lo hi=paE l width key lo hi:=by
 refine Qu (fun _=>by simp[Qt7,paS,paE]) fun l e ih h => ?_
 have ih:=ih fun x hx=>h x (by simp[hx])
 have hw:0<Qy e:=by simpa [wpB] using h e (by simp)
 rw[Qqf];unfold Qoa paE at *;rw[if_neg (by omega),Qx7,ih,List.filter_append,List.map_append,List.sum_append];simp only[List.filter_cons,List.filter_nil]
 split <;> simp
theorem Q76 {l:List Ev} (hm:∀ e∈l,Xn e=true) (width:Int) (key:ByteArray) (lo hi:Int):0≤paE l width key lo hi∧paE l width key lo hi≤l.length*5:=by
 have h:=Qiq Qy 5 (l.filter fun e=>decide (e.item=key)&&(decide (lo≤e.at_/Xr width)&&decide (e.at_/Xr width<hi))) fun e he=>Qk8 (hm e (List.mem_filter.1 he).1)
 have hl:=List.length_filter_le (fun e:Ev=>decide (e.item=key)&&(decide (lo≤e.at_/Xr width)&&decide (e.at_/Xr width<hi))) l;unfold paE;refine⟨h.1,Int.le_trans h.2 ?_⟩
 exact Int.mul_le_mul_of_nonneg_right (by omega) (by omega)
def Xb (l:List ByteArray):List ByteArray:=l.mergeSort fun a b => !bLt b a
theorem Q30 (a b c:ByteArray) (h1:(!bLt b a)=true) (h2:(!bLt c b)=true):(!bLt c a)=true:=by
 rw[Bool.not_eq_true'] at *
 cases h:bLt c a with
 | false=>rfl
 | true =>
   cases hab:bLt a b with
   | true=>rw[Qa2 h hab] at h2;cases h2
   | false=>rw[Qa9 hab h1] at h;rw[h] at h2;cases h2
theorem Q3z (a b:ByteArray):((!bLt b a)||(!bLt a b))=true:=by
 cases h:bLt b a with
 | false=>rfl
 | true=>rw[Qcv h];rfl
theorem Qa6 (l:List ByteArray):(Xb l).Perm l:=List.mergeSort_perm _ _
theorem Qe6 (l:List ByteArray):Srt bLt (Xb l):=by
 have:=List.pairwise_mergeSort (le:=fun a b => !bLt b a) Q30 Q3z l
 exact this.imp fun h=>by simpa using h
theorem Qb8 {l z:List ByteArray} (hp:z.Perm l) (hs:Srt bLt z):z=Xb l :=
 List.Perm.eq_of_pairwise (le:=fun a b=>bLt b a=false) (fun a b _ _ h1 h2=>Qa9 h2 h1) hs (Qe6 l) (hp.trans (Qa6 l).symm)
theorem Qgc {l:List ByteArray} {x:ByteArray}:x∈Xb l↔x∈l:=(Qa6 l).mem_iff
theorem Qc4 (l:List ByteArray):(Xb l).length=l.length:=(Qa6 l).length_eq
def Qd4 (l:List Int):List Int:=l.mergeSort fun x y=>decide (x≤y)
theorem Qdm (l:List Int):(Qd4 l).Perm l:=List.mergeSort_perm _ _
theorem Qmm (l:List Int):(Qd4 l).Pairwise (· ≤ ·):=by
 have:=List.pairwise_mergeSort (le:=fun x y:Int=>decide (x≤y)) (fun a b c h1 h2=>by simp at *;omega) (fun a b=>by simp;omega) l
 exact this.imp fun h=>by simpa using h
theorem Qs9 {l z:List Int} (hp:z.Perm l) (hs:z.Pairwise (· ≤ ·)):z=Qd4 l :=
 List.Perm.eq_of_pairwise (le:=(· ≤ ·)) (fun a b _ _ h1 h2=>Int.le_antisymm h1 h2) hs (Qmm l) (hp.trans (Qdm l).symm)
theorem Qmk {l:List Int} {x:Int}:x∈Qd4 l↔x∈l:=(Qdm l).mem_iff
theorem Qs7 (l:List Int):(Qd4 l).length=l.length:=(Qdm l).length_eq
section
open Go.Maps Go.Sort Go.Shelf Go.WideElems
open Go.WideMaps (keyOf_string_mk)
open Go.WideShapes (sorted_perm)
theorem Qpo {κ:Type} {enc:κ→Value} {P:Program} {k:TypeId} {w:World} {b:Nat} {L:List (κ×Value)} (hm:MapAt w b enc L) (hinj:∀ a b,enc a=enc b→a=b) (lit:κ→Lit) (hk:∀ x∈L,keyOf P k (enc x.1)=some (lit x.1)) (hl:L.length≤1000000000) :
 ∃ es:List (Lit×DataW Unit),w.ownsMap P k (fun _=>some (.nil,[])) b L.length (.map es)∧es.Perm (L.map fun x=>(lit x.1,.nil)):=by
 obtain⟨E,clock,hE,rfl⟩:=hm;have hEl:(strip E).length=E.length:=by simp[strip]
 have hrd:∀ x∈E,rd (H:=Unit) P k (fun _=>some (.nil,[])) (mkE enc x)=some (lit x.1,.nil):=fun x hx =>
  Go.WideElems.rd_mk (P:=P) (k:=k) (R:=fun _=>some (.nil,[])) (val:=x.2.1) (born:=x.2.2) (yv:=(.nil,[])) (hk (x.1,x.2.1) (List.mem_map.2 ⟨x,hx,rfl⟩)) rfl
 refine⟨_,⟨_,clock,hE.block,⟨?_,⟨?_,?_,?_⟩,?_⟩,?_,rfl⟩,?_⟩
 · rw[hEl] at hl;simp only[List.size_toArray,List.length_map];unfold maxLen;omega
 · intro x hx
   simp only[List.mem_map] at hx;obtain⟨y,hy,rfl⟩:=hx
   exact hE.below y hy
 · simp only[List.map_map]
   rw[List.nodup_iff_pairwise_ne,List.pairwise_map]
   exact hE.rising.imp fun h=>by simp only[mkE,Function.comp];omega
 · simp only[List.map_map]
   rw[List.nodup_iff_pairwise_ne,List.pairwise_map]
   exact hE.keys.imp fun h e=>h (hinj _ _ e)
 · intro x hx
   simp only[List.mem_map] at hx;obtain⟨y,hy,rfl⟩:=hx
   exact⟨_,hrd y hy⟩
 · rw[hEl];simp
 · refine(sorted_perm _).trans ?_
   have:(E.map (mkE enc)).toArray.toList.map (rg (H:=Unit) P k (fun _=>some (.nil,[])))=(strip E).map fun x=>(lit x.1,.nil):=by
    simp only[strip,List.map_map]
    exact List.map_congr_left fun x hx=>rg_of (hrd x hx)
   rw[this]
theorem Qbj {α:Type} {enc:α→List Value} {sz:Nat} {te:TypeId} {base:Nat} {w:World} {v:Value} {l:List α} {n:Nat} {xs:List Value} (h:w.ownsRow base te sz v n xs) (hn:n=l.length) (hx:xs=l.flatMap enc) :
 ∃ A c,v = .slice A l.length c∧Own enc sz te base w A c l:=by
 subst hn hx;unfold Own;rcases h with⟨h1,⟨h2,h3⟩ | ⟨g,cap,cur,h2,h3⟩⟩
 · refine⟨none,0,by rw[h2,h3],h1,.inl ⟨by rw[h3],h3⟩⟩
 · exact⟨_,cap,h2,h1,.inr ⟨g,cap,cur,rfl,h3⟩⟩
theorem Qlf {α:Type} {enc:α→List Value} {sz:Nat} {te:TypeId} {b1 b2:Nat} {w:World} {A:Option Addr} {c:Nat} {l:List α} (h:Own enc sz te b1 w A c l) (hb:b2≤b1):Own enc sz te b2 w A c l:=by
 unfold Own at *;rcases h with⟨h1,h2 | ⟨g,cap,cur,h2,h3,h4⟩⟩
 · exact⟨h1,.inl h2⟩
 · exact⟨h1,.inr ⟨g,cap,cur,h2,by omega,h4⟩⟩
theorem Qfk {α:Type} (f:α→Value) (l:List α):l.flatMap (fun x => [f x])=l.map f:=by induction l with | nil=>rfl | cons a l ih=>simp[ih]
theorem Qc5 {P:Program} {ρ6:Ren} (S:SlLaysZ.n6 P ρ6) (hsort:∀ m,AnyZ.SortsIn P ρ6 Fence.wide m) (e9:∀ args w,(callFunc (ρ6.f 9) args).run P w = .ok (.enter (ρ6.f 9) args) w) {g:Nat} {lb:Array Value} (eg:∀ args w,(callFunc g args).run P w = .ok (.enter g args) w)
 (hok:Qt2 P (ρ6.f 6)) {w:World} {l:List ByteArray} {N:Nat} {Q:List (List UInt8)→Prop} (hQ:∀ ss,Q ss→ss.Perm (l.map fun x=>x.data.toList)) (hN:N≤1000000000) (hseq:SeqGives Fence.wide 2 P g lb encStr Q N w) :
 Cal P (ρ6.f 6) [.func (.func g) #[] lb] w fun r w'=>∃ A c,r = .slice A (Xb l).length c∧Own Qav 1 (ρ6.t 26) w.heap.size w' A c (Xb l)∧Ext w w':=by
 have hS:=AnyZ.sorted_in S Fence.wide 5 trivial trivial trivial trivial rfl (by omega) (hsort _) e9 g lb trivial eg _ N (by unfold maxLen;omega) (by omega) w hseq;refine⟨hok,(callsIn_wide.1 hS).mono ?_⟩;rintro e w' ⟨v,ss,rfl,hp,hrow,_,hb⟩;have hkeys:=hQ ss hp
 have hz:(ss.mergeSort fun x y=>decide (x≤y)).map (fun x=>(⟨x.toArray⟩:ByteArray))=Xb l:=by
  apply Qb8
  · have h1:=(List.mergeSort_perm ss fun x y=>decide (x≤y)).trans hkeys
    have h2:=h1.map (fun x=>(⟨x.toArray⟩:ByteArray))
    simpa [List.map_map,Function.comp_def] using h2
  · unfold Srt
    rw[List.pairwise_map];have:=List.pairwise_mergeSort (le:=fun x y:List UInt8=>decide (x≤y)) (fun a b c h1 h2=>by simp only[decide_eq_true_eq] at *;exact List.le_trans h1 h2) (fun a b=>by simp only[Bool.or_eq_true,decide_eq_true_eq];exact List.le_total a b) ss;refine this.imp fun {a b} h => ?_
    simp only[decide_eq_true_eq] at h;unfold bLt;rw[ByteArray.toList_eq,ByteArray.toList_eq,bytesLess_eq]
    simpa using h
 obtain⟨A,c,hv,ho⟩:=Qbj (enc:=Qav) (l:=Xb l) hrow (by rw[← hz];simp) (by
  rw[← hz,show Qav=fun x => [Value.string x] from rfl,Qfk,List.map_map];rfl)
 exact⟨v,rfl,A,c,hv,ho,hb⟩
theorem Qke {P:Program} {ρ6:Ren} (S:SlLaysZI.n6 P ρ6) (hsort:∀ m,AnyZI.SortsIn P ρ6 Fence.wide m) (e9:∀ args w,(callFunc (ρ6.f 9) args).run P w = .ok (.enter (ρ6.f 9) args) w) {g:Nat} {lb:Array Value} (eg:∀ args w,(callFunc g args).run P w = .ok (.enter g args) w)
 (hok:Qt2 P (ρ6.f 6)) {w:World} {l:List Int} {N:Nat} {Q:List Int→Prop} (hQ:∀ ss,Q ss→ss.Perm l) (hN:N≤1000000000) (hseq:SeqGives Fence.wide 2 P g lb (Value.int .i64) Q N w) :
 Cal P (ρ6.f 6) [.func (.func g) #[] lb] w fun r w'=>∃ A c,r = .slice A (Qd4 l).length c∧Own Qgr 1 (ρ6.t 26) w.heap.size w' A c (Qd4 l)∧Ext w w':=by
 have hS:=AnyZI.sorted_in S Fence.wide 5 trivial trivial trivial trivial rfl (by omega) (hsort _) e9 g lb trivial eg _ N (by unfold maxLen;omega) (by omega) w hseq;refine⟨hok,(callsIn_wide.1 hS).mono ?_⟩;rintro e w' ⟨v,ss,rfl,hp,hrow,_,hb⟩;have hz:(ss.mergeSort fun x y=>decide (x≤y))=Qd4 l:=Qs9 ((Qdm ss).trans (hQ ss hp)) (Qmm ss)
 obtain⟨A,c,hv,ho⟩:=Qbj (enc:=Qgr) (l:=Qd4 l) hrow (by rw[← hz];simp) (by
  rw[← hz,show Qgr=fun x => [Value.int .i64 x] from rfl,Qfk])
 exact⟨v,rfl,A,c,hv,ho,hb⟩
theorem Qf0 {P:Program} {ρ7:Ren} (K:SlLaysZ.n10 P ρ7) {w:World} {Bm b:Nat} {L:List (ByteArray×Value)} (hc:w.cell? ⟨Bm,0,none⟩=some (.map (some b))) (hm:MapAt w b Value.string L) (hk:∀ x∈L,x.1.size≤1000000) (hl:L.length≤1000000000) :
 ∃ N Q,N≤1000000000∧(∀ ss:List (List UInt8),Q ss→ss.Perm ((L.map (·.1)).map fun x=>x.data.toList))∧SeqGives Fence.wide 2 P (ρ7.f 10) #[.pointer (some ⟨Bm,0,none⟩)] encStr Q N w:=by
 obtain⟨es,hown,hes⟩:=Qpo (P:=P) (k:=ρ7.t 26) hm (fun a b e=>by simpa using e) (fun x => .string x.data.toList) (fun x hx=>keyOf_string_mk K.t26 (by have:=hk x hx;unfold maxLen;omega)) hl
 have hsz:Maps.size (.map es)=L.length:=by
  have:=hes.length_eq
  simp at this
  simpa [Maps.size] using this
 refine⟨_,_,?_,fun ss hp => ?_,AnyZ.keys_gives K Fence.wide 2 trivial rfl (by omega) Bm b _ _ w (cell_lt hc) hc hown⟩
 · rw[hsz];exact hl
 · refine hp.trans ?_
   simp only[strKeys];refine(hes.map _).trans ?_;rw[List.map_map,List.map_map]
   exact List.Perm.refl _
theorem Q3v {P:Program} {ρ7:Ren} (K:SlLaysZI.n10 P ρ7) {w:World} {Bm b:Nat} {L:List (Int×Value)} (hc:w.cell? ⟨Bm,0,none⟩=some (.map (some b))) (hm:MapAt w b vi L) (hk:∀ x∈L,0≤x.1∧x.1≤4611686018427387904) (hl:L.length≤1000000000) :
 ∃ N Q,N≤1000000000∧(∀ ss:List Int,Q ss→ss.Perm (L.map (·.1)))∧SeqGives Fence.wide 2 P (ρ7.f 10) #[.pointer (some ⟨Bm,0,none⟩)] (Value.int .i64) Q N w:=by
 obtain⟨es,hown,hes⟩:=Qpo (P:=P) (k:=ρ7.t 26) hm (fun a b e=>by simpa [vi] using e) (fun x => .int .i64 x) (fun x hx=>keyOf_int_mk K.t26 (by
  have:=hk x hx;simp only[Lit.wf,Bool.and_eq_true,decide_eq_true_eq,show IntKind.i64.min = -9223372036854775808 from by decide,show IntKind.i64.max=9223372036854775807 from by decide];omega)) hl
 have hsz:Maps.size (.map es)=L.length:=by
  have:=hes.length_eq
  simp at this
  simpa [Maps.size] using this
 refine⟨_,_,?_,fun ss hp => ?_,AnyZI.keys_gives K Fence.wide 2 trivial rfl (by omega) Bm b _ _ w (cell_lt hc) hc hown⟩
 · rw[hsz];exact hl
 · refine hp.trans ?_
   simp only[intKeys];refine(hes.map _).trans ?_;rw[List.map_map]
   exact List.Perm.refl _
theorem Qp2 (w:World) (v:Value) (t:TypeId):(w.alloc (.cells #[v] t)).cell? ⟨w.heap.size,0,none⟩=some v:=by
 exact cell_one_new w v t 0 v rfl
theorem Qex {P:Program} {ρ7:Ren} (K:SlLaysZ.n7 P ρ7) (hok:Qt2 P (ρ7.f 7)) (mb:Option Nat) (w:World) :
 Cal P (ρ7.f 7) [.map mb] w fun r w'=>r = .func (.func (ρ7.f 10)) #[] #[.pointer (some ⟨w.heap.size,0,none⟩)]∧w'.cell? ⟨w.heap.size,0,none⟩=some (.map mb)∧Ext w w':=by
 refine⟨hok,(callsIn_wide.1 (AnyZ.keys_in K Fence.wide 5 trivial rfl mb w)).mono ?_⟩;rintro e w' ⟨rfl,rfl⟩
 exact⟨_,rfl,rfl,Qp2 _ _ _,(Below.refl _ _).alloc (Nat.le_refl _) _⟩
theorem Q3u {P:Program} {ρ7:Ren} (K:SlLaysZI.n7 P ρ7) (hok:Qt2 P (ρ7.f 7)) (mb:Option Nat) (w:World) :
 Cal P (ρ7.f 7) [.map mb] w fun r w'=>r = .func (.func (ρ7.f 10)) #[] #[.pointer (some ⟨w.heap.size,0,none⟩)]∧w'.cell? ⟨w.heap.size,0,none⟩=some (.map mb)∧Ext w w':=by
 refine⟨hok,(callsIn_wide.1 (AnyZI.keys_in K Fence.wide 5 trivial rfl mb w)).mono ?_⟩;rintro e w' ⟨rfl,rfl⟩
 exact⟨_,rfl,rfl,Qp2 _ _ _,(Below.refl _ _).alloc (Nat.le_refl _) _⟩
end
end Go.Proofs.YtohkipkjleldpaaGreatDoor
namespace Go.Proofs.YtohkipkjleldpaaGreatDoor
open Go.Se Go.RowKit
open Go.Maps Go.Sort Go.Shelf
theorem Qe5:Xb [] = []:=by simp[Xb]
theorem Qml:Qd4 [] = []:=by simp[Qd4]
theorem Qtf (m:Nat):AnyZ.SortsIn Tryz.prog Tryz.sorted35_ren Fence.wide m :=
 ⟨fun blk off cap ss W h1 h2 h3=>callsIn_wide.2 (AnyM.slices_Sort_string Tryz.sort67 blk off cap ss W h1 h2 h3),fun p cap W=>callsIn_wide.2 (AnyM.slices_Sort_string_none Tryz.sort67 p cap W)⟩
theorem Q9i (m:Nat):AnyZI.SortsIn Tryz.prog Tryz.sorted367_ren Fence.wide m :=
 ⟨fun blk off cap ss W h1 h2 h3=>callsIn_wide.2 (AnyM.slices_Sort_int Tryz.sort396 blk off cap ss W h1 h2 h3),fun p cap W=>callsIn_wide.2 (AnyM.slices_Sort_int_none Tryz.sort396 p cap W)⟩
theorem Qnu (mb:Option Nat) (w:World):Cal Tryz.prog 251 [.map mb] w fun r w'=>r = .func (.func 319) #[] #[.pointer (some ⟨w.heap.size,0,none⟩)]∧w'.cell? ⟨w.heap.size,0,none⟩=some (.map mb)∧Ext w w' :=
 Qex Tryz.keys251 ⟨_,Tryz.func251,rfl,rfl⟩ mb w
theorem Qkd {w:World} {Bm b:Nat} {L:List (ByteArray×Value)} (hc:w.cell? ⟨Bm,0,none⟩=some (.map (some b))) (hm:MapAt w b Value.string L) (hk:∀ x∈L,x.1.size≤1000000) (hl:L.length≤1000000000) :
 Cal Tryz.prog 35 [.func (.func 319) #[] #[.pointer (some ⟨Bm,0,none⟩)]] w fun r w'=>∃ A c,r = .slice A (Xb (L.map (·.1))).length c∧Own Qav 1 9 w.heap.size w' A c (Xb (L.map (·.1)))∧Ext w w':=by
 obtain⟨N,Q,h1,h2,h3⟩:=Qf0 { Tryz.keys251 with } hc hm hk hl
 exact Qc5 Tryz.sorted35 Qtf (enters_of Tryz.func67 (by kernel_rfl) rfl) (enters_of Tryz.func319 (by kernel_rfl) rfl) ⟨_,Tryz.func35,rfl,rfl⟩ h2 h1 h3
theorem Qz3 (mb:Option Nat) (w:World):Cal Tryz.prog 283 [.map mb] w fun r w'=>r = .func (.func 338) #[] #[.pointer (some ⟨w.heap.size,0,none⟩)]∧w'.cell? ⟨w.heap.size,0,none⟩=some (.map mb)∧Ext w w' :=
 Qex Tryz.keys283 ⟨_,Tryz.func283,rfl,rfl⟩ mb w
theorem Qtd {w:World} {Bm b:Nat} {L:List (ByteArray×Value)} (hc:w.cell? ⟨Bm,0,none⟩=some (.map (some b))) (hm:MapAt w b Value.string L) (hk:∀ x∈L,x.1.size≤1000000) (hl:L.length≤1000000000) :
 Cal Tryz.prog 35 [.func (.func 338) #[] #[.pointer (some ⟨Bm,0,none⟩)]] w fun r w'=>∃ A c,r = .slice A (Xb (L.map (·.1))).length c∧Own Qav 1 9 w.heap.size w' A c (Xb (L.map (·.1)))∧Ext w w':=by
 obtain⟨N,Q,h1,h2,h3⟩:=Qf0 { Tryz.keys283 with } hc hm hk hl
 exact Qc5 Tryz.sorted35 Qtf (enters_of Tryz.func67 (by kernel_rfl) rfl) (enters_of Tryz.func338 (by kernel_rfl) rfl) ⟨_,Tryz.func35,rfl,rfl⟩ h2 h1 h3
theorem Qnv (mb:Option Nat) (w:World):Cal Tryz.prog 368 [.map mb] w fun r w'=>r = .func (.func 397) #[] #[.pointer (some ⟨w.heap.size,0,none⟩)]∧w'.cell? ⟨w.heap.size,0,none⟩=some (.map mb)∧Ext w w' :=
 Q3u Tryz.keys368 ⟨_,Tryz.func368,rfl,rfl⟩ mb w
theorem Qtb {w:World} {Bm b:Nat} {L:List (Int×Value)} (hc:w.cell? ⟨Bm,0,none⟩=some (.map (some b))) (hm:MapAt w b vi L) (hk:∀ x∈L,0≤x.1∧x.1≤4611686018427387904) (hl:L.length≤1000000000) :
 Cal Tryz.prog 367 [.func (.func 397) #[] #[.pointer (some ⟨Bm,0,none⟩)]] w fun r w'=>∃ A c,r = .slice A (Qd4 (L.map (·.1))).length c∧Own Qgr 1 3 w.heap.size w' A c (Qd4 (L.map (·.1)))∧Ext w w':=by
 obtain⟨N,Q,h1,h2,h3⟩:=Q3v { Tryz.keys368 with } hc hm hk hl
 exact Qke Tryz.sorted367 Q9i (enters_of Tryz.func396 (by kernel_rfl) rfl) (enters_of Tryz.func397 (by kernel_rfl) rfl) ⟨_,Tryz.func367,rfl,rfl⟩ h2 h1 h3
theorem Qwg {w:World} {Bm:Nat} (hc:w.cell? ⟨Bm,0,none⟩=some (.map none)) :
 Cal Tryz.prog 367 [.func (.func 397) #[] #[.pointer (some ⟨Bm,0,none⟩)]] w fun r w'=>∃ A c,r = .slice A 0 c∧Own Qgr 1 3 w.heap.size w' A c []∧Ext w w':=by
 have:=Qke Tryz.sorted367 Q9i (enters_of Tryz.func396 (by kernel_rfl) rfl) (enters_of Tryz.func397 (by kernel_rfl) rfl) ⟨_,Tryz.func367,rfl,rfl⟩ (l := []) (fun ss (h:ss = [])=>by rw[h]) (Nat.zero_le _) (AnyZI.keys_gives_nil { Tryz.keys368 with } Fence.wide 2 trivial rfl Bm w (cell_lt hc) hc);simp only[Qe5,Qml,List.length_nil] at this
 exact this
end Go.Proofs.YtohkipkjleldpaaGreatDoor
namespace Go.Proofs.YtohkipkjleldpaaGreatDoor
open Go.Se Go.RowKit
def Q1x:List ByteArray→List ByteArray
 | [] => []
 | a :: l=>if a∈l then Q1x l else a :: Q1x l
theorem Qgn {x:ByteArray}:∀ {l:List ByteArray},x∈Q1x l↔x∈l
 | []=>Iff.rfl
 | a :: l=>by
   have ih:=Qgn (x:=x) (l:=l);unfold Q1x
   split
   · next h =>
     rw[ih,List.mem_cons];constructor
     · exact .inr
     · rintro (rfl | h1)
       · exact h
       · exact h1
   · rw[List.mem_cons,List.mem_cons,ih]
theorem Qes:∀ l:List ByteArray,(Q1x l).Nodup
 | []=>List.nodup_nil
 | a :: l=>by
   have ih:=Qes l;unfold Q1x
   split
   · exact ih
   · next h=>exact List.nodup_cons.2 ⟨fun h1=>h (Qgn.1 h1),ih⟩
def Qbt (l:List ByteArray):List ByteArray:=Xb (Q1x l)
theorem Xp {l:List ByteArray} {x:ByteArray}:x∈Qbt l↔x∈l:=by unfold Qbt;rw[Qgc,Qgn]
theorem Qcm (l:List ByteArray):(Qbt l).Nodup:=(Qa6 _).nodup_iff.2 (Qes l)
theorem Qga {K l:List ByteArray} (hn:K.Nodup) (hm:∀ x,x∈K↔x∈l):Xb K=Qbt l:=by
 have hp:K.Perm (Q1x l):=Qec hn (Qes l) (fun x hx=>Qgn.2 ((hm x).1 hx)) (fun x hx=>(hm x).2 (Qgn.1 hx))
 exact Qb8 ((Qa6 K).trans hp) (Qe6 K)
theorem Qog {k l:List ByteArray} (hm:∀ x,x∈k↔x∈l):Qbt k=Qbt l:=Qga (Qes k) fun x=>Qgn.trans (hm x)
theorem Qkz (l:List ByteArray):(Qbt l).length≤l.length:=by
 unfold Qbt;rw[Qc4]
 induction l with
 | nil=>simp[Q1x]
 | cons a l ih=>unfold Q1x;split <;> simp <;> omega
theorem Xx {β:Type} {L:List (ByteArray×β)} (h:L.Pairwise (fun x y=>x.1≠y.1)):(L.map (·.1)).Nodup:=by
 rw[List.nodup_iff_pairwise_ne,List.pairwise_map];exact h
theorem Qkx {β:Type} {L:List (ByteArray×β)} {k:ByteArray}:k∈L.map (·.1)↔(Qe L k).isSome=true:=by
 cases h:Qe L k with
 | none =>
   have:=Qgk.1 h;simp only[List.mem_map,Option.isSome_none,Bool.false_eq_true,iff_false];rintro ⟨x,hx,rfl⟩
   exact this x hx rfl
 | some v =>
   have:=Xt h;simp only[Option.isSome_some,iff_true,List.mem_map]
   exact⟨_,this,rfl⟩
abbrev Grp:=Int×Int×List ByteArray
def Qck (gap:Int) (acc:List Grp) (t:Int) (its:List ByteArray):List Grp :=
 match acc.getLast? with
 | some g=>if gap<t-g.2.1 then acc ++ [(t,t,its)] else acc.dropLast ++ [(g.1,t,g.2.2++its)]
 | none => [(t,t,its)]
abbrev Qd1:=List (Int×List (ByteArray×Bool))
def Xk (k:Qd1) (t:Int):List ByteArray:=((Qe k t).getD []).map (·.1)
def Qfr (gap:Int) (k:Qd1) (ts:List Int):List Grp:=ts.foldl (fun acc t=>Qck gap acc t (Xk k t)) []
def Xcj (gap:Int) (k:Qd1):List Grp:=Qfr gap k (Qd4 (k.map (·.1)))
theorem Qgq (gap:Int) (k:Qd1) (ts:List Int) (t:Int):Qfr gap k (ts ++ [t])=Qck gap (Qfr gap k ts) t (Xk k t):=by unfold Qfr;rw[List.foldl_append];rfl
structure Sn where
 person:ByteArray
 from_:Int
 to_:Int
 items:List ByteArray
deriving DecidableEq,Inhabited
def Q6s (person:ByteArray) (g:Grp):Sn:=⟨person,g.1,g.2.1,Qbt g.2.2⟩
def Qe2 (gap:Int) (ss:Ses) (person:ByteArray):List Sn:=(Xcj gap ((Qe ss person).getD [])).map (Q6s person)
def Qim (gap:Int) (ss:Ses):List Sn:=(Xb (ss.map (·.1))).flatMap (Qe2 gap ss)
theorem Xap (gap:Int) (acc:List Grp) (t:Int) (its:List ByteArray):(Qck gap acc t its).length≤acc.length+1:=by
 unfold Qck
 split
 · next g h =>
   split
   · simp
   · simp
 · simp
theorem Q3h (gap:Int) (k:Qd1):∀ ts:List Int,(Qfr gap k ts).length≤ts.length:=by
 refine Qu (by simp[Qfr]) fun l t ih => ?_
 rw[Qgq];have:=Xap gap (Qfr gap k l) t (Xk k t)
 simp;omega
theorem Q7r (gap:Int) (k:Qd1):(Xcj gap k).length≤k.length:=by
 have:=Q3h gap k (Qd4 (k.map (·.1)));rw[Qs7,List.length_map] at this
 exact this
def hasB (a:ByteArray) (s:Sn):Bool:=decide (a∈s.items)
def Qam (S:List Sn) (a:ByteArray):Nat:=(S.filter (hasB a)).length
def Qc7 (S:List Sn) (a b:ByteArray):Nat:=(S.filter fun s=>hasB a s&&hasB b s).length
theorem Qgb (S:List Sn) (a:ByteArray):Qam S a≤S.length:=List.length_filter_le _ _
theorem Qvt (S:List Sn) (a b:ByteArray):Qc7 S a b≤S.length:=List.length_filter_le _ _
def Qpv (S:List Sn) (a b:ByteArray):Int×Int :=
 if Qam S a=0∨Qam S b=0 then(0,1) else if a=b then(1,1) else((Qc7 S a b:Int)*Qc7 S a b,(Qam S a:Int)*Qam S b)
def Q0u (a b:Int×Int):Bool:=decide (a.1*b.2<b.1*a.2)
def Qla (N:Int) (r:Int×Int):Prop:=0≤r.1∧r.1≤N∧1≤r.2∧r.2≤N
theorem Xay {S:List Sn} {N:Int} (hN:(S.length:Int)*S.length≤N) (h1:1≤N) (a b:ByteArray):Qla N (Qpv S a b):=by
 unfold Qpv;have ha:=Qgb S a;have hb:=Qgb S b;have hp:=Qvt S a b
 split
 · exact⟨by simp,by simp;omega,by simp,by simp;omega⟩
 split
 · exact⟨by simp,by simpa using h1,by simp,by simpa using h1⟩
 · next h0 _ =>
   have h2:(1:Int)≤Qam S a:=by omega
   have h3:(1:Int)≤Qam S b:=by omega
   have e1:((Qc7 S a b:Int)*Qc7 S a b)≤(S.length:Int)*S.length:=Int.mul_le_mul (by omega) (by omega) (by omega) (by omega);have e2:((Qam S a:Int)*Qam S b)≤(S.length:Int)*S.length:=Int.mul_le_mul (by omega) (by omega) (by omega) (by omega);have e3:(1:Int)*1≤(Qam S a:Int)*Qam S b:=Int.mul_le_mul h2 h3 (by omega) (by omega)
   exact⟨Int.mul_nonneg (by omega) (by omega),by simp only;omega,by simp only;omega,by simp only;omega⟩
def flB (person maker:ByteArray) (e:Ev):Bool:=decide (e.person=person)&&(decide (e.text=maker)&&(decide (e.kind=7)||decide (e.kind=8)))
def Xb5 (z:List Ev) (person maker:ByteArray):Bool:=match (z.filter (flB person maker)).getLast? with
 | some e=>decide (e.kind=7)
 | none=>false
theorem Qrz (person maker:ByteArray):∀ rs:List Row,(Qe (X0 rs).follows (person,maker))=((evs rs).filter (flB person maker)).getLast?.map fun e=>decide (e.kind=7):=by
 refine Qu (by simp[X0,evs,Cw0,Qe]) fun rs r ih => ?_
 rw[Qf3,Qpf,List.filter_append]
 have hB:(Qdf (X0 rs) r.1).follows=(Qc0 (X0 rs) r.1).follows:=by
  unfold Qdf Qp5
  split <;> rfl
 rw[hB];unfold Qc0
 cases hf:flB person maker r.1 with
 | true =>
   simp only[flB,Bool.and_eq_true,Bool.or_eq_true,decide_eq_true_eq] at hf;obtain⟨h1,h2,h3⟩:=hf;rw[if_neg (by omega),if_neg (by omega),if_neg (by omega),if_pos h3];have hf2:flB person maker r.1=true:=by simp[flB,h1,h2,h3]
   simp only[List.filter_cons,hf2,if_true,List.filter_nil,List.getLast?_append,List.getLast?_singleton,Option.some_or,Option.map_some];rw[show ((person,maker):LK)=mkr r.1 by unfold mkr;rw[h1,h2],Q8]
 | false =>
   simp only[List.filter_cons,hf,Bool.false_eq_true,if_false,List.filter_nil,List.append_nil];rw[← ih]
   split
   · rfl
   split
   · rfl
   split
   · rfl
   split
   · next h3 =>
     show Qe (Q7 _ _ _) _=_
     rw[Xg,if_neg];intro he;unfold mkr at he;injection he with h1 h2
     simp[flB,← h1,← h2] at hf
     omega
   split
   · rfl
   · rfl
theorem Qzu (z:List Ev) (person maker:ByteArray):Xb5 (Qb4 z) person maker=Xb5 z person maker:=by
 unfold Xb5 Qb4;rw[List.filter_filter]
 have:(fun a=>flB person maker a&&peB a)=flB person maker:=by
  funext a
  cases h:flB person maker a with
  | false=>rfl
  | true =>
    simp only[flB,Bool.and_eq_true,Bool.or_eq_true,decide_eq_true_eq] at h;have:peB a=true:=by simp[peB,thB];omega
    rw[this];rfl
 rw[this]
def Qbc (fl:List (LK×Bool)) (person:ByteArray) (h:List Ev):List (ByteArray×Bool) :=
 h.foldl (fun m e=>if e.kind=7∧(Qe fl (person,e.text)).getD false=true then Q7 m e.text true else m) []
theorem Qfe (fl:List (LK×Bool)) (person:ByteArray) (h:List Ev) (e:Ev):Qbc fl person (h ++ [e])=if e.kind=7∧(Qe fl (person,e.text)).getD false=true then Q7 (Qbc fl person h) e.text true else Qbc fl person h:=by unfold Qbc;rw[List.foldl_append];rfl
theorem Qnq (fl:List (LK×Bool)) (person:ByteArray) (x:ByteArray):∀ h:List Ev,x∈(Qbc fl person h).map (·.1)↔∃ e∈h,e.kind=7∧e.text=x∧(Qe fl (person,x)).getD false=true:=by
 refine Qu (by simp[Qbc]) fun h e ih => ?_
 rw[Qfe]
 split
 · next hc =>
   rw[Qcu];constructor
   · intro hx
     have:x=e.text∨x∈(Qbc fl person h).map (·.1):=by
      split at hx
      · exact .inr hx
      · rcases List.mem_append.1 hx with hx | hx
        · exact .inr hx
        · exact .inl (by simpa using hx)
     rcases this with rfl | hx
     · exact⟨e,by simp,hc.1,rfl,hc.2⟩
     · obtain⟨y,hy,h1⟩:=ih.1 hx
       exact⟨y,by simp[hy],h1⟩
   · rintro ⟨y,hy,h1,rfl,h2⟩
     rcases List.mem_append.1 hy with hy | hy
     · have:=ih.2 ⟨y,hy,h1,rfl,h2⟩
       split
       · exact this
       · exact List.mem_append.2 (.inl this)
     · have hy:y=e:=by simpa using hy
       subst hy
       split
       · assumption
       · simp
 · next hc =>
   rw[ih];constructor
   · rintro ⟨y,hy,h1⟩;exact⟨y,by simp[hy],h1⟩
   · rintro ⟨y,hy,h1,rfl,h2⟩
     rcases List.mem_append.1 hy with hy | hy
     · exact⟨y,hy,h1,rfl,h2⟩
     · have hy:y=e:=by simpa using hy
       subst hy
       exact absurd ⟨h1,h2⟩ hc
theorem Xam {rs:List Row} (person maker:ByteArray):maker∈(Qbc (X0 rs).follows person (hist (evs rs) person)).map (·.1)↔Xb5 (evs rs) person maker=true:=by
 rw[Qnq,Qrz];unfold Xb5
 cases hl:((evs rs).filter (flB person maker)).getLast? with
 | none=>simp
 | some e =>
   have he:=List.mem_of_getLast? hl;have hm:=List.mem_filter.1 he;have hb:=hm.2;simp only[flB,Bool.and_eq_true,Bool.or_eq_true,decide_eq_true_eq] at hb;simp only[Option.map_some,Option.getD_some,decide_eq_true_eq];constructor
   · rintro ⟨_,_,_,_,h⟩;exact h
   · intro h
     exact⟨e,List.mem_filter.2 ⟨hm.1,by simpa using hb.1⟩,h,hb.2.1,h⟩
def Q9m (half now:Int) (e:Ev):Int:=Qy e*Qc9 (now-e.at_) half
theorem Qon {half now:Int} {e:Ev} (hm:Xn e=true):0≤Q9m half now e∧Q9m half now e≤5242880:=by
 have h1:=Qk8 hm;have h2:=Qtw (now-e.at_) half;unfold Q9m;refine⟨Int.mul_nonneg h1.1 h2.1,?_⟩;have:Qy e*Qc9 (now-e.at_) half≤5*1048576:=Int.mul_le_mul h1.2 h2.2 h2.1 (by omega);omega
theorem Xa6 (width:Int):∀ l:List Ev,(Qt7 width l).Pairwise (fun x y=>x.1≠y.1):=by
 refine Qu (by simp[Qt7]) fun l e ih => ?_
 rw[Qqf];unfold Qoa
 split
 · exact ih
 · exact X5 ih
theorem Qng {κ β:Type} [DecidableEq κ] (x:κ×β) (l:List (κ×β)) (k:κ):Qe (x :: l) k=if k=x.1 then some x.2 else Qe l k:=rfl
theorem Qmc {s:Qae} {key:ByteArray} {lo hi:Int} (h:hi≤lo):paS s key lo hi=0:=by
 unfold paS
 have:(s.filter fun x=>decide (x.1.1=key)&&(decide (lo≤x.1.2)&&decide (x.1.2<hi))) = []:=by
  rw[List.filter_eq_nil_iff];intro x _
  simp
  omega
 rw[this];rfl
theorem Qx8 (x:PK×Int) (s:Qae) (key:ByteArray) (lo hi:Int):paS (x :: s) key lo hi=(if x.1.1=key∧lo≤x.1.2∧x.1.2<hi then x.2 else 0)+paS s key lo hi:=by
 unfold paS;rw[List.filter_cons]
 by_cases h:x.1.1=key∧lo≤x.1.2∧x.1.2<hi
 · rw[if_pos (by simp[h.1,h.2.1,h.2.2]),if_pos h];simp
 · rw[if_neg (by simpa using h),if_neg h];omega
theorem Q75 {s:Qae} (hp:s.Pairwise (fun x y=>x.1≠y.1)) (key:ByteArray) (lo hi:Int) (h:lo≤hi):paS s key lo (hi+1)=paS s key lo hi+(Qe s (key,hi)).getD 0:=by
 induction s with
 | nil=>simp[paS,Qe]
 | cons x s ih =>
   rw[List.pairwise_cons] at hp;have ih:=ih hp.2;rw[Qx8,Qx8,ih,Qng]
   by_cases hk:(key,hi)=x.1
   · rw[if_pos hk]
     have h0:Qe s (key,hi)=none:=Qgk.2 fun y hy=>by rw[hk];exact fun e=>hp.1 y hy e.symm
     rw[h0,if_pos (by rw[← hk];simp;omega),if_neg (by rw[← hk];simp)]
     simp
     omega
   · rw[if_neg hk]
     have:(x.1.1=key∧lo≤x.1.2∧x.1.2<hi+1)↔(x.1.1=key∧lo≤x.1.2∧x.1.2<hi):=by
      constructor
      · rintro ⟨h1,h2,h3⟩
        refine⟨h1,h2,?_⟩;have:x.1.2≠hi:=fun e=>hk (by rw[← h1,← e])
        omega
      · rintro ⟨h1,h2,h3⟩;exact⟨h1,h2,by omega⟩
     by_cases hc:x.1.1=key∧lo≤x.1.2∧x.1.2<hi
     · rw[if_pos hc,if_pos (this.2 hc)];omega
     · rw[if_neg hc,if_neg (fun h=>hc (this.1 h))];omega
def Q6r (s:Qae) (key:ByteArray) (lo hi:Int) (row:List Int):Int:=((row.filter fun n=>decide (lo≤n)&&decide (n<hi)).map fun n=>(Qe s (key,n)).getD 0).sum
theorem Q5d (s:Qae) (key:ByteArray) (lo hi:Int) (row:List Int) (n:Int):Q6r s key lo hi (row ++ [n])=Q6r s key lo hi row+if lo≤n∧n<hi then(Qe s (key,n)).getD 0 else 0:=by
 unfold Q6r;rw[List.filter_append,List.map_append,List.sum_append]
 by_cases h:lo≤n∧n<hi
 · simp[h.1,h.2]
 · rw[if_neg h]
   have:(decide (lo≤n)&&decide (n<hi))=false:=by simpa using fun h1=>by omega
   simp[this]
theorem Q8g {s:Qae} (hp:s.Pairwise (fun x y=>x.1≠y.1)) (key:ByteArray) (lo hi:Int):Q6r s key lo hi (Qan s key)=paS s key lo hi:=by
 unfold Q6r Qan paS;rw[List.filter_map,List.map_map,List.filter_filter]
 have:(s.filter fun a=>(Function.comp (fun n=>decide (lo≤n)&&decide (n<hi)) fun x:PK×Int=>x.1.2) a&&decide (a.1.1=key))=s.filter fun x=>decide (x.1.1=key)&&(decide (lo≤x.1.2)&&decide (x.1.2<hi)):=by
  apply List.filter_congr
  intro x _;simp only[Function.comp];rw[Bool.and_comm]
 rw[this]
 congr 1
 apply List.map_congr_left
 intro x hx;have hm:=List.mem_filter.1 hx;have hk:x.1.1=key:=by have:=hm.2;simp at this;exact this.1
 simp only[Function.comp];rw[← hk,Qcd hp (show ((x.1.1,x.1.2),x.2)∈s from hm.1)]
 rfl
theorem Qsr {s:Qae} {N:Int} (h:Qg2 s N) (hN:0≤N) (key:ByteArray) (lo hi:Int):0≤paS s key lo hi∧paS s key lo hi≤s.length*N:=by
 have hb:=Qiq (fun x:PK×Int=>x.2) N (s.filter fun x=>decide (x.1.1=key)&&(decide (lo≤x.1.2)&&decide (x.1.2<hi))) fun x hx=>by
  have:=h x (List.mem_filter.1 hx).1
  exact⟨by omega,this.2⟩
 have hl:=List.length_filter_le (fun x:PK×Int=>decide (x.1.1=key)&&(decide (lo≤x.1.2)&&decide (x.1.2<hi))) s;unfold paS;refine⟨hb.1,Int.le_trans hb.2 (Int.mul_le_mul_of_nonneg_right (by omega) hN)⟩
end Go.Proofs.YtohkipkjleldpaaGreatDoor
