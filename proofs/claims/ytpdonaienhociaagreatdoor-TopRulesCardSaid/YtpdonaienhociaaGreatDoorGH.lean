import Derived.Laws.IdiomRangeMap
import Derived.Test.YtpdonaienhociaaGreatDoorGF
import Derived.Test.YtpdonaienhociaaGreatDoorHKeyL
set_option linter.all false
namespace Go.Proofs.YtpdonaienhociaaGreatDoor
open Go.Se Go.RowKit
theorem Qlc (a b:Int):IntKind.i64.wrap (IntKind.i64.wrap a+b)=IntKind.i64.wrap (a+b):=by
 simp only[IntKind.wrap,IntKind.bits,IntKind.signed];simp;split <;> split <;> split <;> omega
theorem Q5r (a b:Int):IntKind.i64.wrap (a+IntKind.i64.wrap b)=IntKind.i64.wrap (a+b):=by
 rw[Int.add_comm,Qlc,Int.add_comm]
theorem Xbg:IntKind.i64.wrap 0=0:=by decide
def Qas (age half:Int):Int:=if age<0 then 0 else if 20<age/max half 1 then 0 else(1048576:Int).fdiv (2 ^ (age/max half 1).toNat)
theorem Qgn (age half:Int) (ha:-4611686018427387904<=age/\age<=9223372036854775807) (w:World) :
 Cal Tryz.prog 160 [Vj age,Vj half] w fun r w'=>r = Vj (Qas age half)/\w'=w:=by
 have hm:max half 1≠0:=Om;refine Fi Tryz.func160 rfl _ rfl rfl (Hh ?_);constructor
 . intro hc;have hc:age<0:=Su hc;refine Hh ?_;exact⟨by rw[Qas,if_pos hc],rfl⟩
 . intro hc;have hc:¬ age<0:=Su hc;have h1:age.tdiv (max half 1)=age/max half 1:=Zcn Om;have h2:0<=age/max half 1:=Zc5 Om Om;have h3:age/max half 1<=age:=Zcq _ Om;have hw:Qas age half=if 20<age/max half 1 then 0 else(1048576:Int).fdiv (2 ^ (age/max half 1).toNat):=by rw[Qas,if_neg hc]
   rw[hw];clear hw;refine Hh ?_;refine⟨age/max half 1,⟨hm,wrap_eq h1.symm ⟨Om,Om⟩⟩,Hh ?_⟩;generalize age/max half 1=n at h2 h3 ⊢;constructor
   . intro hn;have hn:20<n:=Su hn;refine Hh ?_;exact⟨by rw[if_pos hn],rfl⟩
   . intro hn;have hn:¬ 20<n:=Su hn;have hmin:min n.toNat IntKind.i64.bits=n.toNat:=by simp only[IntKind.bits];omega
     refine Hh ?_;refine⟨(1048576:Int).fdiv (2 ^ n.toNat),⟨h2,by rw[hmin]⟩,Hh ?_⟩;exact⟨by rw[if_neg hn],rfl⟩
def Qpz (half now:Int) (r:List (Int×Int)):Int:=(r.map fun x=>x.2*Qas (now-x.1) half).sum
theorem Q1j {l m:List Int} (h:l.Perm m):l.sum=m.sum:=by
 induction h with
 | nil=>rfl
 | cons a _ ih=>simp[ih]
 | swap a b l=>simp only[Za9];omega
 | trans _ _ h1 h2=>exact h1.trans h2
theorem Q46 {half now:Int} {r s:List (Int×Int)} (h:r.Perm s):Qpz half now r=Qpz half now s:=Q1j (h.map _)
def Qby (s:Qld) (half:Int) (key:Bj) (now:Int):Int:=IntKind.i64.wrap (Qpz half now ((Qe s key).getD []))
theorem Q87 {P:Program} {w:World} {mt kt et:TypeId} (ht:P.underlying mt=some (.map kt et)) {R:Value->World->Prop}
 (h:∀ w',Ext w w'->w'.heap[w.heap.size]? = some (.mapIter none 0 #[] 0)->R (Pj w.heap.size) w'):Qkj P (Instr.range mt (.map none)) w R:=by
 refine⟨_,_,Go.run_range_nilMap w mt kt et ht,h _ ((Below.refl _ _).alloc (Zg _) _) (heap_alloc_new w _)⟩
theorem Xco {P:Program} {w:World} {r:Nat} {a b:Nat} {s:Array Nat} {ty:TypeId} (hr:w.heap[r]? = some (.mapIter none a s b)) {R:Value->World->Prop} (h:R (.tuple #[.bool false]) w):Qkj P (Instr.next (Pj r) false ty) w R:=by
 refine⟨_,_,?_,h⟩;simp only[Instr.next,getObj,Sem.run_bind,Sem.run,hr,Result.andThen];rfl
theorem Q5o {vs L:List (Int×Int)} (h:(Xj vi vs).Perm (Xj vi L)):vs.Perm L:=by
 have h1:=h.map (fun x:Int×Value=>(x.1,match x.2 with | .int _ n=>n | _=>0));simpa [Xj,Zy,Function.comp_def,vi] using h1
theorem Qqb (w:World) (S:Nat->Prop) (p:Nat) (half n:Int) (s:Qld) (h:Qpm w S p half n s) (key:Bj) (now:Int) (hnow:0<=now/\now<=1099511627776) (ht:∀ r,Qe s key=some r->∀ x∈r,0<=x.1/\x.1<=1099511627776) :
 Cal Tryz.prog 245 [Pj p,.string key,Vj now] w fun r w'=>r = Vj (Qby s half key now)/\Ext w w':=by
 obtain⟨bm,h⟩:=h;have hplt:=h.head.lt;have hhead:=h.head;refine Fi Tryz.func245 rfl _ rfl rfl (Hh ?_);constructor
 . intro hc;have hc:now<0:=Su hc;omega
 intro _;refine Hh ?_;refine⟨.map (some bm),h.head.one rfl,Hh ?_⟩;rcases h.sums.look Qaj Xd0 (Qo Xb) (e:=ty367) ty367_ok rfl key with⟨hno,hrd⟩ | ⟨b,m,Sk,hsome,hrd,hIv,hSk,_⟩
 . have hres:Qby s half key now=0:=by unfold Qby;rw[hno];exact Xbg
   rw[hres];refine⟨_,hrd .same Qp,Hh ?_⟩;refine Q87 Q5l fun w2 hx2 hr2 => ?_
   generalize w.heap.size=r at hr2 ⊢;refine Hh ?_;refine Qh Qb (fun(_:Unit) w'=>w'=w2) (fun _ => [(19,Pj r),(7,Vj 0)]) (fun _=>0) () rfl Rr ?_;rintro _ w3 rfl;refine Hh ?_;refine Xco hr2 ?_;refine Hh ?_;constructor
   . intro hh;cases hh
   intro _;refine Hh ?_;exact⟨rfl,hx2⟩
 . have hm:=hIv.2;have ht:=ht m hsome;have hres:Qby s half key now=IntKind.i64.wrap (Qpz half now m):=by unfold Qby;rw[hsome];rfl
   rw[hres];refine⟨_,hrd .same Qp,Hh ?_⟩;refine map_range Q5l hm fun w3 hi3 hx3 => ?_
   have hrw:w.heap.size<=w.heap.size:=Zg _;generalize hr:w.heap.size=r at hi3 ⊢;refine Hh ?_
   refine Qh Qb (fun(q:List (Int×Int)×Int) w'=>Ext w w'/\Iter w' r b vi (Xj vi m) (Xj vi q.1)/\q.2=IntKind.i64.wrap (Qpz half now q.1))
    (fun | (vs,z) => [(0,Pj p),(2,Vj now),(19,Pj r),(7,Vj z)]) (fun q=>m.length-q.1.length) ([],0) ⟨hx3,hi3,Xbg.symm⟩ Rr ?_
   clear hi3 hx3;rintro ⟨vs,z⟩ w4 ⟨hx4,hi4,hz⟩;simp only at hi4 hz;refine Hh ?_;refine Qe9 hi4 (fun hp => ?_) (fun x w5 hin hnew hlt hi5 ho5 hen => ?_)
   . have hp:=Q5o hp;refine Hh ?_;constructor
     . intro hh;cases hh
     intro _;refine Hh ?_;exact⟨by rw[hz,Q46 hp],hx4⟩
   . obtain⟨y,hy,rfl⟩:=Zh.1 hin;have hlt:vs.length<m.length:=by simpa [Xj] using hlt
     have hvs:Xj vi vs ++ [(y.1,vi y.2)]=Xj vi (vs ++ [y]):=by simp[Xj]
     rw[hvs] at hi5;have hx5:=ho5.ext hx4 Om;have hty:=ht y hy;have hsn:IntKind.i64.wrap (Qpz half now (vs ++ [y]))=IntKind.i64.wrap (z+IntKind.i64.wrap (y.2*Qas (now-y.1) half)):=(by rw[hz,Qlc,Q5r];simp[Qpz]);refine Hh ?_;constructor
     . intro _;refine Hh ?_;refine Qaw (hen w5 rfl rfl) ?_;refine Hh ?_;refine⟨now-y.1,wrap_eq rfl ⟨Om,Om⟩,Hh ?_⟩;refine⟨_,(hhead.ext hx5).one rfl,Hh ?_⟩;refine(Qgn (now-y.1) half ⟨Om,Om⟩ w5).mono ?_;rintro _ _ ⟨rfl,rfl⟩;refine Hh ?_;refine⟨_,rfl,Hh ?_⟩;refine⟨_,rfl,Hh ?_⟩;exact⟨(vs ++ [y],_),by simp;omega,⟨hx5,hi5,hsn.symm⟩,Rr⟩
     . intro hh;cases hh
instance memDec (a:Bj) (l:List Bj):Decidable (a∈l):=decidable_of_iff (l.any (fun b=>decide (b=a))=true) (by simp)
def wpB (e:Ev):Bool:=decide (0<Qy e)
theorem Xg5 {e:Ev} (h:wpB e=true):e.kind=1\/e.kind=2\/e.kind=3\/e.kind=4:=by
 have h:0<Qy e:=by simpa [wpB] using h
 unfold Qy at h
 by_cases h1:e.kind=1
 . exact .inl h1
 by_cases h2:e.kind=2
 . exact .inr (.inl h2)
 by_cases h3:e.kind=3
 . exact .inr (.inr (.inl h3))
 by_cases h4:e.kind=4
 . exact .inr (.inr (.inr h4))
 rw[if_neg h1,if_neg h2,if_neg h3,if_neg h4] at h;omega
def Qik (l:List Ev):Qld:=l.foldl (fun s e=>Qq2 s e.item e.at_ (Qy e)) []
def Qt1 (width:Int) (l:List Ev):Qal:=l.foldl (fun s e=>Qq1 s (e.item,e.at_/Xd width) (Qy e)) []
def Qic (l:List Ev):Ses:=l.foldl (fun s e=>Xbj s e.person e.at_ e.item) []
theorem Qnr (l:List Ev) (e:Ev):Qik (l ++ [e])=Qq2 (Qik l) e.item e.at_ (Qy e):=by unfold Qik;rw[Zt];rfl
theorem Qs3 (width:Int) (l:List Ev) (e:Ev):Qt1 width (l ++ [e])=Qq1 (Qt1 width l) (e.item,e.at_/Xd width) (Qy e):=by unfold Qt1;rw[Zt];rfl
theorem Qzi (l:List Ev) (e:Ev):Qic (l ++ [e])=Xbj (Qic l) e.person e.at_ e.item:=by unfold Qic;rw[Zt];rfl
theorem Qc0 (width:Int) (z:List Ev):(Qi width z).ds=Qik (z.filter wpB)/\(Qi width z).ps=Qt1 width (z.filter wpB)/\(Qi width z).ss=Qic (z.filter wpB):=by
 induction z using Qv with
 | h0=>exact⟨rfl,rfl,rfl⟩
 | h1 l a ih =>
   rw[Qcz,Zq];unfold Qdw
   cases hw:wpB a with
   | true =>
     have hk:=Xg5 hw;have h0:0<Qy a:=by simpa [wpB] using hw
     have e1 : [a].filter wpB = [a]:=by simp[hw]
     rw[e1,Qnr,Qs3,Qzi,if_neg Om,if_neg Om,if_pos h0,<- ih.1,<- ih.2.1,<- ih.2.2];exact⟨rfl,rfl,rfl⟩
   | false =>
     have h0:¬ 0<Qy a:=by simpa [wpB] using hw
     have e1 : [a].filter wpB = []:=by simp[hw]
     rw[e1,Zw,<- ih.1,<- ih.2.1,<- ih.2.2];split
     . exact⟨rfl,rfl,rfl⟩
     split
     . exact⟨rfl,rfl,rfl⟩
     exact⟨rfl,rfl,rfl⟩
def Xej (l:List Ev) (half:Int) (key:Bj) (now:Int):Int:=((l.filter fun e=>decide (e.item=key)).map fun e=>Qy e*Qas (now-e.at_) half).sum
theorem Q1v (f:Int->Int) (t n:Int):∀ r:List (Int×Int),((Xc r t ((Qe r t).getD 0+n)).map fun x=>x.2*f x.1).sum=(r.map fun x=>x.2*f x.1).sum+n*f t
 | []=>by simp[Xc,Qe]
 | x :: r=>by
   have ih:=Q1v f t n r;unfold Xc Qe
   by_cases h:t=x.1
   . rw[if_pos h,if_pos h];simp only[Zaj,Zm,Za9];rw[Int.add_mul,h];omega
   . rw[if_neg h,if_neg h];simp only[Zm,Za9];rw[ih];omega
theorem Xhm (half:Int) (key:Bj) (now:Int):∀ l:List Ev,(∀ e∈l,wpB e=true)->Qpz half now ((Qe (Qik l) key).getD [])=Xej l half key now:=by
 refine Qv (fun _=>by simp[Qik,Qe,Qpz,Xej]) fun l e ih h => ?_
 have ih:=ih fun x hx=>h x (by simp[hx])
 have hw:0<Qy e:=by simpa [wpB] using h e (by simp)
 rw[Qnr];unfold Xej Qq2 at *;rw[if_neg Om,Zq,Zp,Zbd,<- ih,Xn]
 by_cases hk:key=e.item
 . subst hk;rw[if_pos rfl];simp only[Zaj];have hs:=Q1v (fun t=>Qas (now-t) half) e.at_ (Qy e) ((Qe (Qik l) e.item).getD []);unfold Qpz;rw[hs];simp
 . rw[if_neg hk];have:decide (e.item=key)=false:=by simp;exact fun h=>hk h.symm
   simp[this]
theorem Q0q:∀ l:List Ev,∀ key r,Qe (Qik l) key=some r->∀ x∈r,∃ e∈l,e.at_=x.1/\e.item=key:=by
 refine Qv (fun key r h=>by simp[Qik,Qe] at h) fun l e ih key r h x hx => ?_
 rw[Qnr] at h;unfold Qq2 at h;split at h
 . obtain⟨y,hy,h1⟩:=ih key r h x hx;exact⟨y,by simp[hy],h1⟩
 . rw[Xn] at h
   by_cases hk:key=e.item
   . rw[if_pos hk] at h;injection h with h;subst h;rcases Qbp hx with rfl | hx
     . exact⟨e,by simp,rfl,hk.symm⟩
     . cases hl:Qe (Qik l) e.item with
       | none=>rw[hl] at hx;simp at hx
       | some r =>
         rw[hl] at hx;obtain⟨y,hy,h1⟩:=ih e.item r hl x hx;exact⟨y,by simp[hy],h1.1,h1.2.trans hk.symm⟩
   . rw[if_neg hk] at h;obtain⟨y,hy,h1⟩:=ih key r h x hx;exact⟨y,by simp[hy],h1⟩
theorem Ql6 (age half:Int):0<=Qas age half/\Qas age half<=1048576:=by
 unfold Qas;split
 . omega
 split
 . omega
 . rw[Zcm _ (by exact Int.le_of_lt (Int.pow_pos Om))];exact⟨Zc5 Om (Int.le_of_lt (Int.pow_pos Om)),Zcq _ Om⟩
theorem Qep {α:Type} (f:α->Int) (M:Int):∀ l:List α,(∀ x∈l,0<=f x/\f x<=M)->0<=(l.map f).sum/\(l.map f).sum<=l.length*M
 | [],_=>by simp
 | x :: l,h=>by
   have h1:=h x (by simp);have ih:=Qep f M l fun y hy=>h y (by simp[hy])
   simp only[Zm,Za9,Z8];have:((l.length+1:Nat):Int)*M=l.length*M+M:=(by rw[show ((l.length+1:Nat):Int)=(l.length:Int)+1 by omega,Int.add_mul];omega);rw[this];omega
theorem Q84 {l:List Ev} (hm:∀ e∈l,X0 e=true) (half:Int) (key:Bj) (now:Int):0<=Xej l half key now/\Xej l half key now<=l.length*5242880:=by
 have h:=Qep (fun e:Ev=>Qy e*Qas (now-e.at_) half) 5242880 (l.filter fun e=>decide (e.item=key)) fun e he=>by
  have h1:=Qkg (hm e (Ze.1 he).1);have h2:=Ql6 (now-e.at_) half;refine⟨Zcv h1.1 h2.1,?_⟩
  calc Qy e*Qas (now-e.at_) half<=5*1048576:=Zbw h1.2 h2.2 h2.1 Om
   _=5242880:=Om
 have hl:=Zc (fun e:Ev=>decide (e.item=key)) l;unfold Xej;refine⟨h.1,Int.le_trans h.2 ?_⟩;exact Zas Om Om
def paE (l:List Ev) (width:Int) (key:Bj) (lo hi:Int):Int:=((l.filter fun e=>decide (e.item=key)&&(decide (lo<=e.at_/Xd width)&&decide (e.at_/Xd width<hi))).map Qy).sum
def paS (s:Qal) (key:Bj) (lo hi:Int):Int:=((s.filter fun x=>decide (x.1.1=key)&&(decide (lo<=x.1.2)&&decide (x.1.2<hi))).map (·.2)).sum
theorem Q1i (key:Bj) (lo hi:Int) (c:PK) (n:Int):∀ s:Qal,paS (Xc s c ((Qe s c).getD 0+n)) key lo hi=paS s key lo hi+if(decide (c.1=key)&&(decide (lo<=c.2)&&decide (c.2<hi)))=true then n else 0
 | []=>by
   unfold paS;simp only[Xc,Qe,Option.getD_none,Int.zero_add,Zar,Zc0];split <;> simp
 | x :: s=>by
   have ih:=Q1i key lo hi c n s;unfold paS at *;unfold Xc Qe
   by_cases h:c=x.1
   . rw[if_pos h,if_pos h];simp only[Zaj,Zar];rw[<- h];split
     . simp only[Zm,Za9];omega
     . simp
   . rw[if_neg h,if_neg h];simp only[Zar];split
     . simp only[Zm,Za9];rw[ih];omega
     . exact ih
theorem Xek (width:Int) (key:Bj) (lo hi:Int):∀ l:List Ev,(∀ e∈l,wpB e=true)->paS (Qt1 width l) key lo hi=paE l width key lo hi:=by
 refine Qv (fun _=>by simp[Qt1,paS,paE]) fun l e ih h => ?_
 have ih:=ih fun x hx=>h x (by simp[hx])
 have hw:0<Qy e:=by simpa [wpB] using h e (by simp)
 rw[Qs3];unfold Qq1 paE at *;rw[if_neg Om,Q1i,ih,Zq,Zp,Zbd];simp only[Zar,Zc0];split <;> simp
theorem Xc0 {l:List Ev} (hm:∀ e∈l,X0 e=true) (width:Int) (key:Bj) (lo hi:Int):0<=paE l width key lo hi/\paE l width key lo hi<=l.length*5:=by
 have h:=Qep Qy 5 (l.filter fun e=>decide (e.item=key)&&(decide (lo<=e.at_/Xd width)&&decide (e.at_/Xd width<hi))) fun e he=>Qkg (hm e (Ze.1 he).1)
 have hl:=Zc (fun e:Ev=>decide (e.item=key)&&(decide (lo<=e.at_/Xd width)&&decide (e.at_/Xd width<hi))) l;unfold paE;refine⟨h.1,Int.le_trans h.2 ?_⟩;exact Zas Om Om
def Xi (l:List Bj):List Bj:=l.mergeSort fun a b => !bLt b a
theorem Q75 (a b c:Bj) (h1:(!bLt b a)=true) (h2:(!bLt c b)=true):(!bLt c a)=true:=by
 rw[Zai] at *
 cases h:bLt c a with
 | false=>rfl
 | true =>
   cases hab:bLt a b with
   | true=>rw[Qbv h hab] at h2;cases h2
   | false=>rw[Qbw hab h1] at h;rw[h] at h2;cases h2
theorem Q74 (a b:Bj):((!bLt b a)||(!bLt a b))=true:=by
 cases h:bLt b a with
 | false=>rfl
 | true=>rw[Qdg h];rfl
theorem Qbl (l:List Bj):(Xi l).Perm l:=Zbs _ _
theorem Qf6 (l:List Bj):Srt bLt (Xi l):=by
 have:=Za8 (le:=fun a b => !bLt b a) Q75 Q74 l;exact this.imp fun h=>Su h
theorem Qct {l z:List Bj} (hp:z.Perm l) (hs:Srt bLt z):z=Xi l :=
 List.Perm.eq_of_pairwise (le:=fun a b=>bLt b a=false) (fun a b _ _ h1 h2=>Qbw h2 h1) hs (Qf6 l) (hp.trans (Qbl l).symm)
theorem Qf4 {l:List Bj} {x:Bj}:x∈Xi l↔x∈l:=(Qbl l).mem_iff
theorem Qcf (l:List Bj):(Xi l).length=l.length:=(Qbl l).length_eq
def Qew (l:List Int):List Int:=l.mergeSort fun x y=>decide (x<=y)
theorem Qd9 (l:List Int):(Qew l).Perm l:=Zbs _ _
theorem Qo3 (l:List Int):(Qew l).Pairwise (· <= ·):=by
 have:=Za8 (le:=fun x y:Int=>decide (x<=y)) (fun a b c h1 h2=>by simp at *;omega) (fun a b=>by simp;omega) l;exact this.imp fun h=>Su h
theorem Qwf {l z:List Int} (hp:z.Perm l) (hs:z.Pairwise (· <= ·)):z=Qew l :=
 List.Perm.eq_of_pairwise (le:=(· <= ·)) (fun a b _ _ h1 h2=>Int.le_antisymm h1 h2) hs (Qo3 l) (hp.trans (Qd9 l).symm)
theorem Qo1 {l:List Int} {x:Int}:x∈Qew l↔x∈l:=(Qd9 l).mem_iff
theorem Qwd (l:List Int):(Qew l).length=l.length:=(Qd9 l).length_eq
section
open Go.Maps Go.Sort Go.Shelf Go.WideElems
open Go.WideMaps (keyOf_string_mk)
open Go.WideShapes (sorted_perm)
theorem Qsd {κ:Type} {enc:κ->Value} {P:Program} {k:TypeId} {w:World} {b:Nat} {L:List (κ×Value)} (hm:MapAt w b enc L) (hinj:∀ a b,enc a=enc b->a=b) (lit:κ->Lit) (hk:∀ x∈L,keyOf P k (enc x.1)=some (lit x.1)) (hl:L.length<=1000000000) :
 ∃ es:List (Lit×DataW Unit),w.ownsMap P k (fun _=>some (.nil,[])) b L.length (.map es)/\es.Perm (L.map fun x=>(lit x.1,.nil)):=by
 obtain⟨E,clock,hE,rfl⟩:=hm;have hEl:(strip E).length=E.length:=by simp[strip]
 have hrd:∀ x∈E,rd (H:=Unit) P k (fun _=>some (.nil,[])) (mkE enc x)=some (lit x.1,.nil):=fun x hx =>
  Go.WideElems.rd_mk (P:=P) (k:=k) (R:=fun _=>some (.nil,[])) (val:=x.2.1) (born:=x.2.2) (yv:=(.nil,[])) (hk (x.1,x.2.1) (Zh.2 ⟨x,hx,rfl⟩)) rfl
 refine⟨_,⟨_,clock,hE.block,⟨?_,⟨?_,?_,?_⟩,?_⟩,?_,rfl⟩,?_⟩
 . rw[hEl] at hl;simp only[Zbf,Zf];unfold maxLen;omega
 . intro x hx;simp only[Zh] at hx;obtain⟨y,hy,rfl⟩:=hx;exact hE.below y hy
 . simp only[Zy];rw[Zae,Z7];exact hE.rising.imp fun h=>by simp only[mkE,Function.comp];omega
 . simp only[Zy];rw[Zae,Z7];exact hE.keys.imp fun h e=>h (hinj _ _ e)
 . intro x hx;simp only[Zh] at hx;obtain⟨y,hy,rfl⟩:=hx;exact⟨_,hrd y hy⟩
 . rw[hEl];simp
 . refine(sorted_perm _).trans ?_;have:(E.map (mkE enc)).toArray.toList.map (rg (H:=Unit) P k (fun _=>some (.nil,[])))=(strip E).map fun x=>(lit x.1,.nil):=(by simp only[strip,Zy];exact Za7 fun x hx=>rg_of (hrd x hx))
   rw[this]
theorem Qcq {α:Type} {enc:α->List Value} {sz:Nat} {te:TypeId} {base:Nat} {w:World} {v:Value} {l:List α} {n:Nat} {xs:List Value} (h:w.ownsRow base te sz v n xs) (hn:n=l.length) (hx:xs=l.flatMap enc) :
 ∃ A c,v = .slice A l.length c/\Own enc sz te base w A c l:=by
 subst hn hx;unfold Own;rcases h with⟨h1,⟨h2,h3⟩ | ⟨g,cap,cur,h2,h3⟩⟩
 . refine⟨none,0,by rw[h2,h3],h1,.inl ⟨by rw[h3],h3⟩⟩
 . exact⟨_,cap,h2,h1,.inr ⟨g,cap,cur,rfl,h3⟩⟩
theorem Qg5 {α:Type} {enc:α->List Value} {sz:Nat} {te:TypeId} {b1 b2:Nat} {w:World} {A:Option Addr} {c:Nat} {l:List α} (h:Own enc sz te b1 w A c l) (hb:b2<=b1):Own enc sz te b2 w A c l:=by
 unfold Own at *;rcases h with⟨h1,h2 | ⟨g,cap,cur,h2,h3,h4⟩⟩
 . exact⟨h1,.inl h2⟩
 . exact⟨h1,.inr ⟨g,cap,cur,h2,Om,h4⟩⟩
theorem Qe8 {α:Type} (f:α->Value) (l:List α):l.flatMap (fun x => [f x])=l.map f:=by induction l with | nil=>rfl | cons a l ih=>simp[ih]
theorem Qdo {P:Program} {ρ6:Ren} (S:SlLaysZ.n6 P ρ6) (hsort:∀ m,AnyZ.SortsIn P ρ6 Fence.wide m) (e9:∀ args w,(callFunc (ρ6.f 9) args).run P w = .ok (.enter (ρ6.f 9) args) w) {g:Nat} {lb:Array Value} (eg:∀ args w,(callFunc g args).run P w = .ok (.enter g args) w)
 (hok:Qtv P (ρ6.f 6)) {w:World} {l:List Bj} {N:Nat} {Q:List (List UInt8)->Prop} (hQ:∀ ss,Q ss->ss.Perm (l.map fun x=>x.data.toList)) (hN:N<=1000000000) (hseq:SeqGives Fence.wide 2 P g lb encStr Q N w) :
 Cal P (ρ6.f 6) [.func (.func g) #[] lb] w fun r w'=>∃ A c,r = .slice A (Xi l).length c/\Own Qab 1 (ρ6.t 26) w.heap.size w' A c (Xi l)/\Ext w w':=by
 have hS:=AnyZ.sorted_in S Fence.wide 5 trivial trivial trivial trivial rfl Om (hsort _) e9 g lb trivial eg _ N (by unfold maxLen;omega) Om w hseq;refine⟨hok,(callsIn_wide.1 hS).mono ?_⟩;rintro e w' ⟨v,ss,rfl,hp,hrow,_,hb⟩;have hkeys:=hQ ss hp
 have hz:(ss.mergeSort fun x y=>decide (x<=y)).map (fun x=>(⟨x.toArray⟩:Bj))=Xi l:=by
  apply Qct
  . have h1:=(Zbs ss fun x y=>decide (x<=y)).trans hkeys;have h2:=h1.map (fun x=>(⟨x.toArray⟩:Bj));simpa [Zy,Function.comp_def] using h2
  . unfold Srt;rw[Z7];have:=Za8 (le:=fun x y:List UInt8=>decide (x<=y)) (fun a b c h1 h2=>by simp only[decide_eq_true_eq] at *;exact List.le_trans h1 h2) (fun a b=>by simp only[Zbi,decide_eq_true_eq];exact List.le_total a b) ss;refine this.imp fun {a b} h => ?_
    simp only[decide_eq_true_eq] at h;unfold bLt;rw[ByteArray.toList_eq,ByteArray.toList_eq,bytesLess_eq];simpa using h
 obtain⟨A,c,hv,ho⟩:=Qcq (enc:=Qab) (l:=Xi l) hrow (by rw[<- hz];simp) (by
  rw[<- hz,show Qab=fun x => [Value.string x] from rfl,Qe8,Zy];rfl)
 exact⟨v,rfl,A,c,hv,ho,hb⟩
theorem Ql0 {P:Program} {ρ6:Ren} (S:SlLaysZI.n6 P ρ6) (hsort:∀ m,AnyZI.SortsIn P ρ6 Fence.wide m) (e9:∀ args w,(callFunc (ρ6.f 9) args).run P w = .ok (.enter (ρ6.f 9) args) w) {g:Nat} {lb:Array Value} (eg:∀ args w,(callFunc g args).run P w = .ok (.enter g args) w)
 (hok:Qtv P (ρ6.f 6)) {w:World} {l:List Int} {N:Nat} {Q:List Int->Prop} (hQ:∀ ss,Q ss->ss.Perm l) (hN:N<=1000000000) (hseq:SeqGives Fence.wide 2 P g lb (Value.int .i64) Q N w) :
 Cal P (ρ6.f 6) [.func (.func g) #[] lb] w fun r w'=>∃ A c,r = .slice A (Qew l).length c/\Own Qfu 1 (ρ6.t 26) w.heap.size w' A c (Qew l)/\Ext w w':=by
 have hS:=AnyZI.sorted_in S Fence.wide 5 trivial trivial trivial trivial rfl Om (hsort _) e9 g lb trivial eg _ N (by unfold maxLen;omega) Om w hseq;refine⟨hok,(callsIn_wide.1 hS).mono ?_⟩;rintro e w' ⟨v,ss,rfl,hp,hrow,_,hb⟩;have hz:(ss.mergeSort fun x y=>decide (x<=y))=Qew l:=Qwf ((Qd9 ss).trans (hQ ss hp)) (Qo3 ss)
 obtain⟨A,c,hv,ho⟩:=Qcq (enc:=Qfu) (l:=Qew l) hrow (by rw[<- hz];simp) (by
  rw[<- hz,show Qfu=fun x => [Vj x] from rfl,Qe8])
 exact⟨v,rfl,A,c,hv,ho,hb⟩
theorem Qg8 {P:Program} {ρ7:Ren} (K:SlLaysZ.n10 P ρ7) {w:World} {Bm b:Nat} {L:List (Bj×Value)} (hc:w.cell? ⟨Bm,0,none⟩=some (.map (some b))) (hm:MapAt w b Value.string L) (hk:∀ x∈L,x.1.size<=1000000) (hl:L.length<=1000000000) :
 ∃ N Q,N<=1000000000/\(∀ ss:List (List UInt8),Q ss->ss.Perm ((L.map (·.1)).map fun x=>x.data.toList))/\SeqGives Fence.wide 2 P (ρ7.f 10) #[Pj Bm] encStr Q N w:=by
 obtain⟨es,hown,hes⟩:=Qsd (P:=P) (k:=ρ7.t 26) hm (fun a b e=>Su e) (fun x => .string x.data.toList) (fun x hx=>keyOf_string_mk K.t26 (by have:=hk x hx;unfold maxLen;omega)) hl;have hsz:Maps.size (.map es)=L.length:=(by have:=hes.length_eq;simp at this;simpa [Maps.size] using this);refine⟨_,_,?_,fun ss hp => ?_,AnyZ.keys_gives K Fence.wide 2 trivial rfl Om Bm b _ _ w (cell_lt hc) hc hown⟩
 . rw[hsz];exact hl
 . refine hp.trans ?_;simp only[strKeys];refine(hes.map _).trans ?_;rw[Zy,Zy];exact Za1 _
theorem Q70 {P:Program} {ρ7:Ren} (K:SlLaysZI.n10 P ρ7) {w:World} {Bm b:Nat} {L:List (Int×Value)} (hc:w.cell? ⟨Bm,0,none⟩=some (.map (some b))) (hm:MapAt w b vi L) (hk:∀ x∈L,0<=x.1/\x.1<=4611686018427387904) (hl:L.length<=1000000000) :
 ∃ N Q,N<=1000000000/\(∀ ss:List Int,Q ss->ss.Perm (L.map (·.1)))/\SeqGives Fence.wide 2 P (ρ7.f 10) #[Pj Bm] (Value.int .i64) Q N w:=by
 obtain⟨es,hown,hes⟩:=Qsd (P:=P) (k:=ρ7.t 26) hm (fun a b e=>by simpa [vi] using e) (fun x => .int .i64 x) (fun x hx=>keyOf_int_mk K.t26 (by
  have:=hk x hx;simp only[Lit.wf,Zl,decide_eq_true_eq,show IntKind.i64.min = -9223372036854775808 from by decide,show IntKind.i64.max=9223372036854775807 from by decide];omega)) hl
 have hsz:Maps.size (.map es)=L.length:=(by have:=hes.length_eq;simp at this;simpa [Maps.size] using this);refine⟨_,_,?_,fun ss hp => ?_,AnyZI.keys_gives K Fence.wide 2 trivial rfl Om Bm b _ _ w (cell_lt hc) hc hown⟩
 . rw[hsz];exact hl
 . refine hp.trans ?_;simp only[intKeys];refine(hes.map _).trans ?_;rw[Zy];exact Za1 _
theorem Qsq (w:World) (v:Value) (t:TypeId):(w.alloc (.cells #[v] t)).cell? ⟨w.heap.size,0,none⟩=some v:=by
 exact cell_one_new w v t 0 v rfl
theorem Qfw {P:Program} {ρ7:Ren} (K:SlLaysZ.n7 P ρ7) (hok:Qtv P (ρ7.f 7)) (mb:Option Nat) (w:World) :
 Cal P (ρ7.f 7) [.map mb] w fun r w'=>r = .func (.func (ρ7.f 10)) #[] #[Pj w.heap.size]/\w'.cell? ⟨w.heap.size,0,none⟩=some (.map mb)/\Ext w w':=by
 refine⟨hok,(callsIn_wide.1 (AnyZ.keys_in K Fence.wide 5 trivial rfl mb w)).mono ?_⟩;rintro e w' ⟨rfl,rfl⟩;exact⟨_,rfl,rfl,Qsq _ _ _,(Below.refl _ _).alloc (Zg _) _⟩
theorem Q7z {P:Program} {ρ7:Ren} (K:SlLaysZI.n7 P ρ7) (hok:Qtv P (ρ7.f 7)) (mb:Option Nat) (w:World) :
 Cal P (ρ7.f 7) [.map mb] w fun r w'=>r = .func (.func (ρ7.f 10)) #[] #[Pj w.heap.size]/\w'.cell? ⟨w.heap.size,0,none⟩=some (.map mb)/\Ext w w':=by
 refine⟨hok,(callsIn_wide.1 (AnyZI.keys_in K Fence.wide 5 trivial rfl mb w)).mono ?_⟩;rintro e w' ⟨rfl,rfl⟩;exact⟨_,rfl,rfl,Qsq _ _ _,(Below.refl _ _).alloc (Zg _) _⟩
end
end Go.Proofs.YtpdonaienhociaaGreatDoor
namespace Go.Proofs.YtpdonaienhociaaGreatDoor
open Go.Se Go.RowKit
open Go.Maps Go.Sort Go.Shelf
theorem Qf5:Xi [] = []:=by simp[Xi]
theorem Qo2:Qew [] = []:=by simp[Qew]
theorem Qwl (m:Nat):AnyZ.SortsIn Tryz.prog Tryz.sorted38_ren Fence.wide m :=
 ⟨fun blk off cap ss W h1 h2 h3=>callsIn_wide.2 (AnyM.slices_Sort_string Tryz.sort94 blk off cap ss W h1 h2 h3),fun p cap W=>callsIn_wide.2 (AnyM.slices_Sort_string_none Tryz.sort94 p cap W)⟩
theorem Xes (m:Nat):AnyZI.SortsIn Tryz.prog Tryz.sorted371_ren Fence.wide m :=
 ⟨fun blk off cap ss W h1 h2 h3=>callsIn_wide.2 (AnyM.slices_Sort_int Tryz.sort405 blk off cap ss W h1 h2 h3),fun p cap W=>callsIn_wide.2 (AnyM.slices_Sort_int_none Tryz.sort405 p cap W)⟩
theorem Qks (mb:Option Nat) (w:World):Cal Tryz.prog 169 [.map mb] w fun r w'=>r = .func (.func 243) #[] #[Pj w.heap.size]/\w'.cell? ⟨w.heap.size,0,none⟩=some (.map mb)/\Ext w w' :=
 Qfw Tryz.keys169 ⟨_,Tryz.func169,rfl,rfl⟩ mb w
theorem Qhm {w:World} {Bm b:Nat} {L:List (Bj×Value)} (hc:w.cell? ⟨Bm,0,none⟩=some (.map (some b))) (hm:MapAt w b Value.string L) (hk:∀ x∈L,x.1.size<=1000000) (hl:L.length<=1000000000) :
 Cal Tryz.prog 38 [.func (.func 243) #[] #[Pj Bm]] w fun r w'=>∃ A c,r = .slice A (Xi (L.map (·.1))).length c/\Own Qab 1 9 w.heap.size w' A c (Xi (L.map (·.1)))/\Ext w w':=by
 obtain⟨N,Q,h1,h2,h3⟩:=Qg8 { Tryz.keys169 with } hc hm hk hl;exact Qdo Tryz.sorted38 Qwl (enters_of Tryz.func94 Kr rfl) (enters_of Tryz.func243 Kr rfl) ⟨_,Tryz.func38,rfl,rfl⟩ h2 h1 h3
theorem Q3l (mb:Option Nat) (w:World):Cal Tryz.prog 281 [.map mb] w fun r w'=>r = .func (.func 336) #[] #[Pj w.heap.size]/\w'.cell? ⟨w.heap.size,0,none⟩=some (.map mb)/\Ext w w' :=
 Qfw Tryz.keys281 ⟨_,Tryz.func281,rfl,rfl⟩ mb w
theorem Qwj {w:World} {Bm b:Nat} {L:List (Bj×Value)} (hc:w.cell? ⟨Bm,0,none⟩=some (.map (some b))) (hm:MapAt w b Value.string L) (hk:∀ x∈L,x.1.size<=1000000) (hl:L.length<=1000000000) :
 Cal Tryz.prog 38 [.func (.func 336) #[] #[Pj Bm]] w fun r w'=>∃ A c,r = .slice A (Xi (L.map (·.1))).length c/\Own Qab 1 9 w.heap.size w' A c (Xi (L.map (·.1)))/\Ext w w':=by
 obtain⟨N,Q,h1,h2,h3⟩:=Qg8 { Tryz.keys281 with } hc hm hk hl;exact Qdo Tryz.sorted38 Qwl (enters_of Tryz.func94 Kr rfl) (enters_of Tryz.func336 Kr rfl) ⟨_,Tryz.func38,rfl,rfl⟩ h2 h1 h3
theorem Qql (mb:Option Nat) (w:World):Cal Tryz.prog 372 [.map mb] w fun r w'=>r = .func (.func 406) #[] #[Pj w.heap.size]/\w'.cell? ⟨w.heap.size,0,none⟩=some (.map mb)/\Ext w w' :=
 Q7z Tryz.keys372 ⟨_,Tryz.func372,rfl,rfl⟩ mb w
theorem Qwh {w:World} {Bm b:Nat} {L:List (Int×Value)} (hc:w.cell? ⟨Bm,0,none⟩=some (.map (some b))) (hm:MapAt w b vi L) (hk:∀ x∈L,0<=x.1/\x.1<=4611686018427387904) (hl:L.length<=1000000000) :
 Cal Tryz.prog 371 [.func (.func 406) #[] #[Pj Bm]] w fun r w'=>∃ A c,r = .slice A (Qew (L.map (·.1))).length c/\Own Qfu 1 3 w.heap.size w' A c (Qew (L.map (·.1)))/\Ext w w':=by
 obtain⟨N,Q,h1,h2,h3⟩:=Q70 { Tryz.keys372 with } hc hm hk hl;exact Ql0 Tryz.sorted371 Xes (enters_of Tryz.func405 Kr rfl) (enters_of Tryz.func406 Kr rfl) ⟨_,Tryz.func371,rfl,rfl⟩ h2 h1 h3
theorem Qzd {w:World} {Bm:Nat} (hc:w.cell? ⟨Bm,0,none⟩=some (.map none)) :
 Cal Tryz.prog 371 [.func (.func 406) #[] #[Pj Bm]] w fun r w'=>∃ A c,r = .slice A 0 c/\Own Qfu 1 3 w.heap.size w' A c []/\Ext w w':=by
 have:=Ql0 Tryz.sorted371 Xes (enters_of Tryz.func405 Kr rfl) (enters_of Tryz.func406 Kr rfl) ⟨_,Tryz.func371,rfl,rfl⟩ (l := []) (fun ss (h:ss = [])=>by rw[h]) (Zu _) (AnyZI.keys_gives_nil { Tryz.keys372 with } Fence.wide 2 trivial rfl Bm w (cell_lt hc) hc);simp only[Qf5,Qo2,Zam] at this;exact this
end Go.Proofs.YtpdonaienhociaaGreatDoor
namespace Go.Proofs.YtpdonaienhociaaGreatDoor
open Go.Se Go.RowKit
def Q5u:List Bj->List Bj
 | [] => []
 | a :: l=>if a∈l then Q5u l else a :: Q5u l
theorem Qhr {x:Bj}:∀ {l:List Bj},x∈Q5u l↔x∈l
 | []=>Iff.rfl
 | a :: l=>by
   have ih:=Qhr (x:=x) (l:=l);unfold Q5u;split
   . next h =>
     rw[ih,Zr];constructor
     . exact .inr
     . rintro (rfl | h1)
       . exact h
       . exact h1
   . rw[Zr,Zr,ih]
theorem Qfo:∀ l:List Bj,(Q5u l).Nodup
 | []=>List.nodup_nil
 | a :: l=>by
   have ih:=Qfo l;unfold Q5u;split
   . exact ih
   . next h=>exact Zbc.2 ⟨fun h1=>h (Qhr.1 h1),ih⟩
def Qcc (l:List Bj):List Bj:=Xi (Q5u l)
theorem X5 {l:List Bj} {x:Bj}:x∈Qcc l↔x∈l:=by unfold Qcc;rw[Qf4,Qhr]
theorem Qcs (l:List Bj):(Qcc l).Nodup:=(Qbl _).nodup_iff.2 (Qfo l)
theorem Qiz {K l:List Bj} (hn:K.Nodup) (hm:∀ x,x∈K↔x∈l):Xi K=Qcc l:=by
 have hp:K.Perm (Q5u l):=Qhd hn (Qfo l) (fun x hx=>Qhr.2 ((hm x).1 hx)) (fun x hx=>(hm x).2 (Qhr.1 hx));exact Qct ((Qbl K).trans hp) (Qf6 K)
theorem Qq7 {k l:List Bj} (hm:∀ x,x∈k↔x∈l):Qcc k=Qcc l:=Qiz (Qfo k) fun x=>Qhr.trans (hm x)
theorem Qmu (l:List Bj):(Qcc l).length<=l.length:=by
 unfold Qcc;rw[Qcf]
 induction l with
 | nil=>simp[Q5u]
 | cons a l ih=>unfold Q5u;split <;> simp <;> omega
theorem Qam {β:Type} {L:List (Bj×β)} (h:L.Pairwise (fun x y=>x.1≠y.1)):(L.map (·.1)).Nodup:=by
 rw[Zae,Z7];exact h
theorem Qmr {β:Type} {L:List (Bj×β)} {k:Bj}:k∈L.map (·.1)↔(Qe L k).isSome=true:=by
 cases h:Qe L k with
 | none =>
   have:=Qd6.1 h;simp only[Zh,Option.isSome_none,Zag,iff_false];rintro ⟨x,hx,rfl⟩;exact this x hx rfl
 | some v =>
   have:=Qbi h;simp only[Option.isSome_some,iff_true,Zh];exact⟨_,this,rfl⟩
abbrev Grp:=Int×Int×List Bj
def Qc8 (gap:Int) (acc:List Grp) (t:Int) (its:List Bj):List Grp :=
 match acc.getLast? with
 | some g=>if gap<t-g.2.1 then acc ++ [(t,t,its)] else acc.dropLast ++ [(g.1,t,g.2.2++its)]
 | none => [(t,t,its)]
abbrev Qer:=List (Int×List (Bj×Bool))
def Xt (k:Qer) (t:Int):List Bj:=((Qe k t).getD []).map (·.1)
def Qgv (gap:Int) (k:Qer) (ts:List Int):List Grp:=ts.foldl (fun acc t=>Qc8 gap acc t (Xt k t)) []
def Xhs (gap:Int) (k:Qer):List Grp:=Qgv gap k (Qew (k.map (·.1)))
theorem Qhu (gap:Int) (k:Qer) (ts:List Int) (t:Int):Qgv gap k (ts ++ [t])=Qc8 gap (Qgv gap k ts) t (Xt k t):=by unfold Qgv;rw[Zt];rfl
structure Sn where
 person:Bj
 from_:Int
 to_:Int
 items:List Bj
deriving DecidableEq,Inhabited
def Xbm (person:Bj) (g:Grp):Sn:=⟨person,g.1,g.2.1,Qcc g.2.2⟩
def Qf2 (gap:Int) (ss:Ses) (person:Bj):List Sn:=(Xhs gap ((Qe ss person).getD [])).map (Xbm person)
def Qj6 (gap:Int) (ss:Ses):List Sn:=(Xi (ss.map (·.1))).flatMap (Qf2 gap ss)
theorem Xfv (gap:Int) (acc:List Grp) (t:Int) (its:List Bj):(Qc8 gap acc t its).length<=acc.length+1:=by
 unfold Qc8;split
 . next g h =>
   split
   . simp
   . simp
 . simp
theorem Q7i (gap:Int) (k:Qer):∀ ts:List Int,(Qgv gap k ts).length<=ts.length:=by
 refine Qv (by simp[Qgv]) fun l t ih => ?_
 rw[Qhu];have:=Xfv gap (Qgv gap k l) t (Xt k t);simp;omega
theorem Xce (gap:Int) (k:Qer):(Xhs gap k).length<=k.length:=by
 have:=Q7i gap k (Qew (k.map (·.1)));rw[Qwd,Zf] at this;exact this
def hasB (a:Bj) (s:Sn):Bool:=decide (a∈s.items)
def Qa0 (S:List Sn) (a:Bj):Nat:=(S.filter (hasB a)).length
def Qdt (S:List Sn) (a b:Bj):Nat:=(S.filter fun s=>hasB a s&&hasB b s).length
theorem Qhk (S:List Sn) (a:Bj):Qa0 S a<=S.length:=Zc _ _
theorem Qys (S:List Sn) (a b:Bj):Qdt S a b<=S.length:=Zc _ _
def Qgw (S:List Sn) (a b:Bj):Int×Int :=
 if Qa0 S a=0\/Qa0 S b=0 then(0,1) else if a=b then(1,1) else((Qdt S a b:Int)*Qdt S a b,(Qa0 S a:Int)*Qa0 S b)
def Qv2 (a b:Int×Int):Bool:=decide (a.1*b.2<b.1*a.2)
def Qez (S:List Sn) (item:Bj) (b:Int×Int) (e:Ev):Int×Int :=
 if Qy e<=0\/e.item=item then b else if Qv2 b (Qgw S item e.item)=true then Qgw S item e.item else b
def Qmb (S:List Sn) (item:Bj) (h:List Ev):Int×Int:=h.foldl (Qez S item) (0,1)
theorem Qp7 (S:List Sn) (item:Bj) (h:List Ev) (e:Ev):Qmb S item (h ++ [e])=Qez S item (Qmb S item h) e:=by unfold Qmb;rw[Zt];rfl
def Qki (N:Int) (r:Int×Int):Prop:=0<=r.1/\r.1<=N/\1<=r.2/\r.2<=N
theorem Qyh {S:List Sn} {N:Int} (hN:(S.length:Int)*S.length<=N) (h1:1<=N) (a b:Bj):Qki N (Qgw S a b):=by
 unfold Qgw;have ha:=Qhk S a;have hb:=Qhk S b;have hp:=Qys S a b;split
 . exact⟨by simp,by simp;omega,by simp,by simp;omega⟩
 split
 . exact⟨by simp,Su h1,by simp,Su h1⟩
 . next h0 _ =>
   have h2:(1:Int)<=Qa0 S a:=Om;have h3:(1:Int)<=Qa0 S b:=Om;have e1:((Qdt S a b:Int)*Qdt S a b)<=(S.length:Int)*S.length:=Zbw Om Om Om Om;have e2:((Qa0 S a:Int)*Qa0 S b)<=(S.length:Int)*S.length:=Zbw Om Om Om Om;have e3:(1:Int)*1<=(Qa0 S a:Int)*Qa0 S b:=Zbw h2 h3 Om Om;exact⟨Zcv Om Om,Sj,Sj,Sj⟩
theorem Xe7 {S:List Sn} {N:Int} (hN:(S.length:Int)*S.length<=N) (h1:1<=N) (item:Bj):∀ h:List Ev,Qki N (Qmb S item h):=by
 refine Qv ⟨by simp[Qmb],by simp[Qmb];omega,by simp[Qmb],by simp[Qmb];omega⟩ fun l e ih => ?_
 rw[Qp7];unfold Qez;split
 . exact ih
 split
 . exact Qyh hN h1 _ _
 . exact ih
def flB (person maker:Bj) (e:Ev):Bool:=decide (e.person=person)&&(decide (e.text=maker)&&(decide (e.kind=7)||decide (e.kind=8)))
def Q0t (z:List Ev) (person maker:Bj):Bool:=match (z.filter (flB person maker)).getLast? with
 | some e=>decide (e.kind=7)
 | none=>false
theorem Qu5 (person maker:Bj):∀ rs:List Row,(Qe (Xk rs).follows (person,maker))=((evs rs).filter (flB person maker)).getLast?.map fun e=>decide (e.kind=7):=by
 refine Qv (by simp[Xk,evs,Cw0,Qe]) fun rs r ih => ?_
 rw[Qhb,Qr3,Zq];have hB:(Qd1 (Xk rs) r.1).follows=(Qdl (Xk rs) r.1).follows:=(by unfold Qd1 Qsu;split <;> rfl);rw[hB];unfold Qdl
 cases hf:flB person maker r.1 with
 | true =>
   simp only[flB,Zl,Zbi,decide_eq_true_eq] at hf;obtain⟨h1,h2,h3⟩:=hf;rw[if_neg Om,if_neg Om,if_neg Om,if_pos h3];have hf2:flB person maker r.1=true:=by simp[flB,h1,h2,h3]
   simp only[Zar,hf2,if_true,Zc0,Zcw,List.getLast?_singleton,Option.some_or,Zch];rw[show ((person,maker):LK)=mkr r.1 by unfold mkr;rw[h1,h2],Q9]
 | false =>
   simp only[Zar,hf,Zag,if_false,Zc0,Zw];rw[<- ih];split
   . rfl
   split
   . rfl
   split
   . rfl
   split
   . next h3 =>
     show Qe (Xc _ _ _) _=_
     rw[Xn,if_neg];intro he;unfold mkr at he;injection he with h1 h2;simp[flB,<- h1,<- h2] at hf;omega
   split
   . rfl
   . rfl
theorem Qqh (z:List Ev) (person maker:Bj):Q0t (Qao z) person maker=Q0t z person maker:=by
 unfold Q0t Qao;rw[List.filter_filter]
 have:(fun a=>flB person maker a&&peB a)=flB person maker:=by
  funext a
  cases h:flB person maker a with
  | false=>rfl
  | true =>
    simp only[flB,Zl,Zbi,decide_eq_true_eq] at h;have:peB a=true:=by simp[peB,thB];omega
    rw[this];rfl
 rw[this]
def Qav (fl:List (LK×Bool)) (person:Bj) (h:List Ev):List (Bj×Bool) :=
 h.foldl (fun m e=>if e.kind=7/\(Qe fl (person,e.text)).getD false=true then Xc m e.text true else m) []
theorem Qeh (fl:List (LK×Bool)) (person:Bj) (h:List Ev) (e:Ev):Qav fl person (h ++ [e])=if e.kind=7/\(Qe fl (person,e.text)).getD false=true then Xc (Qav fl person h) e.text true else Qav fl person h:=by unfold Qav;rw[Zt];rfl
theorem Qqg (fl:List (LK×Bool)) (person:Bj) (x:Bj):∀ h:List Ev,x∈(Qav fl person h).map (·.1)↔∃ e∈h,e.kind=7/\e.text=x/\(Qe fl (person,x)).getD false=true:=by
 refine Qv (by simp[Qav]) fun h e ih => ?_
 rw[Qeh];split
 . next hc =>
   rw[Qed];constructor
   . intro hx
     have:x=e.text\/x∈(Qav fl person h).map (·.1):=by
      split at hx
      . exact .inr hx
      . rcases Zj.1 hx with hx | hx
        . exact .inr hx
        . exact .inl (Su hx)
     rcases this with rfl | hx
     . exact⟨e,by simp,hc.1,rfl,hc.2⟩
     . obtain⟨y,hy,h1⟩:=ih.1 hx;exact⟨y,by simp[hy],h1⟩
   . rintro ⟨y,hy,h1,rfl,h2⟩;rcases Zj.1 hy with hy | hy
     . have:=ih.2 ⟨y,hy,h1,rfl,h2⟩;split
       . exact this
       . exact Zj.2 (.inl this)
     . have hy:y=e:=Su hy;subst hy;split
       . assumption
       . simp
 . next hc =>
   rw[ih];constructor
   . rintro ⟨y,hy,h1⟩;exact⟨y,by simp[hy],h1⟩
   . rintro ⟨y,hy,h1,rfl,h2⟩;rcases Zj.1 hy with hy | hy
     . exact⟨y,hy,h1,rfl,h2⟩
     . have hy:y=e:=Su hy;subst hy;exact absurd ⟨h1,h2⟩ hc
theorem Q68 {rs:List Row} (person maker:Bj):maker∈(Qav (Xk rs).follows person (hist (evs rs) person)).map (·.1)↔Q0t (evs rs) person maker=true:=by
 rw[Qqg,Qu5];unfold Q0t
 cases hl:((evs rs).filter (flB person maker)).getLast? with
 | none=>simp
 | some e =>
   have he:=Zbn hl;have hm:=Ze.1 he;have hb:=hm.2;simp only[flB,Zl,Zbi,decide_eq_true_eq] at hb;simp only[Zch,Zaj,decide_eq_true_eq];constructor
   . rintro ⟨_,_,_,_,h⟩;exact h
   . intro h;exact⟨e,Ze.2 ⟨hm.1,Su hb.1⟩,h,hb.2.1,h⟩
def Qp1 (half now:Int) (e:Ev):Int:=Qy e*Qas (now-e.at_) half
def Qc6 (n:Int) (m:List (Bj×Int)) (t:Bj):List (Bj×Int):=Xc m t (IntKind.i64.wrap ((Qe m t).getD 0+n))
def Qfl (half now:Int) (m:List (Bj×Int)) (r:Row):List (Bj×Int):=if now<r.1.at_ then m else r.2.foldl (Qc6 (Qp1 half now r.1)) m
def Qzz (half now:Int) (rows:List Row):List (Bj×Int):=rows.foldl (Qfl half now) []
theorem Qke (half now:Int) (l:List Row) (r:Row):Qzz half now (l ++ [r])=Qfl half now (Qzz half now l) r:=by unfold Qzz;rw[Zt];rfl
theorem Qz1 (n:Int) (m:List (Bj×Int)) (l:List Bj) (t:Bj):(l ++ [t]).foldl (Qc6 n) m=Qc6 n (l.foldl (Qc6 n) m) t:=by rw[Zt];rfl
def Xgr (half now:Int) (rows:List Row):List (Bj×Int):=(Qzz half now rows).filter fun x=>decide (0<x.2)
def rowsOf (rs:List Row) (person:Bj):List Row:=rs.filter fun r=>decide (r.1.person=person)
theorem Qh4 {half now:Int} {e:Ev} (hm:X0 e=true):0<=Qp1 half now e/\Qp1 half now e<=5242880:=by
 have h1:=Qkg hm;have h2:=Ql6 (now-e.at_) half;unfold Qp1;refine⟨Zcv h1.1 h2.1,?_⟩;have:Qy e*Qas (now-e.at_) half<=5*1048576:=Zbw h1.2 h2.2 h2.1 Om;omega
theorem Q5j (tg:List Bj) (n:Int) (l:List (Bj×Int)):((tg.foldl (Qc6 n) l).length)<=l.length+tg.length:=by
 induction tg generalizing l with
 | nil=>simp
 | cons t tg ih =>
   have:=ih (Qc6 n l t);have h2:=Qb3 t (IntKind.i64.wrap ((Qe l t).getD 0+n)) l;simp only[Zap,Z8];unfold Qc6 at *;omega
theorem Q11 (half now:Int):∀ rows:List Row,(Qzz half now rows).length<=(rows.map fun r=>r.2.length).sum:=by
 refine Qv (by simp[Qzz]) fun l r ih => ?_
 rw[Qke,Zp,Zbd];unfold Qfl;split
 . simp;omega
 . have:=Q5j r.2 (Qp1 half now r.1) (Qzz half now l);simp;omega
theorem Qz0 (n:Int) (tg:List Bj):∀ l:List (Bj×Int),l.Pairwise (fun x y=>x.1≠y.1)->(tg.foldl (Qc6 n) l).Pairwise (fun x y=>x.1≠y.1):=by
 induction tg with
 | nil=>intro l h;exact h
 | cons t tg ih=>intro l h;exact ih _ (Qaf h)
theorem Xa7 (half now:Int):∀ rows:List Row,(Qzz half now rows).Pairwise (fun x y=>x.1≠y.1):=by
 refine Qv (by simp[Qzz]) fun l r ih => ?_
 rw[Qke];unfold Qfl;split
 . exact ih
 . exact Qz0 _ _ _ ih
def Q12 (half now:Int) (rows:List Row) (t:Bj):Int:=((rows.filter fun r=>decide (r.1.at_<=now)&&decide (t∈r.2)).map fun r=>Qp1 half now r.1).sum
theorem Xgn (n:Int) (t:Bj):∀ (tg:List Bj),tg.Nodup->∀ m:List (Bj×Int),(Qe (tg.foldl (Qc6 n) m) t)=if t∈tg then some (IntKind.i64.wrap ((Qe m t).getD 0+n)) else Qe m t:=by
 intro tg
 induction tg with
 | nil=>intro _ m;simp
 | cons a tg ih =>
   intro hn m;rw[Zbc] at hn;rw[Zap,ih hn.2];unfold Qc6
   by_cases h1:t=a
   . subst h1;rw[if_neg hn.1,Xn,if_pos rfl,if_pos (by simp)]
   . rw[Xn,if_neg h1]
     by_cases h2:t∈tg
     . rw[if_pos h2,if_pos (by simp[h2])]
     . rw[if_neg h2,if_neg (by simp[h1,h2])]
theorem Xa8 (half now:Int) (t:Bj):∀ rows:List Row,(∀ r∈rows,X0 r.1=true/\r.2.Nodup)->rows.length<1000000->((Qe (Qzz half now rows) t).getD 0=Q12 half now rows t)/\0<=Q12 half now rows t/\Q12 half now rows t<=rows.length*5242880/\((Qe (Qzz half now rows) t).isSome=true↔∃ r∈rows,r.1.at_<=now/\t∈r.2):=by
 refine Qv (fun _ _=>by simp[Qzz,Q12,Qe]) fun l r ih h hl => ?_
 have hl':l.length<1000000:=by simp at hl;omega
 obtain⟨i1,i2,i3,i4⟩:=ih (fun x hx=>h x (by simp[hx])) hl';have hr:=h r (by simp);have hb:=Qh4 (half:=half) (now:=now) hr.1;have hlen:(((l ++ [r]).length:Nat):Int)=l.length+1:=by simp
 rw[Qke];unfold Qfl
 have hS:Q12 half now (l ++ [r]) t=Q12 half now l t+if r.1.at_<=now/\t∈r.2 then Qp1 half now r.1 else 0:=by
  unfold Q12;rw[Zq,Zp,Zbd]
  by_cases hc:r.1.at_<=now/\t∈r.2
  . simp[hc.1,hc.2]
  . have:(decide (r.1.at_<=now)&&decide (t∈r.2))=false:=by
     rw[Zb9]
     by_cases h1:r.1.at_<=now
     . exact .inr (by simpa using fun h2=>hc ⟨h1,h2⟩)
     . exact .inl (Su h1)
    rw[if_neg hc];simp[this]
 rw[hS]
 by_cases hnow:now<r.1.at_
 . rw[if_pos hnow,if_neg Om];refine⟨by rw[i1];omega,Om,by rw[hlen,Int.add_mul];omega,i4.trans ⟨?_,?_⟩⟩
   . rintro ⟨x,hx,h1⟩;exact⟨x,by simp[hx],h1⟩
   . rintro ⟨x,hx,h1,h2⟩;rcases Zj.1 hx with hx | hx
     . exact⟨x,hx,h1,h2⟩
     . have:x=r:=Su hx;subst this;omega
 . rw[if_neg hnow,Xgn _ _ _ hr.2]
   by_cases ht:t∈r.2
   . rw[if_pos ht,if_pos ⟨Om,ht⟩,i1];refine⟨?_,Om,by rw[hlen,Int.add_mul];omega,by simp only[Option.isSome_some,true_iff];exact⟨r,by simp,Om,ht⟩⟩;simp only[Zaj];exact(wrap_eq rfl ⟨Om,Om⟩).symm
   . rw[if_neg ht,if_neg (fun hc=>ht hc.2)];refine⟨by rw[i1];omega,Om,by rw[hlen,Int.add_mul];omega,i4.trans ⟨?_,?_⟩⟩
     . rintro ⟨x,hx,h1⟩;exact⟨x,by simp[hx],h1⟩
     . rintro ⟨x,hx,h1,h2⟩;rcases Zj.1 hx with hx | hx
       . exact⟨x,hx,h1,h2⟩
       . have:x=r:=Su hx;subst this;exact absurd h2 ht
theorem Xf9 (width:Int):∀ l:List Ev,(Qt1 width l).Pairwise (fun x y=>x.1≠y.1):=by
 refine Qv (by simp[Qt1]) fun l e ih => ?_
 rw[Qs3];unfold Qq1;split
 . exact ih
 . exact Qaf ih
theorem Ql2 {α:Type} (f:α->Int):∀ {l:List α},(∀ x∈l,f x=0)->(l.map f).sum=0
 | [],_=>rfl
 | x :: l,h=>by
   have h1:=h x (by simp);have h2:=Ql2 f (l:=l) fun y hy=>h y (by simp[hy])
   simp[h1,h2]
theorem Qcn {κ β:Type} [DecidableEq κ] (x:κ×β) (l:List (κ×β)) (k:κ):Qe (x :: l) k=if k=x.1 then some x.2 else Qe l k:=rfl
theorem Qoq {s:Qal} {key:Bj} {lo hi:Int} (h:hi<=lo):paS s key lo hi=0:=by
 unfold paS;have:(s.filter fun x=>decide (x.1.1=key)&&(decide (lo<=x.1.2)&&decide (x.1.2<hi))) = []:=(by rw[List.filter_eq_nil_iff];intro x _;simp;omega);rw[this];rfl
theorem Qs1 (x:PK×Int) (s:Qal) (key:Bj) (lo hi:Int):paS (x :: s) key lo hi=(if x.1.1=key/\lo<=x.1.2/\x.1.2<hi then x.2 else 0)+paS s key lo hi:=by
 unfold paS;rw[Zar]
 by_cases h:x.1.1=key/\lo<=x.1.2/\x.1.2<hi
 . rw[if_pos (by simp[h.1,h.2.1,h.2.2]),if_pos h];simp
 . rw[if_neg (Su h),if_neg h];omega
theorem Xcz {s:Qal} (hp:s.Pairwise (fun x y=>x.1≠y.1)) (key:Bj) (lo hi:Int) (h:lo<=hi):paS s key lo (hi+1)=paS s key lo hi+(Qe s (key,hi)).getD 0:=by
 induction s with
 | nil=>simp[paS,Qe]
 | cons x s ih =>
   rw[Z9] at hp;have ih:=ih hp.2;rw[Qs1,Qs1,ih,Qcn]
   by_cases hk:(key,hi)=x.1
   . rw[if_pos hk];have h0:Qe s (key,hi)=none:=Qd6.2 fun y hy=>by rw[hk];exact fun e=>hp.1 y hy e.symm
     rw[h0,if_pos (by rw[<- hk];simp;omega),if_neg (by rw[<- hk];simp)];simp;omega
   . rw[if_neg hk]
     have:(x.1.1=key/\lo<=x.1.2/\x.1.2<hi+1)↔(x.1.1=key/\lo<=x.1.2/\x.1.2<hi):=by
      constructor
      . rintro ⟨h1,h2,h3⟩;refine⟨h1,h2,?_⟩;have:x.1.2≠hi:=fun e=>hk (by rw[<- h1,<- e])
        omega
      . rintro ⟨h1,h2,h3⟩;exact⟨h1,h2,Om⟩
     by_cases hc:x.1.1=key/\lo<=x.1.2/\x.1.2<hi
     . rw[if_pos hc,if_pos (this.2 hc)];omega
     . rw[if_neg hc,if_neg (fun h=>hc (this.1 h))];omega
def Xbl (s:Qal) (key:Bj) (lo hi:Int) (row:List Int):Int:=((row.filter fun n=>decide (lo<=n)&&decide (n<hi)).map fun n=>(Qe s (key,n)).getD 0).sum
theorem Q9q (s:Qal) (key:Bj) (lo hi:Int) (row:List Int) (n:Int):Xbl s key lo hi (row ++ [n])=Xbl s key lo hi row+if lo<=n/\n<hi then(Qe s (key,n)).getD 0 else 0:=by
 unfold Xbl;rw[Zq,Zp,Zbd]
 by_cases h:lo<=n/\n<hi
 . simp[h.1,h.2]
 . rw[if_neg h];have:(decide (lo<=n)&&decide (n<hi))=false:=by simpa using fun h1=>Om
   simp[this]
theorem Xdf {s:Qal} (hp:s.Pairwise (fun x y=>x.1≠y.1)) (key:Bj) (lo hi:Int):Xbl s key lo hi (Qa2 s key)=paS s key lo hi:=by
 unfold Xbl Qa2 paS;rw[List.filter_map,Zy,List.filter_filter];have:(s.filter fun a=>(Function.comp (fun n=>decide (lo<=n)&&decide (n<hi)) fun x:PK×Int=>x.1.2) a&&decide (a.1.1=key))=s.filter fun x=>decide (x.1.1=key)&&(decide (lo<=x.1.2)&&decide (x.1.2<hi)):=(by apply List.filter_congr;intro x _;simp only[Function.comp];rw[Bool.and_comm])
 rw[this];congr 1;apply Za7;intro x hx;have hm:=Ze.1 hx;have hk:x.1.1=key:=by have:=hm.2;simp at this;exact this.1
 simp only[Function.comp];rw[<- hk,Qdk hp (show ((x.1.1,x.1.2),x.2)∈s from hm.1)];rfl
theorem Qop {s:Qal} {N:Int} (h:Qg3 s N) (hN:0<=N) (key:Bj) (lo hi:Int):0<=paS s key lo hi/\paS s key lo hi<=s.length*N:=by
 have hb:=Qep (fun x:PK×Int=>x.2) N (s.filter fun x=>decide (x.1.1=key)&&(decide (lo<=x.1.2)&&decide (x.1.2<hi))) fun x hx=>(by have:=h x (Ze.1 hx).1;exact⟨Om,this.2⟩)
 have hl:=Zc (fun x:PK×Int=>decide (x.1.1=key)&&(decide (lo<=x.1.2)&&decide (x.1.2<hi))) s;unfold paS;refine⟨hb.1,Int.le_trans hb.2 (Zas Om hN)⟩
