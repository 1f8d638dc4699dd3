/- Several texts in one: So1, So2, So3, So4, So5, So6, Ew1, Ew2, Ew3, Txt, Onc, Lst, Wo1, Jo1, Rw. -/
import Derived.Test.YtohkipkjleldpaaGreatDoorGB
import Derived.Test.YtohkipkjleldpaaGreatDoorHShelf
import Derived.Test.YtohkipkjleldpaaGreatDoorGA
import Derived.Laws.Cover3
import Derived.Laws.Pointers
import Derived.Lib.IndexBytes
import Derived.Lib.SplitLaws
import Derived.Lib.CountLaws
set_option linter.unusedVariables false
set_option linter.unusedSimpArgs false
namespace Go.Proofs.YtohkipkjleldpaaGreatDoor
open Go.Se Go.RowKit
theorem Qa3 {P:Program} {f:FuncId} {args:List Value} {w:World} {v:Value} {Q:World→Prop} (ok:Qt2 P f) (h:Calls P f args.toArray w fun e w'=>e = .returned v∧Q w') {R:Value→World→Prop} (hR:∀ w',Q w'→R v w'):Cal P f args w R :=
 ⟨ok,h.mono fun e w' ⟨he,hq⟩=>⟨v,he,hR w' hq⟩⟩
theorem Qp9:Qt2 Tryz.prog 69:=⟨_,Tryz.func69,rfl,rfl⟩
theorem Qmr (a b:ByteArray) (w:World):Cal Tryz.prog 69 [.string a,.string b] w fun r w'=>r = .int .i64 (Qd7 a b)∧w'=w :=
 Qa3 Qp9 (Tryz.strings_Compare a b w) fun w' hw=>⟨by rw[Q99],hw⟩
theorem Qnt (a:Int) (w:World):Cal Tryz.prog 50 [.int .i64 a] w fun r w'=>r = .bool false∧w'=w:=by
 refine Fi Tryz.func50 rfl _ rfl rfl (Hh ?_)
 exact⟨by simp,rfl⟩
theorem Qdr (a b:Int) (w:World):Cal Tryz.prog 20 [.int .i64 a,.int .i64 b] w fun r w'=>r = .int .i64 (Qd0 a b)∧w'=w:=by
 refine Fi Tryz.func20 rfl _ rfl rfl (Hh ?_);refine(Qnt a w).mono ?_;rintro _ _ ⟨rfl,rfl⟩
 conv=>whnf
 refine(Qnt b _).mono ?_;rintro _ _ ⟨rfl,rfl⟩
 conv=>whnf
 constructor
 · intro h;cases h
 intro _
 conv=>whnf
 constructor
 · intro h;cases h
 intro _
 conv=>whnf
 constructor
 · intro h
   have h:a<b:=by simpa using h
   conv=>whnf
   exact⟨by unfold Qd0;rw[if_pos h],rfl⟩
 intro h;have h:¬ a<b:=by simpa using h
 conv=>whnf
 constructor
 · intro k
   have k:b<a:=by simpa using k
   conv=>whnf
   exact⟨by unfold Qd0;rw[if_neg h,if_pos k],rfl⟩
 intro k;have k:¬ b<a:=by simpa using k
 conv=>whnf
 exact⟨by unfold Qd0;rw[if_neg h,if_neg k],rfl⟩
def Qgr (z:Int):List Value := [.int .i64 z]
theorem Qax (z:Int):(Qgr z).length=1:=rfl
theorem Q7s (z:Int):∀ u∈Qgr z,u.oneCell'=true:=by simp[Qgr,Value.oneCell']
abbrev SlI:=Sl Qgr 1
def orL (l:List Int):Int:=(l.find? (fun z=>decide (z≠0))).getD 0
theorem Qf4 (l:List Int) (A:Option Addr) (c:Nat) (w:World) (hs:SlI w A l) (hl:l.length<1000000000000) :
 Cal Tryz.prog 18 [.slice A l.length c] w fun r w'=>r = .int .i64 (orL l)∧w'=w:=by
 refine Fi Tryz.func18 rfl _ rfl rfl (Hh ?_)
 refine Qh Qa (fun(k:Nat) w'=>k≤l.length∧w'=w∧∀ i (hi:i<l.length),i<k→l[i]=0)
  (fun k => [(6,.slice A l.length c),(7,.int .i64 l.length),(8,.int .i64 k),(3,.int .i64 0)]) (fun k=>l.length-k) 0 ⟨by omega,rfl,fun i _ h=>by omega⟩ Rr ?_
 rintro k w1 ⟨hk,rfl,hall⟩
 conv=>whnf
 constructor
 · intro hlt
   have hlt:k<l.length:=by simpa using hlt
   conv=>whnf
   obtain⟨a,rfl,hc⟩:=hs.get hlt;refine⟨a,Ix,Hh ?_⟩;refine⟨.int .i64 l[k],Qv hc,Hh ?_⟩;constructor
   · intro h
     have h:l[k]≠0:=by simpa using h
     conv=>whnf
     refine⟨?_,rfl⟩;unfold orL
     have:l.find? (fun z=>decide (z≠0))=some l[k]:=by
      rw[List.find?_eq_some_iff_getElem];refine⟨by simpa using h,k,hlt,rfl,fun j hj => ?_⟩;rw[hall j (by omega) hj];simp
     rw[this];rfl
   · intro h
     have h:l[k]=0:=by simpa using h
     conv=>whnf
     refine⟨_,wrap_succ (by omega),Hh ?_⟩;refine⟨k+1,by omega,⟨by omega,rfl,fun i hi hik => ?_⟩,Rr⟩
     by_cases e:i=k
     · subst e;exact h
     · exact hall i hi (by omega)
 · intro hge
   have hge:l.length≤k:=by simpa using hge
   conv=>whnf
   refine⟨?_,rfl⟩
   have:l.find? (fun z=>decide (z≠0))=none:=by
    rw[List.find?_eq_none];intro x hx;obtain⟨i,hi,rfl⟩:=List.getElem_of_mem hx;rw[hall i hi (by omega)];simp
   unfold orL;rw[this];rfl
theorem Qbb (a b:Ev) (w:World):Cal Tryz.prog 37 [evV a,evV b] w fun r w'=>r = .int .i64 (Qfz a b)∧Ext w w':=by
 refine Fi Tryz.func37 rfl _ rfl rfl (Hh ?_);intro b1 w1 hn1;conv=>whnf
 intro b2 w2 hn2;have h1:=hn1.At.ext hn2.ext;have h2:=hn2.At;have hx:=hn1.ext.trans hn2.ext
 conv=>whnf
 refine Dr .ext [0,1,2,3,5,6,7,8,10,11,12,13,4,9] [14,15,16,17] (Hh ?_);replace h1:At w2.drew b1 _ _:=h1;replace h2:At w2.drew b2 _ _:=h2;replace hx:Ext w w2.drew:=hx.drew;generalize w2.drew=w3 at h1 h2 hx ⊢;refine⟨_,h1.one rfl,Hh ?_⟩;refine⟨_,h2.one rfl,Hh ?_⟩;refine⟨_,h1.one0,Hh ?_⟩;refine⟨_,h2.one0,Hh ?_⟩;refine⟨_,h1.one rfl,Hh ?_⟩;refine⟨_,h2.one rfl,Hh ?_⟩;refine(Qdr _ _ _).mono ?_;rintro _ _ ⟨rfl,rfl⟩;refine⟨Ext.refl _,Hh ?_⟩;refine(Qmr _ _ _).mono ?_;rintro _ _ ⟨rfl,rfl⟩;refine⟨Ext.refl _,Hh ?_⟩;refine(Qdr _ _ _).mono ?_;rintro _ _ ⟨rfl,rfl⟩;conv=>whnf
 intro b6 w6 hn6;conv=>whnf
 refine(Qf4 [Qd0 a.at_ b.at_,Qd7 a.src b.src,Qd0 a.num b.num] _ _ _ (Qbd (enc:=Qgr) Qax hn6) (by simp)).mono ?_;rintro _ _ ⟨rfl,rfl⟩;conv=>whnf
 refine⟨?_,hx.trans hn6.ext⟩;unfold Qfz orL
 congr 1
 by_cases p:Qd0 a.at_ b.at_=0
 · by_cases q:Qd7 a.src b.src=0
   · by_cases r:Qd0 a.num b.num=0 <;> simp[p,q,r]
   · simp[p,q]
 · simp[p]
def Blk (A:Option Addr) (k:Nat):Prop:=∃ a,A=some a∧k=a.block
theorem Only.blk {w w':World} {a:Addr} (h:Only w w' a.block):Mod (Blk (some a)) w w':=h.mod.mono fun k _ e=>⟨a,rfl,e⟩
theorem Qfc {w w1 w2:World} {S:Nat→Prop} (hx:Ext w w1) (hm:Mod S w1 w2) (h:∀ k,S k→w.heap.size≤k):Ext w w2 :=
 ⟨hm.os.trans hx.os,hm.tape.trans hx.tape,hm.output.trans hx.output,Nat.le_trans hx.size hm.size,fun i hi=>(hm.block i (Nat.lt_of_lt_of_le hi hx.size) (fun hs=>by have:=h i hs;omega)).trans (hx.block i hi)⟩
section
variable {α:Type}
theorem Qk3 (P r s:List α) (u v:α):(P++u :: (r++v :: s))[P.length]? = some u:=by simp
theorem Qk4 (P r s:List α) (u v:α):(P++u :: (r++v :: s))[P.length+1+r.length]? = some v:=by
 rw[List.getElem?_append_right (by omega),show P.length+1+r.length-P.length=r.length+1 by omega]
 simp
theorem Qqv (P r s:List α) (u v:α):((P++u :: (r++v :: s)).set P.length v).set (P.length+1+r.length) u=P++v :: (r++u :: s):=by
 rw[List.set_append_right _ _ (by omega),Nat.sub_self,List.set_cons_zero,List.set_append_right _ _ (by omega),show P.length+1+r.length-P.length=r.length+1 by omega,List.set_cons_succ,List.set_append_right _ _ (by omega),Nat.sub_self,List.set_cons_zero]
theorem Qtm (P r s:List α) (u v:α):((P++u :: (r++v :: s)).set (P.length+1+r.length) u).set P.length v=P++v :: (r++u :: s):=by
 rw[List.set_comm _ _ (by omega),Qqv]
theorem Qtp {x:List α} {k:Nat} (h:k<x.length):x=x.take k++x[k] :: x.drop (k+1):=by
 rw[← List.drop_eq_getElem_cons h,List.take_append_drop]
end
theorem Qc2 {w:World} {A:Option Addr} {c base:Nat} {d:List Ev} {k:Nat} {x:Ev} (h:Own evC 8 38 base w A c d) (hk:d[k]? = some x):∃ a,A=some a∧Xo w (a.add (k*8)) (evC x) :=
 h.sl Xz k x hk
theorem Qdj {m n:Nat} (h:n≤m) (hm:m<9223372036854775807):((m-n:Nat):Int)=IntKind.i64.wrap ((m:Int)-(n:Int)):=by
 rw[← wrap_i64 ⟨by omega,by omega⟩];omega
theorem wrap_eq {z x:Int} (h:z=x) (hb:-9223372036854775808≤x∧x≤9223372036854775807):z=IntKind.i64.wrap x:=by rw[h];exact wrap_i64 hb
theorem Qf5 {w:World} {a:Addr} {c base:Nat} {d:List Ev} {k:Nat} (x:Ev) (hk:k<d.length) (hown:Own evC 8 38 base w (some a) c d) {R:Value→World→Prop}
 (h:∀ w',Own evC 8 38 base w' (some a) c (d.set k x)→Only w w' a.block→R undef w'):Qub Tryz.prog (Instr.storeAt 38 (.pointer (some (a.add (k*8)))) (.agg (evC x).toArray)) w R :=
 Qtj (enc:=evC) (sz:=8) (T:=Tt) Qa (e:=ty38) rfl rfl Xz Qbo hk x rfl hown h
theorem Qep (p x q y s:List Ev) (n a b:Nat) (fv:Value) (A:Option Addr) (c base:Nat) (w:World) (hx:x.length=n) (hy:y.length=n) (ha:p.length=a) (hb:p.length+n+q.length=b) (L:Nat) (hL:(p++x++q++y++s).length=L) (hLs:L<1000000000000)
 (hown:Own evC 8 38 base w A c (p++x++q++y++s)) :
 Cal Tryz.prog 343 [.slice A L c,.int .i64 a,.int .i64 b,.int .i64 n,fv] w fun r w'=>r = .tuple #[]∧Own evC 8 38 base w' A c (p++y++q++x++s)∧Mod (Blk A) w w':=by
 refine Fi Tryz.func343 rfl _ rfl rfl (Hh ?_)
 refine Qh Qa (fun(k:Nat) w'=>k≤n∧Own evC 8 38 base w' A c (p++(y.take k++x.drop k)++q++(x.take k++y.drop k)++s)∧Mod (Blk A) w w')
  (fun k => [(0,.slice A L c),(1,.int .i64 a),(2,.int .i64 b),(3,.int .i64 n),(4,fv),(10,.int .i64 k)]) (fun k=>n-k) 0 ⟨by omega,by simpa using hown,Mod.refl _ _⟩ Rr ?_
 rintro k w1 ⟨hk,hown1,hm⟩
 conv=>whnf
 constructor
 · intro hlt
   have hlt:k<n:=by simpa using hlt
   have e1:p++(y.take k++x.drop k)++q++(x.take k++y.drop k)++s=(p++y.take k)++x[k] :: ((x.drop (k+1)++q++x.take k)++y[k] :: (y.drop (k+1)++s)):=by
    rw[List.drop_eq_getElem_cons (l:=x) (by omega),List.drop_eq_getElem_cons (l:=y) (by omega)];simp only[List.append_assoc,List.cons_append,List.nil_append]
   have e2:p++(y.take (k+1)++x.drop (k+1))++q++(x.take (k+1)++y.drop (k+1))++s=(p++y.take k)++y[k] :: ((x.drop (k+1)++q++x.take k)++x[k] :: (y.drop (k+1)++s)):=by
    rw[List.take_succ_eq_append_getElem (l:=x) (by omega),List.take_succ_eq_append_getElem (l:=y) (by omega)];simp only[List.append_assoc,List.cons_append,List.nil_append]
   rw[e1] at hown1;have hi:(p++y.take k).length=a+k:=by simp;omega
   have hj:(p++y.take k).length+1+(x.drop (k+1)++q++x.take k).length=b+k:=by simp;omega
   have g1:=Qk3 (p++y.take k) (x.drop (k+1)++q++x.take k) (y.drop (k+1)++s) x[k] y[k];have g2:=Qk4 (p++y.take k) (x.drop (k+1)++q++x.take k) (y.drop (k+1)++s) x[k] y[k];have g3:=Qqv (p++y.take k) (x.drop (k+1)++q++x.take k) (y.drop (k+1)++s) x[k] y[k];rw[hi] at g1;rw[hj] at g2;rw[hj,hi,← e2] at g3
   have hdl:((p++y.take k)++x[k] :: ((x.drop (k+1)++q++x.take k)++y[k] :: (y.drop (k+1)++s))).length=L:=by
    rw[← e1,← hL];simp;omega
   generalize (p++y.take k)++x[k] :: ((x.drop (k+1)++q++x.take k)++y[k] :: (y.drop (k+1)++s))=d at hown1 g1 g2 g3 hdl;have hal:a+k<L:=by rw[← hdl];exact(List.getElem?_eq_some_iff.1 g1).1
   have hbl:b+k<L:=by rw[← hdl];exact(List.getElem?_eq_some_iff.1 g2).1
   obtain⟨a0,hA,hc2⟩:=Qc2 hown1 g2;obtain⟨_,_,hc1⟩:=Qc2 hown1 g1;subst hA;obtain rfl:a0=_:=by injection ‹some a0=some _›
   conv=>whnf
   refine Qcy (.mods (Blk (some a0))) [(0,true),(1,true),(2,true),(3,true),(4,false),(5,false),(6,false),(7,false),(8,true),(9,true),(10,true),(11,true),(12,true),(13,true),(14,true),(15,true),(16,true),(17,true),(18,true),(19,true),(20,true)] [21,22] [23] [21,23] Qa mixed (by kernel_rfl) (by first | (intro h;cases h;done) | (intro _;rfl)) (Hh ?_);refine⟨((a+k:Nat):Int),Qaq (by omega),Hh ?_⟩;refine⟨((b+k:Nat):Int),Qaq (by omega),Hh ?_⟩;refine⟨((b+k:Nat):Int),Qaq (by omega),Hh ?_⟩;refine⟨a0,Ix,Hh ?_⟩;refine⟨evC y[k],⟨rfl,hc2⟩,Hh ?_⟩;refine⟨((a+k:Nat):Int),Qaq (by omega),Hh ?_⟩;refine⟨a0,Ix,Hh ?_⟩;refine⟨evC x[k],⟨rfl,hc1⟩,Hh ?_⟩;refine⟨a0,Ix,Hh ?_⟩;refine Qf5 (w:=w1.drew) (k:=a+k) y[k] (by omega) hown1 fun w2 hown2 ho2 => ?_
   refine⟨ho2.blk,Hh ?_⟩;refine⟨a0,Ix,Hh ?_⟩;refine Qf5 (k:=b+k) x[k] (by simp;omega) hown2 fun w3 hown3 ho3 => ?_
   rw[g3] at hown3
   conv=>whnf
   refine⟨_,wrap_succ (by omega),Hh ?_⟩
   exact⟨k+1,by omega,⟨by omega,hown3,(hm.trans (Mod.trans (b:=w1.drew) ⟨rfl,rfl,rfl,Nat.le_refl _,fun _ _ _=>rfl⟩ (ho2.blk.trans ho3.blk)))⟩,Rr⟩
 · intro hge
   have hge:n≤k:=by simpa using hge
   have hkn:k=n:=by omega
   subst hkn
   conv=>whnf
   rw[List.take_of_length_le (l:=y) (by omega),List.take_of_length_le (l:=x) (by omega),List.drop_of_length_le (l:=x) (by omega),List.drop_of_length_le (l:=y) (by omega)] at hown1
   exact⟨rfl,by simpa using hown1,hm⟩
theorem Mod.drew {S:Nat→Prop} (w:World):Mod S w w.drew:=⟨rfl,rfl,rfl,Nat.le_refl _,fun _ _ _=>rfl⟩
theorem Qv2 (p x y s:List Ev) (a m b:Nat) (fv:Value) (A:Option Addr) (c base:Nat) (w:World) (hx0:x ≠ []) (hy0:y ≠ []) (ha:p.length=a) (hm:p.length+x.length=m) (hb:p.length+x.length+y.length=b) (L:Nat) (hL:(p++x++y++s).length=L) (hLs:L<1000000000000)
 (hown:Own evC 8 38 base w A c (p++x++y++s)) :
 Cal Tryz.prog 298 [.slice A L c,.int .i64 a,.int .i64 m,.int .i64 b,fv] w fun r w'=>r = .tuple #[]∧Own evC 8 38 base w' A c (p++y++x++s)∧Mod (Blk A) w w':=by
 have hL':p.length+x.length+y.length+s.length=L:=by rw[← hL];simp;omega
 refine Fi Tryz.func298 rfl _ rfl rfl (Hh ?_);refine⟨((m-a:Nat):Int),Qdj (by omega) (by omega),Hh ?_⟩;refine⟨((b-m:Nat):Int),Qdj (by omega) (by omega),Hh ?_⟩
 refine Qh Qa (fun(i:List Ev×List Ev×List Ev×List Ev) w'=>i.1.length+i.2.1.length=m∧i.2.1 ≠ []∧i.2.2.1 ≠ []∧i.1.length+i.2.1.length+i.2.2.1.length+i.2.2.2.length=L∧i.1++i.2.2.1++i.2.1++i.2.2.2=p++y++x++s∧Own evC 8 38 base w' A c (i.1++i.2.1++i.2.2.1++i.2.2.2)∧Mod (Blk A) w w')
  (fun i => [(0,.slice A L c),(2,.int .i64 m),(4,fv),(10,.int .i64 i.2.1.length),(11,.int .i64 i.2.2.1.length)]) (fun i=>i.2.1.length+i.2.2.1.length) (p,x,y,s)
  ⟨hm,hx0,hy0,hL',rfl,hown,Mod.refl _ _⟩ ⟨rfl,rfl,rfl,int_eq (by simp only;omega),int_eq (by simp only;omega),trivial⟩ ?_
 rintro ⟨P,X,Y,S⟩ w1 ⟨h1,hX0,hY0,hl,hT,hown1,hm1⟩;simp only at h1 hX0 hY0 hl hT hown1;have hXp:=List.length_pos_iff.2 hX0;have hYp:=List.length_pos_iff.2 hY0
 conv=>whnf
 constructor
 · intro hne
   have hne:X.length≠Y.length:=by simp at hne;omega
   conv=>whnf
   constructor
   · intro hgt
     have hgt:Y.length<X.length:=by simpa using hgt
     obtain⟨X1,X2,rfl,hX1⟩:∃ X1 X2,X=X1++X2∧X1.length=Y.length:=⟨X.take Y.length,X.drop Y.length,by simp,by simp;omega⟩;simp only[List.length_append] at *
     conv=>whnf
     refine⟨((m-(X1.length+X2.length):Nat):Int),wrap_eq (by omega) ⟨by omega,by omega⟩,Hh ?_⟩;refine(Qep P X1 X2 Y S Y.length (m-(X1.length+X2.length)) m fv A c base w1 hX1 rfl (by omega) (by omega) L (by simp;omega) hLs (by simpa using hown1)).mono ?_;rintro _ w2 ⟨rfl,hown2,hm2⟩;conv=>whnf
     refine⟨((X2.length:Nat):Int),wrap_eq (by omega) ⟨by omega,by omega⟩,Hh ?_⟩;refine⟨(P++Y,X2,X1,S),by simp;omega,⟨by simp;omega,?_,?_,by simp;omega,by simpa using hT,by simpa using hown2,hm1.trans hm2⟩,⟨rfl,rfl,rfl,rfl,int_eq (by simp only;omega),trivial⟩⟩
     · rw[← List.length_pos_iff];simp only;omega
     · rw[← List.length_pos_iff];simp only;omega
   · intro hle
     have hle:X.length<Y.length:=by simp at hle;omega
     obtain⟨Y1,Y2,rfl,hY2⟩:∃ Y1 Y2,Y=Y1++Y2∧Y2.length=X.length:=⟨Y.take (Y.length-X.length),Y.drop (Y.length-X.length),by simp,by simp;omega⟩;simp only[List.length_append] at *
     conv=>whnf
     refine⟨((m-X.length:Nat):Int),Qdj (by omega) (by omega),Hh ?_⟩;refine⟨((m+(Y1.length+Y2.length):Nat):Int),wrap_eq (by omega) ⟨by omega,by omega⟩,Hh ?_⟩;refine⟨((m+(Y1.length+Y2.length)-X.length:Nat):Int),Qdj (by omega) (by omega),Hh ?_⟩;refine(Qep P X Y1 Y2 S X.length (m-X.length) (m+(Y1.length+Y2.length)-X.length) fv A c base w1 rfl hY2 (by omega) (by omega) L (by simp;omega) hLs (by simpa using hown1)).mono ?_;rintro _ w2 ⟨rfl,hown2,hm2⟩;conv=>whnf
     refine⟨((Y1.length:Nat):Int),wrap_eq (by omega) ⟨by omega,by omega⟩,Hh ?_⟩;refine⟨(P,Y2,Y1,X++S),by simp;omega,⟨by simp;omega,?_,?_,by simp;omega,by simpa using hT,by simpa using hown2,hm1.trans hm2⟩,⟨rfl,rfl,rfl,int_eq (by simp only;omega),rfl,trivial⟩⟩
     · rw[← List.length_pos_iff];simp only;omega
     · rw[← List.length_pos_iff];simp only;omega
 · intro heq
   have heq:X.length=Y.length:=by simp at heq;omega
   conv=>whnf
   refine⟨((m-X.length:Nat):Int),Qdj (by omega) (by omega),Hh ?_⟩;refine(Qep P X [] Y S X.length (m-X.length) m fv A c base w1 rfl heq.symm (by omega) (by simp;omega) L (by simp;omega) hLs (by simpa using hown1)).mono ?_;rintro _ w2 ⟨rfl,hown2,hm2⟩;conv=>whnf
   refine⟨rfl,?_,hm1.trans hm2⟩;rw[← hT]
   simpa using hown2
abbrev Qo3:Value := .func (.func 37) #[] #[]
theorem Q1b {α:Type} {lt:α→α→Bool} (O:Swo lt) {z1 z2:List α} {v:α} (hs:Srt lt (z1++z2)) (h2:∀ u∈z2,lt v u=true) (h1:∀ u,z1.getLast? = some u→lt v u=false):Srt lt (z1++v :: z2):=by
 refine Srt.append hs.left (List.pairwise_cons.2 ⟨fun u hu=>O.asymm _ _ (h2 u hu),hs.right⟩) fun u hu t ht => ?_
 rcases List.mem_cons.1 ht with rfl | ht
 · rcases List.eq_nil_or_concat z1 with rfl | ⟨z,l,hz⟩
   · simp at hu
   · have hz':z1=z ++ [l]:=by simpa using hz
     subst hz';have hl:=h1 l (by simp);rcases List.mem_append.1 hu with hu | hu
     · exact O.trans u l t (hs.left.across u hu l (by simp)) hl
     · simp at hu;subst hu;exact hl
 · exact hs.across u hu t ht
theorem Qg5 (p x s:List Ev) (a b:Nat) (A:Option Addr) (c base:Nat) (w:World) (ha:p.length=a) (hb:p.length+x.length=b) (L:Nat) (hL:p.length+x.length+s.length=L) (hLs:L<1000000000000)
 (hown:Own evC 8 38 base w A c (p++x++s)) :
 Cal Tryz.prog 220 [.slice A L c,.int .i64 a,.int .i64 b,Qo3] w fun r w'=>r = .tuple #[]∧∃ z,z.Perm x∧Srt Qx z∧Own evC 8 38 base w' A c (p++z++s)∧Mod (Blk A) w w':=by
 refine Fi Tryz.func220 rfl _ rfl rfl (Hh ?_);refine⟨_,wrap_succ (by omega),Hh ?_⟩
 refine Qh Qa (fun(i:Nat×List Ev) w'=>(i.1=a+i.2.length∨x = []∧i.2 = []∧i.1=a+1)∧i.2.length≤x.length∧i.2.Perm (x.take i.2.length)∧Srt Qx i.2∧Own evC 8 38 base w' A c (p++i.2++(x.drop i.2.length++s))∧Mod (Blk A) w w')
  (fun | (i,_) => [(0,.slice A L c),(1,.int .i64 a),(2,.int .i64 b),(3,Qo3),(8,.int .i64 i)]) (fun i=>x.length-i.2.length) (a+1,x.take 1) ?_ Rr ?_
 · cases x with
   | nil=>exact⟨.inr ⟨rfl,rfl,rfl⟩,by simp,by simp,Srt.nil,by simpa using hown,Mod.refl _ _⟩
   | cons y x=>exact⟨.inl (by simp),by simp,by simp,by simp[Srt],by simpa using hown,Mod.refl _ _⟩
 rintro ⟨i,z⟩ w1 ⟨hi,hzl,hzp,hzs,hown1,hm1⟩;simp only at hi hzl hzp hown1
 conv=>whnf
 constructor
 · intro hlt
   have hlt:i<b:=by simpa using hlt
   have hi:i=a+z.length:=by
    rcases hi with h | ⟨h,h2,h3⟩
    · exact h
    · subst h;simp at hb;omega
   have hzx:z.length<x.length:=by omega
   have hdr:x.drop z.length=x[z.length] :: x.drop (z.length+1):=List.drop_eq_getElem_cons hzx;have htk:x.take (z.length+1)=x.take z.length ++ [x[z.length]]:=List.take_succ_eq_append_getElem hzx;rw[hdr] at hown1;generalize x[z.length]=v at hown1 hdr htk
   conv=>whnf
   refine Qh Qa (fun(q:List Ev×List Ev) w'=>z=q.1++q.2∧(∀ u∈q.2,Qx v u=true)∧Own evC 8 38 base w' A c (p++q.1++v :: (q.2++(x.drop (z.length+1)++s)))∧Mod (Blk A) w w')
    (fun | (z1,_) => [(0,.slice A L c),(1,.int .i64 a),(2,.int .i64 b),(3,Qo3),(8,.int .i64 i),(9,.int .i64 ((a+z1.length:Nat):Int))]) (fun q=>q.1.length) (z,[]) ⟨by simp,by simp,by simpa using hown1,hm1⟩ ⟨rfl,rfl,rfl,rfl,rfl,int_eq (by omega),trivial⟩ ?_
   rintro ⟨z1,z2⟩ w2 ⟨hz,hz2,hown2,hm2⟩;simp only at hz hown2;have hzlen:z.length=z1.length+z2.length:=by rw[hz];simp
   conv=>whnf
   refine Dr .same [0,1,2,3,4,5,6,7,8,9,10,11,12,13] [14,15,16] (Hh ?_);replace hown2:Own evC 8 38 base w2.drew A c _:=hown2;replace hm2:Mod (Blk A) w w2.drew:=hm2.trans (Mod.drew _);generalize w2.drew=w3 at hown2 hm2 ⊢
   have hg1:(p++z1++v :: (z2++(x.drop (z.length+1)++s)))[a+z1.length]? = some v:=by
    rw[List.getElem?_append_right (by simp;omega)];simp[ha]
   obtain⟨a0,hA,hc1⟩:=Qc2 hown2 hg1;subst hA;have hd:∀ {m n:Nat},decide ((m:Int)<(n:Int))=true→m<n:=fun h=>by simpa using h
   obtain⟨u,hu⟩:∃ u,z1 ≠ []→∃ zz,z1=zz ++ [u]:=by
    rcases List.eq_nil_or_concat z1 with h | ⟨zz,l,h⟩
    · exact⟨v,fun hh=>absurd h hh⟩
    · exact⟨l,fun _=>⟨zz,by simpa using h⟩⟩
   have hc0:z1 ≠ []→Xo w3 (a0.add ((a+z1.length-1)*8)) (evC u):=fun hne=>by
    obtain⟨zz,hzz⟩:=hu hne
    have:(p++z1++v :: (z2++(x.drop (z.length+1)++s)))[a+z1.length-1]? = some u:=by
     rw[hzz,show a+(zz ++ [u]).length-1=(p++zz).length by simp;omega,show p++(zz ++ [u])++v :: (z2++(x.drop (z.length+1)++s))=(p++zz)++u :: (v :: (z2++(x.drop (z.length+1)++s))) by simp]
     simp
    obtain⟨a1,h1,h2⟩:=Qc2 hown2 this;obtain rfl:a0=a1:=by injection h1
    exact h2
   have hne:∀ {m:Nat},a<a+z1.length→z1 ≠ []:=fun h e=>by rw[e] at h;simp at h
   refine⟨a0,fun hg=>Ix,Hh ?_⟩;refine⟨evC v,fun hg=>⟨rfl,hc1⟩,Hh ?_⟩;refine⟨((a+z1.length-1:Nat):Int),fun hg=>wrap_eq (by have:=hd hg;omega) ⟨by omega,by omega⟩,Hh ?_⟩;refine⟨a0,fun hg=>Ix,Hh ?_⟩;refine⟨evC u,fun hg=>⟨rfl,hc0 (hne (m:=0) (hd hg))⟩,Hh ?_⟩;refine⟨Unit,fun _ => .int .i64 (Qfz v u),fun _ w'=>Ext w3 w',(),fun hg=>(Qbb v u w3).mono (fun r w' h=>⟨(),h.1,h.2⟩),fun _ w4 h4 => ?_⟩
   have hx4:Ext w3 w4:=by
    rcases h4 with⟨_,h⟩ | ⟨_,h⟩
    · exact h
    · rw[h];exact Ext.refl _
   clear h4;have hown4:=hown2.ext hx4;have hm4:Mod (Blk (some a0)) w w4:=hm2.trans (Mod.of_ext hx4)
   conv=>whnf
   constructor
   · intro hcnd
     have hcnd:(decide ((a:Int)<((a+z1.length:Nat):Int))&&decide (Qfz v u<0))=true:=hcnd;rw[Bool.and_eq_true,Qbx] at hcnd;obtain⟨zz,rfl⟩:=hu (hne (m:=0) (hd hcnd.1));have hvu:=hcnd.2;have e0:p++(zz ++ [u])++v :: (z2++(x.drop (z.length+1)++s))=(p++zz)++u :: ([]++v :: (z2++(x.drop (z.length+1)++s))):=by simp
     rw[e0] at hown4;have g1:=Qtm (p++zz) [] (z2++(x.drop (z.length+1)++s)) u v;have hdl:((p++zz)++u :: ([]++v :: (z2++(x.drop (z.length+1)++s)))).length=L:=by simp at hzlen ⊢;omega
     have hi1:(p++zz).length=a+zz.length:=by simp;omega
     have f1:=Qk3 (p++zz) [] (z2++(x.drop (z.length+1)++s)) u v;have f2:=Qk4 (p++zz) [] (z2++(x.drop (z.length+1)++s)) u v;rw[hi1] at g1 f1 f2;simp only[List.length_nil,Nat.add_zero] at g1 f2;have hlz:(zz ++ [u]).length=zz.length+1:=by simp
     generalize hdd:(p++zz)++u :: ([]++v :: (z2++(x.drop (z.length+1)++s)))=d at hown4 g1 hdl f1 f2;obtain⟨_,hA1,hcu⟩:=Qc2 hown4 f1;obtain rfl:a0=_:=by injection hA1
     obtain⟨_,hA2,hcv⟩:=Qc2 hown4 f2;obtain rfl:a0=_:=by injection hA2
     conv=>whnf
     refine Qcy (.mods (Blk (some a0))) [(0,true),(1,true),(2,false),(3,false),(4,false),(5,true),(6,true),(7,true),(8,true),(9,true),(10,true),(11,true),(12,true),(13,true),(14,true)] [15,16] [17] [15,17] Qa mixed (by kernel_rfl) (by first | (intro h;cases h;done) | (intro _;rfl)) (Hh ?_);refine⟨((a+zz.length:Nat):Int),wrap_eq (by rw[hlz];omega) ⟨by omega,by omega⟩,Hh ?_⟩;refine⟨((a+zz.length:Nat):Int),wrap_eq (by rw[hlz];omega) ⟨by omega,by omega⟩,Hh ?_⟩;refine⟨a0,Ix,Hh ?_⟩;refine⟨evC u,⟨rfl,hcu⟩,Hh ?_⟩;refine⟨a0,Ix,Hh ?_⟩;refine⟨evC v,⟨rfl,by rw[hlz];exact hcv⟩,Hh ?_⟩;refine⟨a0,Ix,Hh ?_⟩;refine Qf5 (w:=w4.drew) (k:=a+(zz ++ [u]).length) u (by rw[hdl,hlz];simp at hzlen;omega) hown4 fun w5 hown5 ho5 => ?_
     refine⟨ho5.blk,Hh ?_⟩;refine⟨a0,Ix,Hh ?_⟩;refine Qf5 (k:=a+zz.length) v (by rw[List.length_set,hdl];simp at hzlen;omega) hown5 fun w6 hown6 ho6 => ?_
     rw[hlz,← Nat.add_assoc,g1] at hown6
     conv=>whnf
     refine⟨((a+zz.length:Nat):Int),wrap_eq (by rw[hlz];omega) ⟨by omega,by omega⟩,Hh ?_⟩;refine⟨(zz,u :: z2),by simp,⟨by rw[hz];simp,?_,by simpa using hown6,hm4.trans ((Mod.drew _).trans (ho5.blk.trans ho6.blk))⟩,Rr⟩;intro y hy;rcases List.mem_cons.1 hy with rfl | hy
     · exact hvu
     · exact hz2 y hy
   · intro hcnd
     have hcnd:(decide ((a:Int)<((a+z1.length:Nat):Int))&&decide (Qfz v u<0))=false:=hcnd;rw[Qbx] at hcnd
     conv=>whnf
     refine⟨_,wrap_succ (by omega),Hh ?_⟩;have hll:(z1++v :: z2).length=z.length+1:=by simp;omega
     refine⟨(i+1,z1++v :: z2),by simp only[hll];omega,⟨.inl (by simp only[hll];omega),by simp only[hll];omega,?_,?_,?_,hm4⟩,Rr⟩
     · simp only[hll]
       rw[htk];refine List.Perm.trans ?_ (hzp.append_right [v]);rw[hz]
       exact List.perm_middle.trans (by rw[List.append_assoc];exact(List.perm_append_comm (l₁ := [v])).trans (by simp))
     · refine Q1b Qad (by rw[← hz];exact hzs) hz2 fun t ht => ?_
       have hne1:z1 ≠ []:=fun e=>by rw[e] at ht;simp at ht
       obtain⟨zz,hzz⟩:=hu hne1;rw[hzz] at ht;obtain rfl:u=t:=by simpa using ht
       have hpos:=List.length_pos_iff.2 hne1;have:decide ((a:Int)<((a+z1.length:Nat):Int))=true:=by simp;omega
       rw[this,Bool.true_and] at hcnd
       exact hcnd
     · simp only[hll]
       simpa using hown4
 · intro hge
   have hge:b≤i:=by simpa using hge
   conv=>whnf
   have hzx:z.length=x.length:=by
    rcases hi with h | ⟨h,h2,h3⟩
    · omega
    · rw[h,h2]
   refine⟨rfl,z,?_,hzs,?_,hm1⟩
   · rw[hzx,List.take_length] at hzp;exact hzp
   · rw[hzx,List.drop_length] at hown1;simpa using hown1
theorem Qja (n:Nat):(0:Int)≤1∧((n/2:Nat):Int)=Int.fdiv (n:Int) (2 ^ (min (1:Int).toNat IntKind.u64.bits)):=by
 refine⟨by decide,?_⟩;have:(2:Int) ^ (min (1:Int).toNat IntKind.u64.bits)=2:=by decide
 rw[this,Int.fdiv_eq_ediv_of_nonneg _ (by decide)];omega
theorem Qos {n:Nat} (h:n≤9223372036854775807):(n:Int)=IntKind.u64.wrap (n:Int):=wrap_u64 ⟨by omega,by omega⟩
theorem Qor {n:Nat} (h:n≤9223372036854775807):(n:Int)=IntKind.i64.wrap (n:Int):=wrap_i64 ⟨by omega,by omega⟩
section
variable {α:Type} {lt:α→α→Bool}
theorem Qlv {l:List α} {i:Nat} {u:α} (h0:0<i) (h:l[i-1]? = some u):(l.take i).getLast? = some u:=by
 have hlt:i-1<l.length:=(List.getElem?_eq_some_iff.1 h).1;obtain⟨i,rfl⟩:∃ j,i=j+1:=⟨i-1,by omega⟩;have:l[i]=u:=by simp at h hlt;rw[List.getElem?_eq_getElem hlt] at h;simpa using h
 rw[List.take_succ_eq_append_getElem (by omega)]
 simp[this]
theorem head_drop {l:List α} {i:Nat} {u:α} (h:l[i]? = some u):(l.drop i).head? = some u:=by
 rw[List.head?_drop];exact h
theorem Qye (O:Swo lt) {y:List α} {v:α} {i:Nat} (hi:i≤y.length) (hs:Srt lt y) (h1:i=0∨∃ u,y[i-1]? = some u∧lt v u=false) (h2:i=y.length∨∃ u,y[i]? = some u∧lt u v=false):Srt lt (y.take i++v :: y.drop i):=by
 have hs':Srt lt (y.take i++y.drop i):=by rw[List.take_append_drop];exact hs
 have k1:=Qpr (x:=y.take i) (y := [v]) O hs'.left (Srt.one v) (fun a b ha hb=>by
  obtain rfl:v=b:=by simpa using hb
  rcases h1 with rfl | ⟨u,hu,hl⟩
  · simp at ha
  · by_cases hi0:i=0
    · subst hi0;simp at ha
    · rw[Qlv (by omega) hu] at ha
      obtain rfl:u=a:=by simpa using ha
      exact hl)
 have k2:=Qpr (x := [v]) (y:=y.drop i) O (Srt.one v) hs'.right (fun a b ha hb=>by
  obtain rfl:v=a:=by simpa using ha
  rcases h2 with rfl | ⟨u,hu,hl⟩
  · simp at hb
  · rw[head_drop hu] at hb
    obtain rfl:u=b:=by simpa using hb
    exact hl)
 refine hs'.left.append (List.pairwise_cons.2 ⟨fun t ht=>k2 v (by simp) t ht,hs'.right⟩) fun t ht u hu => ?_
 rcases List.mem_cons.1 hu with rfl | hu
 · exact k1 t ht u (by simp)
 · exact hs'.across t ht u hu
end
theorem Qwj {y:List Ev} {i:Nat} {u v:Ev} (h:y[i]? = some u) (hl:Qx u v=true):y[i]? = some u∧Qx v u=false:=⟨h,Qad.asymm _ _ hl⟩
set_option maxHeartbeats 4000000 in
theorem Qis:∀ (N:Nat) (p x y s:List Ev) (a m b:Nat) (A:Option Addr) (c base:Nat) (w:World) (hN:x.length+y.length≤N) (hx0:0<x.length) (hy0:0<y.length) (hsx:Srt Qx x) (hsy:Srt Qx y) (ha:p.length=a) (hm:p.length+x.length=m) (hb:p.length+x.length+y.length=b) (L:Nat) (hL:p.length+x.length+y.length+s.length=L) (hLs:L<1000000000000)
 (hown:Own evC 8 38 base w A c (p++x++y++s)),
 Cal Tryz.prog 221 [.slice A L c,.int .i64 a,.int .i64 m,.int .i64 b,Qo3] w fun r w'=>r = .tuple #[]∧∃ z,z.Perm (x++y)∧Srt Qx z∧Own evC 8 38 base w' A c (p++z++s)∧Mod (Blk A) w w':=by
 intro N
 induction N with
 | zero=>intro p x y s a m b A c base w hN hx0;omega
 | succ N ih =>
   intro p x y s a m b A c base w hN hx0 hy0 hsx hsy ha hm hb L hL hLs hown;have hd:∀ {m n:Nat},decide ((m:Int)<(n:Int))=true→m<n:=fun h=>by simpa using h
   have hd':∀ {m n:Nat},decide ((m:Int)<(n:Int))=false→n≤m:=fun h=>by simpa using h
   refine Fi Tryz.func221 rfl _ rfl rfl (Hh ?_);refine⟨((m-a:Nat):Int),Qdj (by omega) (by omega),Hh ?_⟩;constructor
   · intro h1
     have h1:x.length=1:=by simp at h1;omega
     obtain⟨v,rfl⟩:=List.length_eq_one_iff.1 h1;have hv1 : [v].length=1:=rfl;have hvat:(p ++ [v]++y++s)[a]? = some v:=by rw[← ha];simp
     obtain⟨a0,hA,hcv⟩:=Qc2 hown hvat;subst hA
     conv=>whnf
     refine Qh Qa (fun(q:Nat×Nat) w'=>q.1≤q.2∧q.2≤y.length∧(q.1=0∨∃ u,y[q.1-1]? = some u∧Qx v u=false)∧(q.2=y.length∨∃ u,y[q.2]? = some u∧Qx u v=false)∧Ext w w')
      (fun | (i,j) => [(0,.slice (some a0) L c),(1,.int .i64 a),(2,.int .i64 m),(3,.int .i64 b),(4,Qo3),(10,.int .i64 ((m+i:Nat):Int)),(11,.int .i64 ((m+j:Nat):Int))]) (fun q=>q.2-q.1) (0,y.length)
      ⟨by simp,by simp,.inl rfl,.inl rfl,Ext.refl _⟩ ⟨rfl,rfl,rfl,rfl,rfl,rfl,int_eq (by omega),trivial⟩ ?_
     rintro ⟨i,j⟩ w1 ⟨hij,hjy,hi,hj,hx1⟩;simp only at hij hjy hi hj
     conv=>whnf
     constructor
     · intro hlt
       have hlt:i<j:=by have:=hd hlt;omega
       obtain⟨h,hh⟩:∃ h,h=(i+j)/2:=⟨_,rfl⟩;have hhm:(m+i+(m+j))/2=m+h:=by omega
       have hhy:h<y.length:=by omega
       have hhat:(p ++ [v]++y++s)[m+h]? = some y[h]:=by
        rw[List.getElem?_append_left (by simp;omega),List.getElem?_append_right (by simp;omega)];rw[show m+h-(p ++ [v]).length=h by simp;omega]
        exact List.getElem?_eq_getElem hhy
       obtain⟨_,hA1,hch⟩:=Qc2 hown hhat;obtain rfl:a0=_:=by injection hA1
       have hyh:y[h]? = some y[h]:=List.getElem?_eq_getElem hhy;generalize y[h]=u at hch hyh
       conv=>whnf
       refine⟨((m+i+(m+j):Nat):Int),Qaq (by omega),Hh ?_⟩;refine⟨((m+i+(m+j):Nat):Int),Qos (by omega),Hh ?_⟩;refine⟨((m+h:Nat):Int),by rw[← hhm];exact Qja _,Hh ?_⟩;refine⟨((m+h:Nat):Int),Qor (by omega),Hh ?_⟩;refine Dr .same [0,1,2,3,4,5,6,7,8] [9,10] (Hh ?_);replace hx1:Ext w w1.drew:=hx1.drew;generalize w1.drew=w2 at hx1 ⊢;refine⟨a0,Ix,Hh ?_⟩;refine⟨evC u,⟨rfl,hx1.cells hch⟩,Hh ?_⟩;refine⟨a0,Ix,Hh ?_⟩;refine⟨evC v,⟨rfl,hx1.cells hcv⟩,Hh ?_⟩;refine(Qbb u v w2).mono ?_;rintro _ w3 ⟨rfl,hx3⟩
       conv=>whnf
       constructor
       · intro hc
         have hc:Qx u v=true:=by rw[← Qbx];exact hc
         conv=>whnf
         refine⟨((m+(h+1):Nat):Int),wrap_eq (by omega) ⟨by omega,by omega⟩,Hh ?_⟩
         exact⟨(h+1,j),by simp only;omega,⟨by simp only;omega,hjy,.inr ⟨u,Qwj (by simpa using hyh) hc⟩,hj,hx1.trans hx3⟩,Rr⟩
       · intro hc
         have hc:Qx u v=false:=by rw[← Qbx];exact hc
         conv=>whnf
         exact⟨(i,h),by simp only;omega,⟨by simp only;omega,by simp only;omega,hi,.inr ⟨u,hyh,hc⟩,hx1.trans hx3⟩,Rr⟩
     · intro hge
       have hge:j≤i:=by have:=hd' hge;omega
       obtain rfl:i=j:=by omega
       have hsr:=Qye Qad hjy hsy hi hj
       have hpr:(y.take i++v :: y.drop i).Perm ([v]++y):=by
        refine List.perm_middle.trans ?_;rw[List.take_append_drop];exact List.Perm.refl _
       have hown1:=hown.ext hx1;have hlt1:(y.take i).length=i:=by simp;omega
       have hyd:y=y.take i++y.drop i:=(List.take_append_drop i y).symm;have hdl:(y.drop i).length=y.length-i:=by simp
       generalize y.take i=y1 at hsr hpr hlt1 hyd;generalize y.drop i=y2 at hsr hpr hyd hdl;subst hyd;have hly:(y1++y2).length=y1.length+y2.length:=List.length_append
       conv=>whnf
       refine Qh Qa (fun(k:Nat) w'=>k≤i∧Own evC 8 38 base w' (some a0) c (p++y1.take k++v :: (y1.drop k++(y2++s)))∧Mod (Blk (some a0)) w w')
        (fun k => [(0,.slice (some a0) L c),(1,.int .i64 a),(2,.int .i64 m),(3,.int .i64 b),(4,Qo3),(10,.int .i64 ((m+i:Nat):Int)),(13,.int .i64 ((a+k:Nat):Int))]) (fun k=>i-k) 0
        ⟨by omega,by simpa using hown1,Mod.of_ext hx1⟩ Rr ?_
       rintro k w2 ⟨hk,hown2,hm2⟩
       conv=>whnf
       refine⟨((a+i:Nat):Int),wrap_eq (by omega) ⟨by omega,by omega⟩,Hh ?_⟩;constructor
       · intro hlt
         have hlt:k<i:=by have:=hd hlt;omega
         have hdk:y1.drop k=y1[k] :: y1.drop (k+1):=List.drop_eq_getElem_cons (by omega);have htk:y1.take (k+1)=y1.take k ++ [y1[k]]:=List.take_succ_eq_append_getElem (by omega);generalize y1[k]=u at hdk htk;have e0:p++y1.take k++v :: (y1.drop k++(y2++s))=(p++y1.take k)++v :: ([]++u :: (y1.drop (k+1)++(y2++s))):=by rw[hdk];simp
         rw[e0] at hown2;have hi1:(p++y1.take k).length=a+k:=by simp;omega
         have g1:=Qqv (p++y1.take k) [] (y1.drop (k+1)++(y2++s)) v u;have f1:=Qk3 (p++y1.take k) [] (y1.drop (k+1)++(y2++s)) v u;have f2:=Qk4 (p++y1.take k) [] (y1.drop (k+1)++(y2++s)) v u;rw[hi1] at g1 f1 f2;simp only[List.length_nil,Nat.add_zero] at g1 f2;have hdl:((p++y1.take k)++v :: ([]++u :: (y1.drop (k+1)++(y2++s)))).length=L:=by simp at hL ⊢;omega
         generalize (p++y1.take k)++v :: ([]++u :: (y1.drop (k+1)++(y2++s)))=d at hown2 g1 f1 f2 hdl;obtain⟨_,hA1,hcu⟩:=Qc2 hown2 f1;obtain rfl:a0=_:=by injection hA1
         obtain⟨_,hA2,hcw⟩:=Qc2 hown2 f2;obtain rfl:a0=_:=by injection hA2
         have hkL:a+k+1<L:=by rw[← hdl];exact(List.getElem?_eq_some_iff.1 f2).1
         conv=>whnf
         refine Qcy (.mods (Blk (some a0))) [(0,true),(1,true),(2,false),(3,false),(4,false),(5,true),(6,true),(7,true),(8,true),(9,true),(10,true),(11,true),(12,true),(13,true),(14,true)] [15,16] [17] [15,17] Qa mixed (by kernel_rfl) (by first | (intro h;cases h;done) | (intro _;rfl)) (Hh ?_);refine⟨((a+k+1:Nat):Int),wrap_succ (by omega),Hh ?_⟩;refine⟨((a+k+1:Nat):Int),wrap_succ (by omega),Hh ?_⟩;refine⟨a0,Ix,Hh ?_⟩;refine⟨evC u,⟨rfl,hcw⟩,Hh ?_⟩;refine⟨a0,Ix,Hh ?_⟩;refine⟨evC v,⟨rfl,hcu⟩,Hh ?_⟩;refine⟨a0,Ix,Hh ?_⟩;refine Qf5 (w:=w2.drew) (k:=a+k) u (by omega) hown2 fun w5 hown5 ho5 => ?_
         refine⟨ho5.blk,Hh ?_⟩;refine⟨a0,Ix,Hh ?_⟩;refine Qf5 (k:=a+k+1) v (by rw[List.length_set,hdl];omega) hown5 fun w6 hown6 ho6 => ?_
         rw[g1] at hown6
         conv=>whnf
         refine⟨((a+(k+1):Nat):Int),wrap_eq (by omega) ⟨by omega,by omega⟩,Hh ?_⟩;refine⟨k+1,by omega,⟨by omega,by rw[htk];simpa using hown6,hm2.trans ((Mod.drew _).trans (ho5.blk.trans ho6.blk))⟩,Rr⟩
       · intro hge
         have hge:i≤k:=by have:=hd' hge;omega
         rw[List.take_of_length_le (l:=y1) (by omega),List.drop_of_length_le (l:=y1) (by omega)] at hown2
         conv=>whnf
         exact⟨rfl,_,hpr,hsr,by simpa using hown2,hm2⟩
   intro h1;have hxl:2≤x.length:=by simp at h1;omega
   clear h1
   conv=>whnf
   refine⟨((b-m:Nat):Int),Qdj (by omega) (by omega),Hh ?_⟩;constructor
   · intro h1
     have h1:y.length=1:=by simp at h1;omega
     obtain⟨v,rfl⟩:=List.length_eq_one_iff.1 h1;have hv1 : [v].length=1:=rfl
     have hvat:(p++x ++ [v]++s)[m]? = some v:=by
      rw[show p++x ++ [v]++s=(p++x)++v :: s by simp,show m=(p++x).length by simp;omega];simp
     obtain⟨a0,hA,hcv⟩:=Qc2 hown hvat;subst hA
     conv=>whnf
     refine Qh Qa (fun(q:Nat×Nat) w'=>q.1≤q.2∧q.2≤x.length∧(q.1=0∨∃ u,x[q.1-1]? = some u∧Qx v u=false)∧(q.2=x.length∨∃ u,x[q.2]? = some u∧Qx u v=false)∧Ext w w')
      (fun | (i,j) => [(0,.slice (some a0) L c),(1,.int .i64 a),(2,.int .i64 m),(3,.int .i64 b),(4,Qo3),(14,.int .i64 ((a+i:Nat):Int)),(15,.int .i64 ((a+j:Nat):Int))]) (fun q=>q.2-q.1) (0,x.length)
      ⟨by simp,by simp,.inl rfl,.inl rfl,Ext.refl _⟩ ⟨rfl,rfl,rfl,rfl,rfl,rfl,int_eq (by omega),trivial⟩ ?_
     rintro ⟨i,j⟩ w1 ⟨hij,hjy,hi,hj,hx1⟩;simp only at hij hjy hi hj
     conv=>whnf
     constructor
     · intro hlt
       have hlt:i<j:=by have:=hd hlt;omega
       obtain⟨h,hh⟩:∃ h,h=(i+j)/2:=⟨_,rfl⟩;have hhm:(a+i+(a+j))/2=a+h:=by omega
       have hhy:h<x.length:=by omega
       have hhat:(p++x ++ [v]++s)[a+h]? = some x[h]:=by
        rw[List.append_assoc,List.append_assoc,List.getElem?_append_right (by omega),List.getElem?_append_left (by omega)];rw[show a+h-p.length=h by omega]
        exact List.getElem?_eq_getElem hhy
       obtain⟨_,hA1,hch⟩:=Qc2 hown hhat;obtain rfl:a0=_:=by injection hA1
       have hyh:x[h]? = some x[h]:=List.getElem?_eq_getElem hhy;generalize x[h]=u at hch hyh
       conv=>whnf
       refine⟨((a+i+(a+j):Nat):Int),Qaq (by omega),Hh ?_⟩;refine⟨((a+i+(a+j):Nat):Int),Qos (by omega),Hh ?_⟩;refine⟨((a+h:Nat):Int),by rw[← hhm];exact Qja _,Hh ?_⟩;refine⟨((a+h:Nat):Int),Qor (by omega),Hh ?_⟩;refine Dr .same [0,1,2,3,4,5,6,7,8] [9,10,11] (Hh ?_);replace hx1:Ext w w1.drew:=hx1.drew;generalize w1.drew=w2 at hx1 ⊢;refine⟨a0,Ix,Hh ?_⟩;refine⟨evC v,⟨rfl,hx1.cells hcv⟩,Hh ?_⟩;refine⟨a0,Ix,Hh ?_⟩;refine⟨evC u,⟨rfl,hx1.cells hch⟩,Hh ?_⟩;refine(Qbb v u w2).mono ?_;rintro _ w3 ⟨rfl,hx3⟩
       conv=>whnf
       constructor
       · intro hc
         have hc:Qx v u=false:=by rw[← Qbx];simpa using hc
         conv=>whnf
         refine⟨((a+(h+1):Nat):Int),wrap_eq (by omega) ⟨by omega,by omega⟩,Hh ?_⟩
         exact⟨(h+1,j),by simp only;omega,⟨by simp only;omega,hjy,.inr ⟨u,by simpa using hyh,hc⟩,hj,hx1.trans hx3⟩,Rr⟩
       · intro hc
         have hc:Qx v u=true:=by rw[← Qbx];simpa using hc
         conv=>whnf
         exact⟨(i,h),by simp only;omega,⟨by simp only;omega,by simp only;omega,hi,.inr ⟨u,hyh,Qad.asymm _ _ hc⟩,hx1.trans hx3⟩,Rr⟩
     · intro hge
       have hge:j≤i:=by have:=hd' hge;omega
       obtain rfl:i=j:=by omega
       have hsr:=Qye Qad hjy hsx hi hj
       have hpr:(x.take i++v :: x.drop i).Perm (x ++ [v]):=by
        refine List.perm_middle.trans ?_;rw[List.take_append_drop];exact(List.perm_append_comm (l₁ := [v])).trans (List.Perm.refl _)
       have hown1:=hown.ext hx1;have hlt1:(x.take i).length=i:=by simp;omega
       have hyd:x=x.take i++x.drop i:=(List.take_append_drop i x).symm;have hdl:(x.drop i).length=x.length-i:=by simp
       generalize x.take i=x1 at hsr hpr hlt1 hyd;generalize x.drop i=x2 at hsr hpr hyd hdl;subst hyd;have hlx:(x1++x2).length=x1.length+x2.length:=List.length_append
       conv=>whnf
       refine Qh Qa (fun(k:Nat) w'=>k≤x2.length∧Own evC 8 38 base w' (some a0) c (p++x1++x2.take k++v :: (x2.drop k++s))∧Mod (Blk (some a0)) w w')
        (fun k => [(0,.slice (some a0) L c),(1,.int .i64 a),(2,.int .i64 m),(3,.int .i64 b),(4,Qo3),(14,.int .i64 ((a+i:Nat):Int)),(17,.int .i64 ((a+i+k:Nat):Int))]) (fun k=>k) x2.length
        ⟨by omega,by simpa using hown1,Mod.of_ext hx1⟩ ⟨rfl,rfl,rfl,rfl,rfl,rfl,int_eq (by omega),trivial⟩ ?_
       rintro k w2 ⟨hk,hown2,hm2⟩
       conv=>whnf
       constructor
       · intro hlt
         have hlt:0<k:=by have:=hd hlt;omega
         obtain⟨k,rfl⟩:∃ j,k=j+1:=⟨k-1,by omega⟩;have hdk:x2.drop k=x2[k] :: x2.drop (k+1):=List.drop_eq_getElem_cons (by omega);have htk:x2.take (k+1)=x2.take k ++ [x2[k]]:=List.take_succ_eq_append_getElem (by omega);generalize x2[k]=u at hdk htk;have e0:p++x1++x2.take (k+1)++v :: (x2.drop (k+1)++s)=(p++x1++x2.take k)++u :: ([]++v :: (x2.drop (k+1)++s)):=by rw[htk];simp
         rw[e0] at hown2;have hi1:(p++x1++x2.take k).length=a+i+k:=by simp;omega
         have g1:=Qtm (p++x1++x2.take k) [] (x2.drop (k+1)++s) u v;have f1:=Qk3 (p++x1++x2.take k) [] (x2.drop (k+1)++s) u v;have f2:=Qk4 (p++x1++x2.take k) [] (x2.drop (k+1)++s) u v;rw[hi1] at g1 f1 f2;simp only[List.length_nil,Nat.add_zero] at g1 f2;have hdl:((p++x1++x2.take k)++u :: ([]++v :: (x2.drop (k+1)++s))).length=L:=by simp at hL ⊢;omega
         generalize (p++x1++x2.take k)++u :: ([]++v :: (x2.drop (k+1)++s))=d at hown2 g1 f1 f2 hdl;obtain⟨_,hA1,hcu⟩:=Qc2 hown2 f1;obtain rfl:a0=_:=by injection hA1
         obtain⟨_,hA2,hcw⟩:=Qc2 hown2 f2;obtain rfl:a0=_:=by injection hA2
         have hkL:a+i+k+1<L:=by rw[← hdl];exact(List.getElem?_eq_some_iff.1 f2).1
         conv=>whnf
         refine Qcy (.mods (Blk (some a0))) [(0,true),(1,true),(2,false),(3,false),(4,false),(5,true),(6,true),(7,true),(8,true),(9,true),(10,true),(11,true),(12,true),(13,true),(14,true)] [15,16] [17] [15,17] Qa mixed (by kernel_rfl) (by first | (intro h;cases h;done) | (intro _;rfl)) (Hh ?_);refine⟨((a+i+k:Nat):Int),wrap_eq (by omega) ⟨by omega,by omega⟩,Hh ?_⟩;refine⟨((a+i+k:Nat):Int),wrap_eq (by omega) ⟨by omega,by omega⟩,Hh ?_⟩;refine⟨a0,Ix,Hh ?_⟩;refine⟨evC u,⟨rfl,hcu⟩,Hh ?_⟩;refine⟨a0,Ix,Hh ?_⟩;refine⟨evC v,⟨rfl,hcw⟩,Hh ?_⟩;refine⟨a0,Ix,Hh ?_⟩;refine Qf5 (w:=w2.drew) (k:=a+i+k+1) u (by omega) hown2 fun w5 hown5 ho5 => ?_
         refine⟨ho5.blk,Hh ?_⟩;refine⟨a0,Ix,Hh ?_⟩;refine Qf5 (k:=a+i+k) v (by rw[List.length_set,hdl];omega) hown5 fun w6 hown6 ho6 => ?_
         rw[g1] at hown6
         conv=>whnf
         refine⟨((a+i+k:Nat):Int),wrap_eq (by omega) ⟨by omega,by omega⟩,Hh ?_⟩;refine⟨k,by omega,⟨by omega,by rw[hdk];simpa using hown6,hm2.trans ((Mod.drew _).trans (ho5.blk.trans ho6.blk))⟩,Rr⟩
       · intro hge
         have hge:k=0:=by have:=hd' hge;omega
         subst hge
         conv=>whnf
         exact⟨rfl,_,hpr,hsr,by simpa using hown2,hm2⟩
   intro h1;have hyl:2≤y.length:=by simp at h1;omega
   clear h1;obtain⟨mid,hmid⟩:∃ mid,mid=(a+b)/2:=⟨_,rfl⟩
   have hne:p++x++y++s ≠ []:=fun e=>by
    have h0:(p++x++y++s).length=0:=by rw[e];rfl
    simp only[List.length_append] at h0;omega
   obtain⟨a0,hA⟩:∃ a0,A=some a0:=by
    obtain⟨e,he⟩:∃ e,(p++x++y++s)[0]? = some e:=⟨_,List.getElem?_eq_getElem (List.length_pos_iff.2 hne)⟩;obtain⟨a0,h,_⟩:=Qc2 hown he
    exact⟨a0,h⟩
   subst hA
   conv=>whnf
   refine⟨((a+b:Nat):Int),Qaq (by omega),Hh ?_⟩;refine⟨((a+b:Nat):Int),Qos (by omega),Hh ?_⟩;refine⟨(mid:Int),by rw[hmid];exact Qja _,Hh ?_⟩;refine⟨(mid:Int),Qor (by omega),Hh ?_⟩;refine⟨((mid+m:Nat):Int),Qaq (by omega),Hh ?_⟩
   refine Xh Qa (ι:=Nat×Nat) (fun | (s0,r0) => [(0,.slice (some a0) L c),(1,.int .i64 a),(2,.int .i64 m),(3,.int .i64 b),(4,Qo3),(18,.int .i64 mid),(19,.int .i64 ((mid+m:Nat):Int)),(20,.int .i64 s0),(21,.int .i64 r0)])
    (fun q w'=>w'=w∧((mid<m∧q.1+b=mid+m∧q.2=mid)∨(m≤mid∧q.1=a∧q.2=m))) ?_ ?_
   · constructor
     · intro hgt
       have hgt:=hd hgt
       conv=>whnf
       refine⟨((mid+m-b:Nat):Int),Qdj (by omega) (by omega),Hh ?_⟩
       exact⟨(mid+m-b,mid),⟨rfl,.inl ⟨hgt,by simp only;omega,rfl⟩⟩,Rr⟩
     · intro hle
       have hle:=hd' hle
       conv=>whnf
       exact⟨(a,m),⟨rfl,.inr ⟨hle,rfl,rfl⟩⟩,Rr⟩
   rintro ⟨s0,r0⟩ w1 ⟨rfl,hsr⟩;simp only at hsr;have hb1:a≤s0∧s0≤r0∧r0≤m∧m+r0≤mid+m∧mid+m≤b+s0∧a<mid∧mid<b:=by omega
   conv=>whnf
   refine⟨((mid+m-1:Nat):Int),wrap_eq (by omega) ⟨by omega,by omega⟩,Hh ?_⟩
   have hxat:∀ i,a≤i→i<m→∃ u,x[i-a]? = some u∧Xo w1 (a0.add (i*8)) (evC u):=by
    intro i h1 h2;have hlt:i-a<x.length:=by omega
    have:(p++x++y++s)[i]? = some x[i-a]:=by
     rw[List.append_assoc,List.append_assoc,List.getElem?_append_right (by omega),List.getElem?_append_left (by omega)];rw[show i-p.length=i-a by omega]
     exact List.getElem?_eq_getElem hlt
    obtain⟨a1,h3,h4⟩:=Qc2 hown this;obtain rfl:a0=a1:=by injection h3
    exact⟨_,List.getElem?_eq_getElem hlt,h4⟩
   have hyat:∀ i,m≤i→i<b→∃ u,y[i-m]? = some u∧Xo w1 (a0.add (i*8)) (evC u):=by
    intro i h1 h2;have hlt:i-m<y.length:=by omega
    have:(p++x++y++s)[i]? = some y[i-m]:=by
     rw[List.append_assoc,List.getElem?_append_right (by simp;omega),List.getElem?_append_left (by simp;omega)];rw[show i-(p++x).length=i-m by simp;omega]
     exact List.getElem?_eq_getElem hlt
    obtain⟨a1,h3,h4⟩:=Qc2 hown this;obtain rfl:a0=a1:=by injection h3
    exact⟨_,List.getElem?_eq_getElem hlt,h4⟩
   refine Qh Qa (fun(q:Nat×Nat) w'=>s0≤q.1∧q.1≤q.2∧q.2≤r0∧(q.1=s0∨∃ u v,x[q.1-1-a]? = some u∧y[mid+m-q.1-m]? = some v∧Qx v u=false)∧(q.2=r0∨∃ u v,x[q.2-a]? = some u∧y[mid+m-1-q.2-m]? = some v∧Qx v u=true)∧Ext w1 w')
    (fun | (st,r) => [(0,.slice (some a0) L c),(1,.int .i64 a),(2,.int .i64 m),(3,.int .i64 b),(4,Qo3),(18,.int .i64 mid),(19,.int .i64 ((mid+m:Nat):Int)),(22,.int .i64 ((mid+m-1:Nat):Int)),(20,.int .i64 st),(21,.int .i64 r)]) (fun q=>q.2-q.1) (s0,r0)
    ⟨Nat.le_refl _,by simp only;omega,Nat.le_refl _,.inl rfl,.inl rfl,Ext.refl _⟩ Rr ?_
   rintro ⟨st,r⟩ w2 ⟨hs1,hs2,hs3,hs4,hs5,hx2⟩;simp only at hs1 hs2 hs3 hs4 hs5
   conv=>whnf
   constructor
   · intro hlt
     have hlt:st<r:=hd hlt;obtain⟨h,hh⟩:∃ h,h=(st+r)/2:=⟨_,rfl⟩;obtain⟨u,hu,hcu⟩:=hxat h (by omega) (by omega);obtain⟨v,hv,hcv⟩:=hyat (mid+m-1-h) (by omega) (by omega)
     conv=>whnf
     refine⟨((st+r:Nat):Int),Qaq (by omega),Hh ?_⟩;refine⟨((st+r:Nat):Int),Qos (by omega),Hh ?_⟩;refine⟨(h:Int),by rw[hh];exact Qja _,Hh ?_⟩;refine⟨(h:Int),Qor (by omega),Hh ?_⟩;refine Dr .same [0,1,2,3,4,5,6,7,8,9,10] [11,12,13] (Hh ?_);replace hx2:Ext w1 w2.drew:=hx2.drew;generalize w2.drew=w3 at hx2 ⊢;refine⟨((mid+m-1-h:Nat):Int),Qdj (by omega) (by omega),Hh ?_⟩;refine⟨a0,Ix,Hh ?_⟩;refine⟨evC v,⟨rfl,hx2.cells hcv⟩,Hh ?_⟩;refine⟨a0,Ix,Hh ?_⟩;refine⟨evC u,⟨rfl,hx2.cells hcu⟩,Hh ?_⟩;refine(Qbb v u w3).mono ?_;rintro _ w4 ⟨rfl,hx4⟩
     conv=>whnf
     constructor
     · intro hc
       have hc:Qx v u=false:=by rw[← Qbx];simpa using hc
       conv=>whnf
       refine⟨_,wrap_succ (by omega),Hh ?_⟩;refine⟨(h+1,r),by simp only;omega,⟨by simp only;omega,by simp only;omega,hs3,.inr ⟨u,v,by simpa using hu,?_,hc⟩,hs5,hx2.trans hx4⟩,Rr⟩;rw[← hv];congr 1;simp only;omega
     · intro hc
       have hc:Qx v u=true:=by rw[← Qbx];simpa using hc
       conv=>whnf
       exact⟨(st,h),by simp only;omega,⟨hs1,by simp only;omega,by simp only;omega,hs4,.inr ⟨u,v,hu,hv,hc⟩,hx2.trans hx4⟩,Rr⟩
   · intro hge
     have hge:r≤st:=hd' hge;obtain rfl:st=r:=by omega
     obtain⟨en,hen⟩:∃ en,en=mid+m-st:=⟨_,rfl⟩;have hown2:=hown.ext hx2;have hm2:Mod (Blk (some a0)) w1 w2:=Mod.of_ext hx2
     -- the four parts
     have hxd:x=x.take (st-a)++x.drop (st-a):=(List.take_append_drop _ _).symm;have hyd:y=y.take (en-m)++y.drop (en-m):=(List.take_append_drop _ _).symm
     have hq1:∀ u v,(x.take (st-a)).getLast? = some u→(y.drop (en-m)).head? = some v→Qx v u=false:=by
      intro u v h1 h2;rcases hs4 with h | ⟨u',v',hu,hv,hl⟩
      · rcases hsr with⟨e1,e2,e3⟩ | ⟨e1,e2,e3⟩
        · rw[List.drop_of_length_le (by omega)] at h2;simp at h2
        · rw[show st-a=0 by omega] at h1;simp at h1
      · by_cases h0:st-a=0
        · rw[h0] at h1;simp at h1
        · rw[Qlv (by omega) (by rw[← hu];congr 1;omega)] at h1
          rw[head_drop (by rw[← hv];congr 1;omega)] at h2;obtain rfl:u'=u:=by simpa using h1
          obtain rfl:v'=v:=by simpa using h2
          exact hl
     have hq2:∀ u v,(y.take (en-m)).getLast? = some u→(x.drop (st-a)).head? = some v→Qx v u=false:=by
      intro u v h1 h2;rcases hs5 with h | ⟨u',v',hu,hv,hl⟩
      · rcases hsr with⟨e1,e2,e3⟩ | ⟨e1,e2,e3⟩
        · rw[show en-m=0 by omega] at h1;simp at h1
        · rw[List.drop_of_length_le (by omega)] at h2;simp at h2
      · by_cases h0:en-m=0
        · rw[h0] at h1;simp at h1
        · rw[Qlv (by omega) (by rw[← hv];congr 1;omega)] at h1
          rw[head_drop hu] at h2;obtain rfl:v'=u:=by simpa using h1
          obtain rfl:u'=v:=by simpa using h2
          exact Qad.asymm _ _ hl
     have l1:(x.take (st-a)).length=st-a:=by simp;omega
     have l2:(x.drop (st-a)).length=m-st:=by simp;omega
     have l3:(y.take (en-m)).length=mid-st:=by simp;omega
     have l4:(y.drop (en-m)).length=b-en:=by simp;omega
     generalize x.take (st-a)=x1 at hxd hq1 l1;generalize x.drop (st-a)=x2 at hxd hq2 l2;generalize y.take (en-m)=y1 at hyd hq2 l3;generalize y.drop (en-m)=y2 at hyd hq1 l4;clear hs4 hs5 hxat hyat hsr;subst hxd hyd;have hlx:(x1++x2).length=x1.length+x2.length:=List.length_append;have hly:(y1++y2).length=y1.length+y2.length:=List.length_append
     conv=>whnf
     refine⟨(en:Int),wrap_eq (by omega) ⟨by omega,by omega⟩,Hh ?_⟩
     refine Xh Qa (ι:=Unit) (fun _ => [(0,.slice (some a0) L c),(1,.int .i64 a),(2,.int .i64 m),(3,.int .i64 b),(4,Qo3),(18,.int .i64 mid),(20,.int .i64 st),(24,.int .i64 en)])
      (fun _ w'=>Own evC 8 38 base w' (some a0) c (p++x1++y1++x2++y2++s)∧Mod (Blk (some a0)) w1 w') ?_ ?_
     · constructor
       · intro hc
         have hc:(decide ((st:Int)<(m:Int))&&decide ((m:Int)<(en:Int)))=true:=hc;rw[Bool.and_eq_true] at hc;have c1:=hd hc.1;have c2:=hd hc.2
         conv=>whnf
         refine(Qv2 (p++x1) x2 y1 (y2++s) st m en Qo3 (some a0) c base w2 (List.length_pos_iff.1 (by omega)) (List.length_pos_iff.1 (by omega)) (by simp;omega) (by simp;omega) (by simp;omega) L (by simp;omega) hLs (by simpa using hown2)).mono ?_;rintro _ w3 ⟨rfl,hown3,hm3⟩;conv=>whnf
         exact⟨(),⟨by simpa using hown3,hm2.trans hm3⟩,Rr⟩
       · intro hc
         have hc:(decide ((st:Int)<(m:Int))&&decide ((m:Int)<(en:Int)))=false:=hc
         conv=>whnf
         refine⟨(),⟨?_,hm2⟩,Rr⟩
         have:x2 = []∨y1 = []:=by
          rw[← List.length_eq_zero_iff,← List.length_eq_zero_iff];rw[Bool.and_eq_false_iff] at hc;rcases hc with h | h
          · have:=hd' h;omega
          · have:=hd' h;omega
         rcases this with h | h <;> (subst h;simpa using hown2)
     rintro _ w3 ⟨hown3,hm3⟩
     conv=>whnf
     have hsx1:=hsx.left;have hsx2:=hsx.right;have hsy1:=hsy.left;have hsy2:=hsy.right
     refine Xh Qa (ι:=List Ev) (fun _ => [(0,.slice (some a0) L c),(1,.int .i64 a),(2,.int .i64 m),(3,.int .i64 b),(4,Qo3),(18,.int .i64 mid),(20,.int .i64 st),(24,.int .i64 en)])
      (fun z w'=>z.Perm (x1++y1)∧Srt Qx z∧Own evC 8 38 base w' (some a0) c (p++z++x2++y2++s)∧Mod (Blk (some a0)) w1 w') ?_ ?_
     · constructor
       · intro hc
         have hc:(decide ((a:Int)<(st:Int))&&decide ((st:Int)<(mid:Int)))=true:=hc;rw[Bool.and_eq_true] at hc;have c1:=hd hc.1;have c2:=hd hc.2
         conv=>whnf
         refine(ih p x1 y1 (x2++y2++s) a st mid (some a0) c base w3 (by omega) (by omega) (by omega) hsx1 hsy1 ha (by omega) (by omega) L (by simp;omega) hLs (by simpa using hown3)).mono ?_;rintro _ w4 ⟨rfl,z,hz1,hz2,hown4,hm4⟩;conv=>whnf
         exact⟨z,⟨hz1,hz2,by simpa using hown4,hm3.trans hm4⟩,Rr⟩
       · intro hc
         have hc:(decide ((a:Int)<(st:Int))&&decide ((st:Int)<(mid:Int)))=false:=hc
         conv=>whnf
         refine⟨x1++y1,⟨List.Perm.refl _,?_,by simpa using hown3,hm3⟩,Rr⟩
         have:x1 = []∨y1 = []:=by
          rw[← List.length_eq_zero_iff,← List.length_eq_zero_iff];rw[Bool.and_eq_false_iff] at hc;rcases hc with h | h
          · have:=hd' h;omega
          · have:=hd' h;omega
         rcases this with h | h
         · subst h;simpa using hsy1
         · subst h;simpa using hsx1
     rintro z1 w4 ⟨hp1,hs1',hown4,hm4⟩;have hz1:=hp1.length_eq;simp only[List.length_append] at hz1
     conv=>whnf
     constructor
     · intro hc
       have hc:(decide ((mid:Int)<(en:Int))&&decide ((en:Int)<(b:Int)))=true:=hc;rw[Bool.and_eq_true] at hc;have c1:=hd hc.1;have c2:=hd hc.2
       conv=>whnf
       refine(ih (p++z1) x2 y2 s mid en b (some a0) c base w4 (by omega) (by omega) (by omega) hsx2 hsy2 (by simp;omega) (by simp;omega) (by simp;omega) L (by simp;omega) hLs (by simpa using hown4)).mono ?_;rintro _ w5 ⟨rfl,z2,hp2,hs2',hown5,hm5⟩;conv=>whnf
       obtain⟨k1,k2⟩:=Qtg Qad hsx hsy hq1 hq2 hp1 hp2 hs1' hs2'
       exact⟨rfl,z1++z2,k2,k1,by simpa using hown5,hm4.trans hm5⟩
     · intro hc
       have hc:(decide ((mid:Int)<(en:Int))&&decide ((en:Int)<(b:Int)))=false:=hc
       conv=>whnf
       have:Srt Qx (x2++y2):=by
        have:x2 = []∨y2 = []:=by
         rw[← List.length_eq_zero_iff,← List.length_eq_zero_iff];rw[Bool.and_eq_false_iff] at hc;rcases hc with h | h
         · have:=hd' h;omega
         · have:=hd' h;omega
        rcases this with h | h
        · subst h;simpa using hsy2
        · subst h;simpa using hsx2
       obtain⟨k1,k2⟩:=Qtg Qad hsx hsy hq1 hq2 hp1 (List.Perm.refl _) hs1' this
       exact⟨rfl,z1++(x2++y2),k2,k1,by simpa using hown4,hm4⟩
section
variable {α:Type} {lt:α→α→Bool}
inductive Qw2 (lt:α→α→Bool) (bs:Nat):List α→Prop
 | last (r:List α):r.length≤bs→Srt lt r→Qw2 lt bs r
 | cons (r t:List α):r.length=bs→Srt lt r→Qw2 lt bs t→Qw2 lt bs (r++t)
def Full (lt:α→α→Bool) (bs:Nat) (z:List α):Prop:=∃ L:List (List α),z=L.flatten∧∀ r∈L,r.length=bs∧Srt lt r
theorem Full.nil (bs:Nat):Full lt bs ([]:List α):=⟨[],rfl,by simp⟩
theorem Full.snoc {bs:Nat} {z r:List α} (h:Full lt bs z) (hr:r.length=bs) (hs:Srt lt r):Full lt bs (z++r):=by
 obtain⟨L,rfl,hL⟩:=h;refine⟨L ++ [r],by simp,fun x hx => ?_⟩;rcases List.mem_append.1 hx with hx | hx
 · exact hL x hx
 · simp at hx;subst hx;exact⟨hr,hs⟩
theorem Full.runs {bs:Nat} {z t:List α} (h:Full lt bs z) (ht:Qw2 lt bs t):Qw2 lt bs (z++t):=by
 obtain⟨L,rfl,hL⟩:=h
 induction L with
 | nil=>simpa using ht
 | cons r L ih =>
   simp only[List.flatten_cons,List.append_assoc]
   exact .cons _ _ (hL r (by simp)).1 (hL r (by simp)).2 (ih fun x hx=>hL x (by simp[hx]))
theorem Qql {bs:Nat} {d:List α} (h:Qw2 lt bs d) (hl:d.length≤bs):Srt lt d:=by
 induction h with
 | last r _ hs=>exact hs
 | cons r t hr hs ht ih =>
   have:t = []:=by rw[← List.length_eq_zero_iff];simp at hl;omega
   subst this;simpa using hs
theorem Qqk {bs:Nat} {d:List α} (h:Qw2 lt bs d) (hl:bs<d.length):∃ r t,d=r++t∧r.length=bs∧Srt lt r∧Qw2 lt bs t:=by
 cases h with
 | last _ h1 _=>omega
 | cons r t hr hs ht=>exact⟨r,t,rfl,hr,hs,ht⟩
theorem Q5i {bs:Nat} {d:List α} (h:Qw2 lt bs d) (hl:bs≤d.length):∃ r t,d=r++t∧r.length=bs∧Srt lt r∧Qw2 lt bs t:=by
 rcases Nat.lt_or_eq_of_le hl with hl | hl
 · exact Qqk h hl
 · exact⟨d,[],by simp,hl.symm,Qql h (by omega),.last _ (by simp) Srt.nil⟩
end
set_option maxHeartbeats 4000000 in
theorem Qwn (x:List Ev) (A:Option Addr) (c base:Nat) (w:World) (n:Nat) (hn:x.length=n) (hLs:n<100000000000)
 (hown:Own evC 8 38 base w A c x) :
 Cal Tryz.prog 156 [.slice A n c,.int .i64 n,Qo3] w fun r w'=>r = .tuple #[]∧∃ z,z.Perm x∧Srt Qx z∧Own evC 8 38 base w' A c z∧Mod (Blk A) w w':=by
 have hd:∀ {m n:Nat},decide ((m:Int)<(n:Int))=true→m<n:=fun h=>by simpa using h
 have hd':∀ {m n:Nat},decide ((m:Int)<(n:Int))=false→n≤m:=fun h=>by simpa using h
 have hl:∀ {m n:Nat},decide ((m:Int)≤(n:Int))=true→m≤n:=fun h=>by simpa using h
 have hl':∀ {m n:Nat},decide ((m:Int)≤(n:Int))=false→n<m:=fun h=>by simpa using h
 refine Fi Tryz.func156 rfl _ rfl rfl (Hh ?_)
 refine Qh Qa (fun(q:List Ev×List Ev) w'=>Full Qx 20 q.1∧(q.1++q.2).Perm x∧q.1.length+q.2.length=n∧Own evC 8 38 base w' A c (q.1++q.2)∧Mod (Blk A) w w')
  (fun | (z,_) => [(0,.slice A n c),(1,.int .i64 n),(2,Qo3),(6,.int .i64 20),(7,.int .i64 (z.length:Nat)),(8,.int .i64 ((z.length+20:Nat):Int))]) (fun q=>q.2.length) ([],x)
  ⟨Full.nil _,List.Perm.refl _,by simpa using hn,by simpa using hown,Mod.refl _ _⟩ Rr ?_
 rintro ⟨z,t⟩ w1 ⟨hf,hp,hlen,hown1,hm1⟩;simp only at hp hlen hown1
 conv=>whnf
 constructor
 · intro hle
   have hle:=hl hle;obtain⟨r,t',ht,hr⟩:∃ r t',t=r++t'∧r.length=20:=⟨t.take 20,t.drop 20,by simp,by simp;omega⟩;have hlt:t.length=r.length+t'.length:=by rw[ht];simp
   conv=>whnf
   refine(Qg5 z r t' z.length (z.length+20) A c base w1 rfl (by omega) n (by omega) (by omega) (by rw[ht] at hown1;simpa using hown1)).mono ?_;rintro _ w2 ⟨rfl,r',hrp,hrs,hown2,hm2⟩;conv=>whnf
   have hrl:=hrp.length_eq;refine⟨((z.length+20+20:Nat):Int),Qaq (by omega),Hh ?_⟩;refine⟨(z++r',t'),by simp only;omega,⟨hf.snoc (by omega) hrs,?_,by simp only[List.length_append];omega,hown2,hm1.trans hm2⟩,⟨rfl,rfl,rfl,rfl,int_eq (by rw[List.length_append];omega),int_eq (by rw[List.length_append];omega),trivial⟩⟩;refine List.Perm.trans ?_ hp;rw[ht];simp only;rw[List.append_assoc]
   exact List.Perm.append_left z (hrp.append_right t')
 intro hgt;have hgt:=hl' hgt
 conv=>whnf
 refine(Qg5 z t [] z.length n A c base w1 rfl (by omega) n (by simp;omega) (by omega) (by simpa using hown1)).mono ?_;rintro _ w2 ⟨rfl,r',hrp,hrs,hown2,hm2⟩;have hrl:=hrp.length_eq;have hruns:Qw2 Qx 20 (z++r'):=hf.runs (.last _ (by omega) hrs);have hpm:(z++r').Perm x:=(List.Perm.append_left z hrp).trans hp;have hln:(z++r').length=n:=by simp;omega
 have hown2':Own evC 8 38 base w2 A c (z++r'):=by simpa using hown2
 conv=>whnf
 refine Qh Qa (fun(q:Nat×List Ev) w'=>0<q.1∧q.1<2*n+40∧Qw2 Qx q.1 q.2∧q.2.Perm x∧q.2.length=n∧Own evC 8 38 base w' A c q.2∧Mod (Blk A) w w')
  (fun | (bs,_) => [(0,.slice A n c),(1,.int .i64 n),(2,Qo3),(6,.int .i64 (bs:Nat))]) (fun q=>n-q.1) (20,z++r')
  ⟨by simp,by simp only;omega,hruns,hpm,hln,hown2',hm1.trans hm2⟩ Rr ?_
 clear hruns hpm hln hown2' hown2 hrp hrs hrl hf hp hlen hown1 hgt;rintro ⟨bs,d⟩ w3 ⟨hbs,hbs2,hruns,hpm,hln,hown3,hm3⟩;simp only at hbs hbs2 hruns hpm hln hown3
 conv=>whnf
 constructor
 · intro hlt
   have hlt:=hd hlt
   conv=>whnf
   refine⟨((2*bs:Nat):Int),wrap_eq (by omega) ⟨by omega,by omega⟩,Hh ?_⟩
   refine Qh Qa (fun(q:List Ev×List Ev) w'=>Full Qx (2*bs) q.1∧Qw2 Qx bs q.2∧(q.1++q.2).Perm x∧q.1.length+q.2.length=n∧Own evC 8 38 base w' A c (q.1++q.2)∧Mod (Blk A) w w')
    (fun | (z,_) => [(0,.slice A n c),(1,.int .i64 n),(2,Qo3),(6,.int .i64 (bs:Nat)),(7,.int .i64 (z.length:Nat)),(8,.int .i64 ((z.length+2*bs:Nat):Int))]) (fun q=>q.2.length) ([],d)
    ⟨Full.nil _,hruns,by simpa using hpm,by simpa using hln,by simpa using hown3,hm3⟩ ⟨rfl,rfl,rfl,rfl,rfl,int_eq (by simp),trivial⟩ ?_
   rintro ⟨z,t⟩ w4 ⟨hf,hrt,hp,hlen,hown4,hm4⟩;simp only at hrt hp hlen hown4
   conv=>whnf
   constructor
   · intro hle
     have hle:=hl hle;obtain⟨r1,t1,ht1,hr1,hs1,hrt1⟩:=Qqk hrt (by omega);have hlt1:t.length=r1.length+t1.length:=by rw[ht1];simp
     obtain⟨r2,t2,ht2,hr2,hs2,hrt2⟩:=Q5i hrt1 (by omega);have hlt2:t1.length=r2.length+t2.length:=by rw[ht2];simp
     conv=>whnf
     refine⟨((z.length+bs:Nat):Int),Qaq (by omega),Hh ?_⟩;refine(Qis _ z r1 r2 t2 z.length (z.length+bs) (z.length+2*bs) A c base w4 (Nat.le_refl _) (by omega) (by omega) hs1 hs2 rfl (by omega) (by omega) n (by omega) (by omega) (by rw[ht1,ht2] at hown4;simpa using hown4)).mono ?_;rintro _ w5 ⟨rfl,r',hrp,hrs,hown5,hm5⟩;have hrl:=hrp.length_eq;simp only[List.length_append] at hrl
     conv=>whnf
     refine⟨((2*bs:Nat):Int),wrap_eq (by omega) ⟨by omega,by omega⟩,Hh ?_⟩;refine⟨((z.length+2*bs+2*bs:Nat):Int),Qaq (by omega),Hh ?_⟩;refine⟨(z++r',t2),by simp only;omega,⟨hf.snoc (by omega) hrs,hrt2,?_,by simp only[List.length_append];omega,hown5,hm4.trans hm5⟩,⟨rfl,rfl,rfl,rfl,int_eq (by rw[List.length_append];omega),int_eq (by rw[List.length_append];omega),trivial⟩⟩;refine List.Perm.trans ?_ hp;rw[ht1,ht2];simp only;rw[List.append_assoc,← List.append_assoc r1]
     exact List.Perm.append_left z (hrp.append_right t2)
   intro hgt;have hgt:=hl' hgt
   conv=>whnf
   refine Xh Qa (ι:=List Ev) (fun _ => [(0,.slice A n c),(1,.int .i64 n),(2,Qo3),(6,.int .i64 (bs:Nat))])
    (fun d' w'=>Qw2 Qx (2*bs) d'∧d'.Perm x∧d'.length=n∧Own evC 8 38 base w' A c d'∧Mod (Blk A) w w') ?_ ?_
   · (conv=>whnf)
     refine⟨((z.length+bs:Nat):Int),Qaq (by omega),Hh ?_⟩;constructor
     · intro hlt2
       have hlt2:=hd hlt2;obtain⟨r1,t1,ht1,hr1,hs1,hrt1⟩:=Qqk hrt (by omega);have hlt1:t.length=r1.length+t1.length:=by rw[ht1];simp
       have hs2:=Qql hrt1 (by omega)
       conv=>whnf
       refine(Qis _ z r1 t1 [] z.length (z.length+bs) n A c base w4 (Nat.le_refl _) (by omega) (by omega) hs1 hs2 rfl (by omega) (by omega) n (by simp;omega) (by omega) (by rw[ht1] at hown4;simpa using hown4)).mono ?_;rintro _ w5 ⟨rfl,r',hrp,hrs,hown5,hm5⟩;have hrl:=hrp.length_eq;simp only[List.length_append] at hrl
       conv=>whnf
       refine⟨z++r',⟨hf.runs (.last _ (by omega) hrs),?_,by simp;omega,by simpa using hown5,hm4.trans hm5⟩,Rr⟩;refine List.Perm.trans (List.Perm.append_left z hrp) ?_;rw[← ht1];exact hp
     · intro hge
       have hge:=hd' hge
       conv=>whnf
       exact⟨z++t,⟨hf.runs (.last _ (by omega) (Qql hrt (by omega))),hp,by simp;omega,hown4,hm4⟩,Rr⟩
   rintro d' w5 ⟨hr5,hp5,hl5,hown5,hm5⟩
   conv=>whnf
   refine⟨((2*bs:Nat):Int),wrap_eq (by omega) ⟨by omega,by omega⟩,Hh ?_⟩
   exact⟨(2*bs,d'),by simp only;omega,⟨by simp only;omega,by simp only;omega,hr5,hp5,hl5,hown5,hm5⟩,Rr⟩
 · intro hge
   have hge:=hd' hge
   conv=>whnf
   exact⟨rfl,d,hpm,Qql hruns (by omega),hown3,hm3⟩
theorem Qmn (x:List Ev) (A:Option Addr) (c base:Nat) (w:World) (n:Nat) (hn:x.length=n) (hLs:n<100000000000)
 (hown:Own evC 8 38 base w A c x) :
 Cal Tryz.prog 96 [.slice A n c,Qo3] w fun r w'=>r = .tuple #[]∧∃ z,z.Perm x∧Srt Qx z∧Own evC 8 38 base w' A c z∧Mod (Blk A) w w':=by
 refine Fi Tryz.func96 rfl _ rfl rfl (Hh ?_);refine(Qwn x A c base w n hn hLs hown).mono ?_;rintro _ w1 ⟨rfl,h⟩;conv=>whnf
 exact⟨rfl,h⟩
section
variable {P:Program}
theorem Xu {t e:TypeId} (h:P.underlying t=some (.slice e)) (A:Option Addr) (n c:Nat) (ox oy:Operand):Qq1 P t ox oy (.slice A n c) (.slice none 0 0) A.isNone:=by
 intro w;have h1:=run_equal_slice_nil (P:=P) w t e A n c h;constructor
 · simp[eqGuard,binOp,h1]
 · simp[eqGuard,binOp,h1]
theorem Qai {t k e:TypeId} (h:P.underlying t=some (.map k e)) (m:Option Nat) (ox oy:Operand):Qq1 P t ox oy (.map m) (.map none) m.isNone:=by
 intro w;have h1:=run_equal_map_nil (P:=P) w t k e m h;constructor
 · simp[eqGuard,binOp,h1]
 · simp[eqGuard,binOp,h1]
end
theorem Qys:Tryz.prog.underlying 23=some (.slice 38):=by kernel_rfl
theorem Qgl {w:World} {A:Option Addr} {c base:Nat} {l:List Ev} {R:Value→World→Prop} {ty:TypeId} (hown:Own evC 8 38 base w A c l) {B:Option Addr} {cB:Nat} {news:List Ev} (hs:SlE w B news) (hl:l.length+news.length<1000000000000) (hbase:base≤w.heap.size)
 (h:∀ A' c' w',Own evC 8 38 base w' A' c' (l++news)→w.grownBy w' (A.map (·.block))→(A'=A∨A'.map (·.block)=A.map (·.block)∨A'.map (·.block)=some w.heap.size)→R (.slice A' (l++news).length c') w') :
 Qhr Tryz.prog (Builtin.append_ #[23,23] ty [.slice A l.length c,.slice B news.length cB].toArray) w R :=
 Qdk (bytes:=96) ty38_ok Qys by38 rfl rfl (by decide) Xz Qbo hown hs (by omega) (by omega) hbase h
theorem Q9f {w:World} {A:Option Addr} {c base:Nat} {l:List Ev} (h:Own evC 8 38 base w A c l):∀ k,A.map (·.block)=some k→base≤k:=by
 intro k hk
 cases A with
 | none=>simp at hk
 | some a=>have:=h.block (a:=a) rfl;simp at hk;omega
theorem Qza (x:List Ev) (A:Option Addr) (c:Nat) (w:World) (hs:SlE w A x) (hl:x.length<1000000000000) :
 Cal Tryz.prog 28 [.slice A x.length c] w fun r w'=>∃ A' c',r = .slice A' x.length c'∧Own evC 8 38 w.heap.size w' A' c' x∧Ext w w':=by
 refine Fi Tryz.func28 rfl _ rfl rfl (Hh ?_);refine⟨_,Xu Qys A _ _ _ _,Hh ?_⟩;constructor
 · intro h
   obtain rfl:A=none:=by simpa using h
   have hx:x = []:=by
    cases x with
    | nil=>rfl
    | cons e x=>obtain⟨a,ha,_⟩:=hs 0 e rfl;cases ha
   subst hx
   conv=>whnf
   exact⟨none,0,rfl,Own.nil,Ext.refl _⟩
 · intro h
   conv=>whnf
   intro b1 w1 hn1;conv=>whnf
   refine Qgl (l := []) (base:=w.heap.size) (Own.made hn1 (Nat.le_refl _)) (hs.ext hn1.ext) (by simpa using hl) hn1.ext.size ?_;intro A' c' w' hown hg hA
   conv=>whnf
   refine⟨A',c',by simp,by simpa using hown,Qr hn1.ext hg fun k hk => ?_⟩;have:k=b1:=by simpa using hk.symm
   rw[this,hn1.block];exact Nat.le_refl _
theorem Q2u (A:Option Addr) (n c:Nat) (w:World) (h:n≤c) :
 Cal Tryz.prog 97 [.slice A n c] w fun r w'=>r = .slice A n n∧w'=w:=by
 refine Fi Tryz.func97 rfl _ rfl rfl (Hh ?_);refine⟨⟨by simp,by omega,by omega,by omega⟩,Hh ?_⟩;refine⟨?_,rfl⟩
 cases A <;> simp[Addr.add]
theorem Qzs {w w1 w2:World} {A:Option Addr} (hx:Ext w w1) (hm:Mod (Blk A) w1 w2) (h:∀ a,A=some a→w.heap.size≤a.block):Ext w w2 :=
 Qfc hx hm fun k hk=>by obtain⟨a,ha,rfl⟩:=hk;exact h a ha
structure Gl (w:World):Prop where
 maxLen:∃ m,w.cell? ⟨2,0,none⟩=some (.int .i64 m)
 pow10 : Lib.TabIs Tryz.prog w "internal/strconv.uint64pow10" .u64 Lib.pow10Tab
 kinds:Xo w ⟨1,0,none⟩ (kindNames.map Value.string)
 size:10≤w.heap.size
theorem Xeg : Tryz.prog.globalNamed "internal/strconv.uint64pow10" = some 3 := by kernel_rfl
theorem Gl.keep {w w':World} (h:Gl w) (hk:∀ k,k<10→w'.heap[k]? = w.heap[k]?) (hs:w.heap.size≤w'.heap.size):Gl w' where
 maxLen:=by obtain⟨m,hm⟩:=h.maxLen;exact⟨m,by rw[World.cell?_of_block (w:=w) (hk _ (by decide))];exact hm⟩
 pow10:=by
  have:=h.pow10;unfold Lib.TabIs World.var? at this ⊢;rw[Xeg] at this ⊢;simp only[Option.bind_some] at this ⊢;rw[hk _ (by decide)];exact this
 kinds:=fun j v hj=>by
  rw[World.cell?_of_block (w:=w) (hk _ (by rw[add_block];decide))];exact h.kinds j v hj
 size:=Nat.le_trans h.size hs
theorem Gl.ext {w w':World} (h:Gl w) (hx:Ext w w'):Gl w':=h.keep (fun k hk=>hx.block k (Nat.lt_of_lt_of_le hk h.size)) hx.size
theorem Gl.mod {w w':World} {S:Nat→Prop} (h:Gl w) (hx:Mod S w w') (hs:∀ k,S k→10≤k):Gl w' :=
 h.keep (fun k hk=>hx.block k (Nat.lt_of_lt_of_le hk h.size) (fun q=>by have:=hs k q;omega)) hx.size
theorem Gl.only {w w':World} {b:Nat} (h:Gl w) (hx:Only w w' b) (hb:10≤b):Gl w':=h.keep (fun k hk=>hx.block k (by omega)) (by rw[hx.size];exact Nat.le_refl _)
theorem Qrx (w:World) (n:Nat):Ext w (w.drewN n):=⟨rfl,rfl,rfl,Nat.le_refl _,fun _ _=>rfl⟩
theorem Qfb (w:World) (os:Array Obj):Ext w (Go.Sort.grow w os):=by
 refine⟨rfl,rfl,rfl,by simp[Go.Sort.grow],fun k hk => ?_⟩;simp only[Go.Sort.grow];rw[Array.getElem?_append_left hk]
theorem Qu9 (c:UInt8):∀ l:List UInt8,Lib.indexByte l c=match l.findIdx? (· == c) with | some i=>(i:Int) | none => -1
 | []=>rfl
 | b :: l=>by
   unfold Lib.indexByte;rw[Qu9 c l,List.findIdx?_cons]
   cases hb:(b == c) with
   | true=>simp
   | false =>
     simp only[Bool.false_eq_true,if_false]
     cases l.findIdx? (· == c) with
     | none=>simp
     | some i=>simp
theorem Xat (s:ByteArray):Lib.index s.data.toList [59]=Q9a s:=by
 rw[Lib.index_one,Qu9];rfl
def Qau (s:ByteArray):ByteArray:=match Qci s with | some i=>s.extract (i+1) s.size | none=>⟨#[]⟩
theorem Xcv:Qt2 Tryz.prog 94:=⟨_,Tryz.func94,rfl,rfl⟩
theorem Qkr (s:ByteArray) (w:World) (hg:Gl w) (hs:s.size<4000000000) :
 Cal Tryz.prog 94 [.string s,.string ⟨#[59]⟩] w fun r w'=>r = .tuple #[.string (Qb3 s),.string (Qau s),.bool (Qci s).isSome]∧Ext w w':=by
 obtain⟨m,hm⟩:=hg.maxLen;refine Qa3 Xcv (Tryz.strings_Cut s ⟨#[59]⟩ m w (by omega) hm) ?_;rintro w' ⟨n,rfl⟩;refine⟨?_,Qrx w n⟩
 have h1:Lib.cut s.data.toList [59]=((Qb3 s).data.toList,(Qau s).data.toList,(Qci s).isSome):=by
  unfold Lib.cut;rw[Xat];unfold Q9a Qb3 Qau
  cases hp:Qci s with
  | none=>simp
  | some i =>
    have:=Qmf hp;simp only[Int.natCast_nonneg,if_true,Int.toNat_natCast,Option.isSome_some,Qea];have hl:s.data.toList.length=s.size:=by simp
    simp only[List.drop_zero,Nat.sub_zero,List.length_cons,List.length_nil,Nat.zero_add];rw[List.take_of_length_le (l:=s.data.toList.drop (i+1)) (by simp)]
 show Value.tuple #[.string ⟨(Lib.cut s.data.toList [59]).1.toArray⟩,.string ⟨(Lib.cut s.data.toList [59]).2.1.toArray⟩,.bool (Lib.cut s.data.toList [59]).2.2]=_
 rw[h1]
theorem Qst {c:UInt8}:∀ {a b:List UInt8},(∀ x∈a,x≠c)→partsOf c (a++c :: b)=a :: partsOf c b
 | [],b,_=>by simp[partsOf]
 | x :: a,b,h=>by
   simp only[List.cons_append,partsOf];rw[if_neg (h x (by simp)),Qst (a:=a) (fun y hy=>h y (by simp[hy]))]
theorem Qmp:∀ (n:Nat) (s:ByteArray),s.size≤n→Lib.splitB ⟨#[44]⟩ 0 (Lib.countB s ⟨#[44]⟩) s=Qce 44 s:=by
 intro n
 induction n with
 | zero =>
   intro s hs;have:s.data.toList = []:=List.length_eq_zero_iff.1 (by simpa using hs)
   have hi:Lib.indexB s ⟨#[44]⟩ = -1:=by
    show Lib.index s.data.toList [44] = -1
    rw[this];rfl
   rw[Lib.splitB_miss _ _ _ _ hi];unfold Qce;rw[this]
   simp[partsOf,bytesOf]
   apply ByteArray.ext
   apply Array.ext'
   simpa using this
 | succ n ih =>
   intro s hs
   have hix:Lib.indexB s ⟨#[44]⟩=match s.data.toList.findIdx? (· == 44) with | some i=>(i:Int) | none => -1:=by
    show Lib.index s.data.toList [44]=_
    rw[Lib.index_one,Qu9]
   cases hf:s.data.toList.findIdx? (· == 44) with
   | none =>
     rw[hf] at hix;rw[Lib.splitB_miss _ _ _ _ hix];unfold Qce;rw[Qn8 (fun x hx=>by rw[List.findIdx?_eq_none_iff] at hf;have:=hf x hx;simpa using this)]
     rfl
   | some i =>
     rw[hf] at hix;simp only at hix;rw[List.findIdx?_eq_some_iff_getElem] at hf;obtain⟨hi,hc,hall⟩:=hf;have hi':i<s.size:=by simpa using hi
     have hsz1:(⟨#[44]⟩:ByteArray).size=1:=rfl;rw[Lib.countB_hit s _ i (by decide) hix,Nat.add_comm,Lib.splitB_hit _ _ _ _ _ hix,hsz1,ih _ (by rw[ByteArray.size_extract];omega)]
     have hdec:s.data.toList=s.data.toList.take i++44 :: s.data.toList.drop (i+1):=by
      have h44:s.data.toList[i]=44:=by simpa using hc
      rw[← h44]
      exact Qtp hi
     unfold Qce
     conv=>rhs;rw[hdec]
     rw[Qst (fun x hx=>by
      obtain⟨j,hj,rfl⟩:=List.getElem_of_mem hx
      simp at hj
      have:=hall j (by omega)
      simpa using this)]
     rw[List.map_cons]
     congr 1
     · rw[Qh7];simp
     · rw[Qea]
       rw[List.take_of_length_le (by simp)]
theorem Qks (l:List ByteArray):l.flatMap Qav=l.map Value.string:=by
 induction l with
 | nil=>rfl
 | cons x l ih=>rw[List.flatMap_cons,ih];rfl
theorem Qx4:Qt2 Tryz.prog 134:=⟨_,Tryz.func134,rfl,rfl⟩
theorem Q1a (s:ByteArray) (w:World) (hg:Gl w) (hs:s.size<4000000000) :
 Cal Tryz.prog 134 [.string s,.string ⟨#[44]⟩] w fun r w'=>∃ A c,r = .slice A (Qce 44 s).length c∧SlT w' A (Qce 44 s)∧Ext w w':=by
 obtain⟨m,hm⟩:=hg.maxLen;refine Qa3 Qx4 (Tryz.strings_Split s ⟨#[44]⟩ m w (by omega) hm (by decide)) ?_;rintro w' rfl;have hlen:=Lib.splitB_all ⟨#[44]⟩ (by decide) 0 _ s rfl;have hsp:=Qmp s.size s (Nat.le_refl _);rw[hsp] at hlen;have hn:New w (w.alloc (.cells ((Qce 44 s).flatMap Qav).toArray 9)) w.heap.size (.cells ((Qce 44 s).flatMap Qav).toArray 9):=⟨rfl,rfl⟩;refine⟨some ⟨w.heap.size,0,none⟩,Lib.countB s ⟨#[44]⟩+1,by rw[hlen],?_,?_⟩
 · rw[hsp,← Qks];exact Qbd Xi hn
 · rw[hsp,← Qks];exact hn.ext
theorem Qdy (s:ByteArray):Xf s=if Qau s=⟨#[]⟩ then [] else Qce 44 (Qau s):=by
 unfold Xf Qau
 cases hp:Qci s with
 | none=>simp
 | some i =>
   have:=Qmf hp;simp only
   by_cases h:i+1=s.size
   · have:s.extract (i+1) s.size=⟨#[]⟩:=by
      rw[Qh7,h];simp[bytesOf]
     rw[if_pos h,if_pos this]
   · have:s.extract (i+1) s.size≠⟨#[]⟩:=fun e=>by
      have:=congrArg ByteArray.size e;rw[ByteArray.size_extract] at this;have h0:(⟨#[]⟩:ByteArray).size=0:=rfl;omega
     rw[if_neg h,if_neg this]
theorem Qzq (s:ByteArray) (w:World) (hg:Gl w) (hs:s.size<4000000000) :
 Cal Tryz.prog 95 [.string s] w fun r w'=>∃ A c,r = .slice A (Xf s).length c∧SlT w' A (Xf s)∧Ext w w':=by
 have hrs:(Qau s).size≤s.size:=by
  unfold Qau
  split
  · rw[ByteArray.size_extract];omega
  · exact Nat.zero_le _
 refine Fi Tryz.func95 rfl _ rfl rfl (Hh ?_);refine(Qkr s w hg hs).mono ?_;rintro _ w1 ⟨rfl,hx1⟩;conv=>whnf
 constructor
 · intro h
   have h:Qau s=⟨#[]⟩:=by simpa using h
   conv=>whnf
   have ht:Xf s = []:=by rw[Qdy,if_pos h]
   exact⟨none,0,by rw[ht];rfl,by rw[ht];exact Sl.nil,hx1⟩
 · intro h
   have h:¬ Qau s=⟨#[]⟩:=by simpa using h
   conv=>whnf
   refine(Q1a (Qau s) w1 (hg.ext hx1) (by omega)).mono ?_;rintro _ w2 ⟨A,c,rfl,hsl,hx2⟩;conv=>whnf
   have ht:Xf s=Qce 44 (Qau s):=by rw[Qdy,if_neg h]
   exact⟨A,c,by rw[ht],by rw[ht];exact hsl,hx1.trans hx2⟩
theorem Qbi (s:ByteArray) (w:World):Cal Tryz.prog 40 [.string s] w fun r w'=>r = .bool (Qn s)∧w'=w:=by
 refine Fi Tryz.func40 rfl _ rfl rfl (Hh ?_);constructor
 · intro h
   have h:(decide ((s.size:Int)<1)||decide ((24:Int)<s.size))=true:=h
   conv=>whnf
   refine⟨?_,rfl⟩
   have:Qn s=false:=by
    unfold Qn;simp only[Bool.or_eq_true,decide_eq_true_eq] at h;rcases h with h | h
    · have:decide (1≤s.size)=false:=decide_eq_false (by omega)
      rw[this];rfl
    · have:decide (s.size≤24)=false:=decide_eq_false (by omega)
      rw[this];simp
   rw[this]
 · intro h
   have h:(decide ((s.size:Int)<1)||decide ((24:Int)<s.size))=false:=h;simp only[Bool.or_eq_false_iff,decide_eq_false_iff_not] at h
   conv=>whnf
   have hlen:s.data.toList.length=s.size:=by simp
   refine Qh Qa (fun(k:Nat) w'=>k≤s.size∧w'=w∧∀ i (hi:i<s.data.toList.length),i<k→Ql4 s.data.toList[i]=true)
    (fun k => [(0,.string s),(14,.int .i64 s.size),(15,.int .i64 k)]) (fun k=>s.size-k) 0 ⟨by omega,rfl,fun i _ h=>by omega⟩ Rr ?_
   rintro k w1 ⟨hk,rfl,hall⟩
   conv=>whnf
   constructor
   · intro hlt
     have hlt:k<s.size:=by simpa using hlt
     conv=>whnf
     refine⟨s.data.toList[k]'(by omega),⟨by omega,bytes_at s k hlt⟩,Hh ?_⟩;have hch:∀ c:UInt8,(((decide ((97:Int)≤c.toNat)&&decide ((c.toNat:Int)≤122))||(decide ((48:Int)≤c.toNat)&&decide ((c.toNat:Int)≤57)))||decide ((c.toNat:Int)=45))=Ql4 c:=fun c=>rfl
     constructor
     · intro hb
       have hb:Ql4 (s.data.toList[k]'(by omega))=false:=by
        rw[← hch];simpa only[Bool.not_eq_true'] using hb
       conv=>whnf
       refine⟨?_,rfl⟩
       have:Qn s=false:=by
        unfold Qn;have:s.data.toList.all Ql4=false:=Q9x (by omega) hb;rw[this];simp
       rw[this]
     · intro hb
       have hb:Ql4 (s.data.toList[k]'(by omega))=true:=by
        rw[← hch];simpa only[Bool.not_eq_false'] using hb
       conv=>whnf
       refine⟨_,wrap_succ (by omega),Hh ?_⟩;refine⟨k+1,by omega,⟨by omega,rfl,fun i hi hik => ?_⟩,Rr⟩
       by_cases e:i=k
       · subst e;exact hb
       · exact hall i hi (by omega)
   · intro hge
     have hge:s.size≤k:=by simpa using hge
     conv=>whnf
     refine⟨?_,rfl⟩
     have:Qn s=true:=by
      unfold Qn;have h3:s.data.toList.all Ql4=true:=Q6w hall (by omega);rw[h3]
      simp
      omega
     rw[this]
theorem Qsj (s:ByteArray) (w:World) (hg:Gl w) (hs:s.size<4000000000) :
 Cal Tryz.prog 52 [.string s] w fun r w'=>r = .bool (Qcc s)∧Ext w w':=by
 refine Fi Tryz.func52 rfl _ rfl rfl (Hh ?_);refine(Qkr s w hg hs).mono ?_;rintro _ w1 ⟨rfl,hx1⟩;conv=>whnf
 refine⟨Unit,fun _ => .bool (Qn (Qb3 s)),fun _ w'=>w'=w1,(),fun _=>(Qbi (Qb3 s) w1).mono fun r w' h=>⟨(),h.1,h.2⟩,?_⟩;intro _ w2 h2
 obtain rfl:w2=w1:=by
  rcases h2 with⟨_,h⟩ | ⟨_,h⟩ <;> exact h
 clear h2
 conv=>whnf
 constructor
 · intro h
   have h:((!(Qci s).isSome) || !Qn (Qb3 s))=true:=h
   conv=>whnf
   refine⟨?_,hx1⟩
   have:Qcc s=false:=by
    unfold Qcc
    revert h
    cases (Qci s).isSome <;> cases Qn (Qb3 s) <;> simp
   rw[this]
 · intro h
   have h:((!(Qci s).isSome) || !Qn (Qb3 s))=false:=h
   have hl:Qcc s=(Qgh (Xf s)&&decide ((Xf s).length≤8)):=by
    unfold Qcc
    revert h
    cases (Qci s).isSome <;> cases Qn (Qb3 s) <;> simp
   conv=>whnf
   refine(Qzq s w2 (hg.ext hx1) hs).mono ?_;rintro _ w3 ⟨A',c',rfl,hsl,hx3⟩;conv=>whnf
   have htl:=Qyl s;constructor
   · intro h8
     have h8:8<(Xf s).length:=by simp at h8;omega
     conv=>whnf
     refine⟨?_,hx1.trans hx3⟩;have:decide ((Xf s).length≤8)=false:=decide_eq_false (by omega);rw[hl,this,Bool.and_false]
   · intro h8
     have h8:(Xf s).length≤8:=by simp at h8;omega
     have hl8:Qcc s=Qgh (Xf s):=by
      rw[hl,decide_eq_true h8,Bool.and_true]
     conv=>whnf
     refine Qh Qa (fun(k:Nat) w'=>k≤(Xf s).length∧Ext w3 w'∧∀ i,i<k→Qtn (Xf s) i=true)
      (fun k => [(6,.slice A' (Xf s).length c'),(27,.slice A' (Xf s).length c'),(28,.int .i64 (Xf s).length),(29,.int .i64 k)]) (fun k=>(Xf s).length-k) 0 ⟨by omega,Ext.refl _,fun i h=>by omega⟩ Rr ?_
     rintro k w5 ⟨hk,hx5,hall⟩
     conv=>whnf
     constructor
     · intro hlt
       have hlt:k<(Xf s).length:=by simpa using hlt
       obtain⟨a,rfl,hc⟩:=(hsl.ext hx5).getS hlt
       conv=>whnf
       refine⟨a,Ix,Hh ?_⟩;refine⟨_,hc,Hh ?_⟩;refine(Qbi ((Xf s).getD k .empty) w5).mono ?_;rintro _ w6 ⟨rfl,rfl⟩
       conv=>whnf
       refine⟨(k:Int)-1,fun _ _=>wrap_i64 ⟨by omega,by omega⟩,Hh ?_⟩;refine⟨a,fun h1 h2=>⟨rfl,?_,?_⟩,?_⟩
       · first | (simp at h1;omega) | (simp at h2;omega)
       · omega
       conv=>whnf
       refine⟨.string ((Xf s).getD (k-1) .empty),fun h1 h2 => ?_,?_⟩
       · obtain⟨a2,e2,hc2⟩:=(hsl.ext hx5).getS (k:=k-1) (by omega)
         obtain rfl:a=a2:=by simpa using e2
         have e3:((k:Int)-1).toNat=k-1:=by omega
         exact(congrArg (fun n=>w6.cell? (a.add (n*1))) e3).trans hc2
       conv=>whnf
       have hcond:((!Qn ((Xf s).getD k .empty))||(decide ((0:Int)<k) && !bLt ((Xf s).getD (k-1) .empty) ((Xf s).getD k .empty))) = !Qtn (Xf s) k:=by
        unfold Qtn
        cases Qn ((Xf s).getD k .empty) <;> cases k <;> simp
       constructor
       · intro hh
         have hh:=hcond.symm.trans hh;simp only[Bool.not_eq_true'] at hh
         conv=>whnf
         refine⟨?_,hx1.trans (hx3.trans hx5)⟩;rw[hl8,Q1j hlt hh]
       · intro hh
         have hh:=hcond.symm.trans hh;simp only[Bool.not_eq_false'] at hh
         conv=>whnf
         refine⟨_,wrap_succ (by omega),Hh ?_⟩;refine⟨k+1,by omega,⟨by omega,hx5,fun i hik => ?_⟩,Rr⟩
         by_cases e:i=k
         · subst e;exact hh
         · exact hall i (by omega)
     · intro hge
       have hge:(Xf s).length≤k:=by simpa using hge
       conv=>whnf
       refine⟨?_,hx1.trans (hx3.trans hx5)⟩;rw[hl8,Q1i hall hge]
theorem Qxw (a b:Int):decide (a<b) = !decide (b≤a):=by
 rw[← decide_not];exact decide_eq_decide.2 ⟨fun h=>by omega,fun h=>by omega⟩
theorem Qkv (e:Ev) (w:World) (hg:Gl w) (hs:e.text.size<4000000000) :
 Cal Tryz.prog 25 [evV e] w fun r w'=>r = .bool (Xn e)∧Ext w w':=by
 refine Fi Tryz.func25 rfl _ rfl rfl (Hh ?_);intro b w1 hn;have hb:=hn.At
 conv=>whnf
 refine⟨_,hb.one rfl,Hh ?_⟩;refine(Qbi e.src w1).mono ?_;rintro _ w2 ⟨rfl,rfl⟩
 conv=>whnf
 refine⟨_,fun _=>hb.one rfl,Hh ?_⟩;refine⟨_,fun _=>hb.one rfl,Hh ?_⟩;refine⟨_,fun _=>hb.one rfl,Hh ?_⟩;refine⟨_,fun _=>hb.one rfl,Hh ?_⟩
 have hb5:(((((!Qn e.src)||decide (e.num<1))||decide (1099511627776<e.num))||decide (e.at_<0))||decide (1099511627776<e.at_)) = !(Qn e.src&&inB e.num 1 1099511627776&&inB e.at_ 0 1099511627776):=by
  have q1:decide (e.num<1) = !decide (1≤e.num):=Qxw _ _;have q2:decide (1099511627776<e.num) = !decide (e.num≤1099511627776):=Qxw _ _;have q3:decide (e.at_<0) = !decide (0≤e.at_):=Qxw _ _;have q4:decide (1099511627776<e.at_) = !decide (e.at_≤1099511627776):=Qxw _ _;unfold inB;rw[q1,q2,q3,q4]
  cases Qn e.src <;> cases decide (1≤e.num) <;> cases decide (e.num≤1099511627776) <;> cases decide (0≤e.at_) <;> cases decide (e.at_≤1099511627776) <;> rfl
 constructor
 · intro h
   have h:=hb5.symm.trans h;rw[Bool.not_eq_true'] at h
   conv=>whnf
   refine⟨?_,hn.ext⟩;have:Xn e=false:=by unfold Xn;rw[h,Bool.false_and]
   rw[this]
 intro h;have h:=hb5.symm.trans h;rw[Bool.not_eq_false'] at h;have hm:Xn e=Qie e:=by unfold Xn;rw[h,Bool.true_and]
 clear hb5 h;rw[hm]
 conv=>whnf
 refine Dr .ext [0,1,3,4,6,7,8,2,5,9,10,11] [] (Hh ?_);have hx5:Ext w w2.drew:=hn.ext.drew;have hb5:At w2.drew b 38 (evC e):=hb;have hg5:=hg.ext hx5;generalize w2.drew=w3 at hx5 hb5 hg5 ⊢;refine⟨_,hb5.one rfl,Hh ?_⟩;refine⟨_,hb5.one rfl,Hh ?_⟩;refine⟨_,hb5.one rfl,Hh ?_⟩;refine(Qbi e.person w3).mono ?_;rintro _ w4 ⟨rfl,rfl⟩;refine⟨Ext.refl _,Hh ?_⟩;refine(Qbi e.item w4).mono ?_;rintro _ w5 ⟨rfl,rfl⟩;refine⟨Ext.refl _,Hh ?_⟩;refine Qb Qa (Hh ?_);refine⟨_,hb5.one rfl,Hh ?_⟩;refine Xh Qa (ι:=Bool) (fun i => [(1,.pointer (some ⟨b,0,none⟩)),(3,.bool (Qn e.person)),(4,.bool (Qn e.item)),(5,.bool (decide (e.text=⟨#[]⟩))),(40,.int .i64 e.kind),(41,.bool i)]) (fun i w'=>i=k6 e∧w'=w5) ?_ ?_
 · (conv=>whnf)
   refine⟨fun h0' => ?_,fun h0' => ?_⟩
   · (conv=>whnf)
     exact⟨_,⟨by unfold k6;simp at h0';simp[h0'],rfl⟩,⟨rfl,rfl,rfl,rfl,rfl,rfl,trivial⟩⟩
   conv=>whnf
   refine⟨fun h1' => ?_,fun h1' => ?_⟩
   · (conv=>whnf)
     exact⟨_,⟨by unfold k6;simp at h1';simp[h1'],rfl⟩,⟨rfl,rfl,rfl,rfl,rfl,rfl,trivial⟩⟩
   conv=>whnf
   refine⟨fun h2' => ?_,fun h2' => ?_⟩
   · (conv=>whnf)
     exact⟨_,⟨by unfold k6;simp at h2';simp[h2'],rfl⟩,⟨rfl,rfl,rfl,rfl,rfl,rfl,trivial⟩⟩
   conv=>whnf
   refine⟨fun h3' => ?_,fun h3' => ?_⟩
   · (conv=>whnf)
     exact⟨_,⟨by unfold k6;simp at h3';simp[h3'],rfl⟩,⟨rfl,rfl,rfl,rfl,rfl,rfl,trivial⟩⟩
   conv=>whnf
   refine⟨fun h4' => ?_,fun h4' => ?_⟩
   · (conv=>whnf)
     exact⟨_,⟨by unfold k6;simp at h4';simp[h4'],rfl⟩,⟨rfl,rfl,rfl,rfl,rfl,rfl,trivial⟩⟩
   conv=>whnf
   exact⟨_,⟨by unfold k6;simp at h0' h1' h2' h3' h4';simp[h0',h1',h2',h3',h4'],rfl⟩,⟨rfl,rfl,rfl,rfl,rfl,rfl,trivial⟩⟩
 rintro _ w9 ⟨rfl,hw9⟩;replace hw9:=hw9.symm;subst hw9
 conv=>whnf
 refine⟨fun k1 => ?_,fun k1 => ?_⟩
 · (conv=>whnf)
   refine⟨_,fun _=>hb5.one rfl,Hh ?_⟩;refine⟨?_,hx5⟩;unfold Qie;rw[k1,cond_true]
   cases Qn e.person <;> cases Qn e.item <;> cases decide (e.text=⟨#[]⟩) <;> cases decide (e.val=0) <;> rfl
 conv=>whnf
 refine⟨fun k2 => ?_,fun k2 => ?_⟩
 · (conv=>whnf)
   refine⟨_,fun _=>hb5.one rfl,Hh ?_⟩;refine⟨_,fun _=>hb5.one rfl,Hh ?_⟩;refine⟨?_,hx5⟩;unfold Qie inB;rw[k1,cond_false,k2,cond_true]
   cases Qn e.person <;> cases Qn e.item <;> cases decide (e.text=⟨#[]⟩) <;> cases decide (1≤e.val) <;> cases decide (e.val≤5) <;> rfl
 conv=>whnf
 refine Xh Qa (ι:=Bool) (fun i => [(1,.pointer (some ⟨b,0,none⟩)),(3,.bool (Qn e.person)),(4,.bool (Qn e.item)),(5,.bool (decide (e.text=⟨#[]⟩))),(40,.int .i64 e.kind),(79,.bool i)]) (fun i w'=>i=k4 e∧w'=w5) ?_ ?_
 · (conv=>whnf)
   refine⟨fun h0' => ?_,fun h0' => ?_⟩
   · (conv=>whnf)
     exact⟨_,⟨by unfold k4;simp at h0';simp[h0'],rfl⟩,⟨rfl,rfl,rfl,rfl,rfl,rfl,trivial⟩⟩
   conv=>whnf
   refine⟨fun h1' => ?_,fun h1' => ?_⟩
   · (conv=>whnf)
     exact⟨_,⟨by unfold k4;simp at h1';simp[h1'],rfl⟩,⟨rfl,rfl,rfl,rfl,rfl,rfl,trivial⟩⟩
   conv=>whnf
   refine⟨fun h2' => ?_,fun h2' => ?_⟩
   · (conv=>whnf)
     exact⟨_,⟨by unfold k4;simp at h2';simp[h2'],rfl⟩,⟨rfl,rfl,rfl,rfl,rfl,rfl,trivial⟩⟩
   conv=>whnf
   exact⟨_,⟨by unfold k4;simp at h0' h1' h2';simp[h0',h1',h2'],rfl⟩,⟨rfl,rfl,rfl,rfl,rfl,rfl,trivial⟩⟩
 rintro _ w9 ⟨rfl,hw9⟩;replace hw9:=hw9.symm;subst hw9
 conv=>whnf
 refine⟨fun k3 => ?_,fun k3 => ?_⟩
 · (conv=>whnf)
   refine⟨_,fun _=>hb5.one rfl,Hh ?_⟩;refine⟨_,fun _=>hb5.one rfl,Hh ?_⟩;refine⟨_,fun _=>hb5.one rfl,Hh ?_⟩;refine⟨Unit,fun _ => .bool (Qn e.text),fun _ w'=>w'=w5,(),fun _=>(Qbi e.text w5).mono fun r w' h=>⟨(),h.1,h.2⟩,?_⟩;intro _ w6 h6
   obtain rfl:w6=w5:=by
    rcases h6 with⟨_,h⟩ | ⟨_,h⟩ <;> exact h
   clear h6
   conv=>whnf
   refine⟨?_,hx5⟩;unfold Qie;rw[k1,cond_false,k2,cond_false,k3,cond_true]
   cases Qn e.person <;> cases decide (e.item=⟨#[]⟩) <;> cases Qn e.text <;> cases decide (e.val=0) <;> rfl
 conv=>whnf
 refine⟨fun k4' => ?_,fun k4' => ?_⟩
 · (conv=>whnf)
   refine⟨_,hb5.one rfl,Hh ?_⟩;refine⟨_,fun _=>hb5.one rfl,Hh ?_⟩;refine⟨_,fun _=>hb5.one rfl,Hh ?_⟩;refine⟨_,fun _=>hb5.one rfl,Hh ?_⟩;refine⟨Unit,fun _ => .bool (Qcc e.text),fun _ w'=>Ext w5 w',(),fun _=>(Qsj e.text w5 hg5 hs).mono fun r w' h=>⟨(),h.1,h.2⟩,?_⟩;intro _ w6 h6
   have hx6:Ext w5 w6:=by
    rcases h6 with⟨_,h⟩ | ⟨_,h⟩
    · exact h
    · rw[h];exact Ext.refl _
   clear h6
   conv=>whnf
   refine⟨?_,hx5.trans hx6⟩;unfold Qie inB;rw[k1,cond_false,k2,cond_false,k3,cond_false,k4',cond_true]
   cases decide (e.person=⟨#[]⟩) <;> cases Qn e.item <;> cases Qcc e.text <;> cases decide (0≤e.val) <;> cases decide (e.val≤1048576) <;> rfl
 conv=>whnf
 refine⟨fun k5 => ?_,fun k5 => ?_⟩
 · (conv=>whnf)
   refine⟨_,hb5.one rfl,Hh ?_⟩;refine⟨_,fun _=>hb5.one rfl,Hh ?_⟩;refine⟨_,fun _=>hb5.one rfl,Hh ?_⟩;refine⟨?_,hx5⟩;unfold Qie inB;rw[k1,cond_false,k2,cond_false,k3,cond_false,k4',cond_false,k5,cond_true]
   cases decide (e.person=⟨#[]⟩) <;> cases Qn e.item <;> cases decide (e.text=⟨#[]⟩) <;> cases decide (0≤e.val) <;> cases decide (e.val≤1048576) <;> rfl
 conv=>whnf
 refine⟨fun k7 => ?_,fun k7 => ?_⟩
 · (conv=>whnf)
   refine⟨_,hb5.one rfl,Hh ?_⟩;refine⟨_,fun _=>hb5.one rfl,Hh ?_⟩;refine⟨?_,hx5⟩;unfold Qie;rw[k1,cond_false,k2,cond_false,k3,cond_false,k4',cond_false,k5,cond_false,k7,cond_true]
   cases decide (e.person=⟨#[]⟩) <;> cases Qn e.item <;> cases decide (e.text=⟨#[]⟩) <;> cases decide (e.val=0) <;> rfl
 conv=>whnf
 refine⟨fun k8 => ?_,fun k8 => ?_⟩
 · (conv=>whnf)
   refine⟨_,fun _=>hb5.one rfl,Hh ?_⟩;refine⟨_,fun _=>hb5.one rfl,Hh ?_⟩;refine⟨?_,hx5⟩;unfold Qie;rw[k1,cond_false,k2,cond_false,k3,cond_false,k4',cond_false,k5,cond_false,k7,cond_false,k8,cond_true]
   cases Qn e.person <;> cases decide (e.item=⟨#[]⟩) <;> cases decide (e.text=⟨#[]⟩) <;> cases decide (e.val=0) <;> rfl
 conv=>whnf
 refine⟨?_,hx5⟩;unfold Qie;rw[k1,cond_false,k2,cond_false,k3,cond_false,k4',cond_false,k5,cond_false,k7,cond_false,k8]
 rfl
def Qy (e:Ev):Int:=if e.kind=1 then 1 else if e.kind=2 then 3 else if e.kind=3 then 5 else if e.kind=4 then e.val else 0
theorem Qe8 (e:Ev) (w:World):Cal Tryz.prog 100 [evV e] w fun r w'=>r = .int .i64 (Qy e)∧Ext w w':=by
 refine Fi Tryz.func100 rfl _ rfl rfl (Hh ?_);intro b w1 hn;have hb:=hn.At
 conv=>whnf
 refine⟨_,hb.one rfl,Hh ?_⟩;refine⟨fun h1 => ?_,fun h1 => ?_⟩
 · have h1:e.kind=1:=by simpa using h1
   conv=>whnf
   exact⟨by unfold Qy;rw[if_pos h1],hn.ext⟩
 have h1:¬ e.kind=1:=by simpa using h1
 conv=>whnf
 refine⟨fun h2 => ?_,fun h2 => ?_⟩
 · have h2:e.kind=2:=by simpa using h2
   conv=>whnf
   exact⟨by unfold Qy;rw[if_neg h1,if_pos h2],hn.ext⟩
 have h2:¬ e.kind=2:=by simpa using h2
 conv=>whnf
 refine⟨fun h3 => ?_,fun h3 => ?_⟩
 · have h3:e.kind=3:=by simpa using h3
   conv=>whnf
   exact⟨by unfold Qy;rw[if_neg h1,if_neg h2,if_pos h3],hn.ext⟩
 have h3:¬ e.kind=3:=by simpa using h3
 conv=>whnf
 refine⟨fun h4 => ?_,fun h4 => ?_⟩
 · have h4:e.kind=4:=by simpa using h4
   conv=>whnf
   refine⟨_,hb.one rfl,Hh ?_⟩
   exact⟨by unfold Qy;rw[if_neg h1,if_neg h2,if_neg h3,if_pos h4],hn.ext⟩
 have h4:¬ e.kind=4:=by simpa using h4
 conv=>whnf
 exact⟨by unfold Qy;rw[if_neg h1,if_neg h2,if_neg h3,if_neg h4],hn.ext⟩
theorem Qdw {s:ByteArray} (h:Qn s=true):1≤s.size∧s.size≤24:=by
 unfold Qn at h;simp only[Bool.and_eq_true,decide_eq_true_eq] at h
 exact h.1
theorem Qi9 {s:ByteArray} (h:s=⟨#[]⟩):s.size=0:=by rw[h];rfl
theorem Qch {n lo hi:Int}:inB n lo hi=true↔lo≤n∧n≤hi:=by simp[inB]
structure Xej (e:Ev):Prop where
 src:Qn e.src=true
 num:1≤e.num∧e.num≤1099511627776
 at_:0≤e.at_∧e.at_≤1099511627776
 kind:Qie e=true
theorem Qbq {e:Ev}:Xn e=true↔Xej e:=by
 unfold Xn;simp only[Bool.and_eq_true,Qch]
 exact⟨fun h=>⟨h.1.1.1,h.1.1.2,h.1.2,h.2⟩,fun h=>⟨⟨⟨h.src,h.num⟩,h.at_⟩,h.kind⟩⟩
theorem Qa4 {e:Ev} (h:Qie e=true) :
 ((e.kind=0∨e.kind=1∨e.kind=2∨e.kind=3∨e.kind=5∨e.kind=6)∧Qn e.person=true∧Qn e.item=true∧e.text=⟨#[]⟩∧e.val=0) ∨
 (e.kind=4∧Qn e.person=true∧Qn e.item=true∧e.text=⟨#[]⟩∧1≤e.val∧e.val≤5) ∨
 ((e.kind=7∨e.kind=8∨e.kind=9∨e.kind=10)∧Qn e.person=true∧e.item=⟨#[]⟩∧Qn e.text=true∧e.val=0) ∨
 (e.kind=11∧e.person=⟨#[]⟩∧Qn e.item=true∧Qcc e.text=true∧0≤e.val∧e.val≤1048576) ∨
 (e.kind=12∧e.person=⟨#[]⟩∧Qn e.item=true∧e.text=⟨#[]⟩∧0≤e.val∧e.val≤1048576) ∨
 (e.kind=13∧e.person=⟨#[]⟩∧Qn e.item=true∧e.text=⟨#[]⟩∧e.val=0) ∨
 (e.kind=14∧Qn e.person=true∧e.item=⟨#[]⟩∧e.text=⟨#[]⟩∧e.val=0):=by
 unfold Qie at h
 cases h1:k6 e <;> simp only[h1,cond_true,cond_false] at h
 · cases h2:decide (e.kind=4) <;> simp only[h2,cond_true,cond_false] at h
   · cases h3:k4 e <;> simp only[h3,cond_true,cond_false] at h
     · cases h4:decide (e.kind=11) <;> simp only[h4,cond_true,cond_false] at h
       · cases h5:decide (e.kind=12) <;> simp only[h5,cond_true,cond_false] at h
         · cases h6:decide (e.kind=13) <;> simp only[h6,cond_true,cond_false] at h
           · cases h7:decide (e.kind=14) <;> simp only[h7,cond_true,cond_false] at h
             · cases h
             · simp[Bool.and_eq_true,Qch] at h h7
               simp[*]
           · simp[Bool.and_eq_true,Qch] at h h6
             simp[*]
         · simp[Bool.and_eq_true,Qch] at h h5
           simp[*]
       · simp[Bool.and_eq_true,Qch] at h h4
         simp[*]
     · simp[Bool.and_eq_true,Qch] at h
       unfold k4 at h3
       simp at h3
       simp[*]
       omega
   · simp[Bool.and_eq_true,Qch] at h h2
     simp[*]
 · simp[Bool.and_eq_true,Qch] at h
   unfold k6 at h1
   simp at h1
   simp[*]
   omega
theorem Q4g {e:Ev} (h:Xn e=true) (ht:e.text.size<1000000):FOk e:=by
 have h:=Qbq.1 h;have hs:=Qdw h.src;have hn:=h.num;have ha:=h.at_
 rcases Qa4 h.kind with⟨k,p,i,t,v⟩ | ⟨k,p,i,t,v⟩ | ⟨k,p,i,t,v⟩ | ⟨k,p,i,t,v⟩ | ⟨k,p,i,t,v⟩ | ⟨k,p,i,t,v⟩ | ⟨k,p,i,t,v⟩ <;>
  (refine⟨by omega,by omega,by omega,by omega,by omega,?_,?_,ht⟩ <;> first | (have:=Qdw p;omega) | (have:=Qdw i;omega) | (have:=Qi9 p;omega) | (have:=Qi9 i;omega))
theorem Xa2:Qt2 Tryz.prog 45:=⟨_,Tryz.func45,rfl,rfl⟩
theorem Qev (n:Int) (w:World) (hg:Gl w) (h0:0≤n) (h1:n<9223372036854775808):Cal Tryz.prog 45 [.int .i64 n] w fun r w'=>r = .string (Qru n.toNat)∧Ext w w':=by
 refine Qa3 Xa2 (Tryz.strconv_Itoa n (by omega) (by omega) w hg.pow10) ?_;rintro w' ⟨k,os,rfl⟩;refine⟨?_,(Qrx w k).trans (Qfb _ _)⟩;have:n=(n.toNat:Int):=by omega
 unfold Qru bytesOf;rw[← Lib.itoa_nonneg,← this]
theorem Q4r:Qt2 Tryz.prog 93:=⟨_,Tryz.func93,rfl,rfl⟩
theorem Xaf (n:Nat):Qru n≠⟨#[]⟩:=fun e=>by
 have:=congrArg ByteArray.size e;unfold Qru at this;rw[Qnk] at this;have h0:(⟨#[]⟩:ByteArray).size=0:=rfl;rw[h0] at this;have h1:=List.length_eq_zero_iff.1 this;rw[Lib.decDigits] at h1
 split at h1 <;> simp at h1
theorem Qk2 {s:ByteArray} (h:s≠⟨#[]⟩):Qcf s=s:=by unfold Qcf;rw[decide_eq_false h];rfl
theorem Xco {e:Ev} (h:0≤e.kind∧e.kind<15):knB e≠⟨#[]⟩:=by
 unfold knB;obtain⟨k,hk⟩:∃ k:Nat,e.kind=k:=⟨e.kind.toNat,by omega⟩;rw[hk];have:k<15:=by omega
 intro e0;have:=congrArg ByteArray.size e0;rcases k with _ | _ | _ | _ | _ | _ | _ | _ | _ | _ | _ | _ | _ | _ | _ | k <;> first | (exact absurd this (by decide)) | omega
def Qaf (e:Ev):List ByteArray := [e.src,Qru e.num.toNat,Qru e.at_.toNat,knB e,e.person,e.item,Qru e.val.toNat,e.text]
theorem Q7t {e:Ev} (hs:e.src≠⟨#[]⟩) (hk:0≤e.kind∧e.kind<15):(⟨(Lib.join ((((Qaf e).map Qcf)).map (·.data.toList)) [32]).toArray⟩:ByteArray)=Qi0 e:=by
 unfold Qaf;simp only[List.map_cons,List.map_nil,Qk2 hs,Qk2 (Xaf _),Qk2 (Xco hk)]
 apply ByteArray.ext
 apply Array.ext'
 simp[Lib.join,List.intercalate,List.intersperse,Qi0,spB]
theorem Q3r {e:Ev} (hf:FOk e):(Qi0 e).size≤10000000:=by
 have h1:=hf.src;have h2:=hf.person;have h3:=hf.item;have h4:=hf.text;have d1:=Qh3 e.num.toNat (by have:=hf.num;omega);have d2:=Qh3 e.at_.toNat (by have:=hf.at_;omega);have d3:=Qh3 e.val.toNat (by have:=hf.val;omega)
 have hs:∀ s:ByteArray,s.size<1000000→(Qcf s).size<1000000:=by
  intro s h;unfold Qcf
  cases decide (s=⟨#[]⟩)
  · exact h
  · exact(by decide:(⟨#[46]⟩:ByteArray).size<1000000)
 have s1:=hs _ h2;have s2:=hs _ h3;have s3:=hs _ h4
 have hk:(knB e).size≤10:=by
  unfold knB;obtain⟨k,hk⟩:∃ k:Nat,e.kind=k:=⟨e.kind.toNat,by have:=hf.kind;omega⟩;rw[hk];have:k<15:=by have:=hf.kind;omega
  rcases k with _ | _ | _ | _ | _ | _ | _ | _ | _ | _ | _ | _ | _ | _ | _ | k <;> first | decide | omega
 have hsp:spB.size=1:=rfl;unfold Qi0;simp only[ByteArray.size_append];omega
theorem Qlp (e:Ev) (w:World) (hg:Gl w) (hm:Xn e=true) (hf:FOk e) :
 Cal Tryz.prog 53 [evV e] w fun r w'=>r = .string (Qi0 e)∧Ext w w':=by
 refine Fi Tryz.func53 rfl _ rfl rfl (Hh ?_);intro b w1 hn;have hb:=hn.At
 conv=>whnf
 refine⟨evC e,⟨rfl,hb.all⟩,Hh ?_⟩;refine(Qkv e w1 (hg.ext hn.ext) (by have:=hf.text;omega)).mono ?_;rintro _ w2 ⟨rfl,hx2⟩;conv=>whnf
 rw[hm];constructor
 · intro h;cases h
 intro _;have hkk:=hf.kind;obtain⟨k,hk⟩:∃ k:Nat,e.kind=k:=⟨e.kind.toNat,by omega⟩
 conv=>whnf
 refine Dr .ext [0,1,2,3,5,6,8,9,10,11,12,13,14,15,16,17,19,20,4,7,18] [21,22] (Hh ?_);have hb2:At w2.drew b 38 (evC e):=hb.ext hx2.drew;have hx3:Ext w w2.drew:=(hn.ext.trans hx2).drew;generalize w2.drew=w3 at hb2 hx3 ⊢;have hg3:=hg.ext hx3;refine⟨_,hb2.one rfl,Hh ?_⟩;refine⟨_,hb2.one rfl,Hh ?_⟩;refine⟨_,hb2.one rfl,Hh ?_⟩;refine⟨_,hb2.one rfl,Hh ?_⟩
 have hcell:w3.cell? ((⟨1,0,none⟩:Addr).add (e.kind.toNat*1))=some (.string (knB e)):=by
  have:=hg3.kinds k (.string (knB e)) (by
   unfold knB;rw[hk];have:k<15:=by omega
   rcases k with _ | _ | _ | _ | _ | _ | _ | _ | _ | _ | _ | _ | _ | _ | _ | k <;> first | rfl | omega)
  rw[hk]
  simpa using this
 refine⟨⟨hkk.1,hkk.2⟩,Hh ?_⟩;refine⟨.string (knB e),hcell,Hh ?_⟩;refine⟨_,hb2.one rfl,Hh ?_⟩;refine⟨_,hb2.one rfl,Hh ?_⟩;refine⟨_,hb2.one rfl,Hh ?_⟩;refine⟨_,hb2.one rfl,Hh ?_⟩;refine(Qev e.num w3 hg3 hf.num.1 hf.num.2).mono ?_;rintro _ w4 ⟨rfl,hx4⟩;refine⟨hx4,Hh ?_⟩;refine(Qev e.at_ w4 (hg3.ext hx4) hf.at_.1 hf.at_.2).mono ?_;rintro _ w5 ⟨rfl,hx5⟩;refine⟨hx5,Hh ?_⟩;refine(Qev e.val w5 ((hg3.ext hx4).ext hx5) hf.val.1 hf.val.2).mono ?_;rintro _ w6 ⟨rfl,hx6⟩;refine⟨hx6,Hh ?_⟩;intro b7 w7 hn7;have hx7:Ext w w7:=((((hx3.trans hx4).trans hx5).trans hx6).trans hn7.ext);have hb7:At w7 b7 9 ((Qaf e).map Value.string):=hn7.At;have hbb:w.heap.size≤b7:=by rw[hn7.block];exact(((hx3.trans hx4).trans hx5).trans hx6).size
 conv=>whnf
 have hwl:(Qaf e).length=8:=rfl
 refine Qh Qa (fun(k:Nat) w'=>k≤8∧Ext w w'∧At w' b7 9 (((Qaf e).take k).map (fun s=>Value.string (Qcf s))++((Qaf e).drop k).map Value.string))
  (fun k => [(3,.slice (some ⟨b7,0,none⟩) 8 8),(31,.slice (some ⟨b7,0,none⟩) 8 8),(32,.int .i64 8),(33,.int .i64 k)]) (fun k=>8-k) 0 ⟨by omega,hx7,by simpa using hb7⟩ Rr ?_
 clear hb7 hx7 hn7 hb2 hb hn;rintro k w8 ⟨hk8,hx8,hb8⟩
 conv=>whnf
 constructor
 · intro hlt
   have hlt:k<8:=by simp at hlt;omega
   have hkl:k<(Qaf e).length:=by omega
   rw[List.drop_eq_getElem_cons hkl,List.map_cons] at hb8;have htk:(Qaf e).take (k+1)=(Qaf e).take k ++ [(Qaf e)[k]]:=List.take_succ_eq_append_getElem hkl;have hcell:=hb8.cell k;rw[List.getElem?_append_right (by simp;omega)] at hcell;rw[show k-(((Qaf e).take k).map (fun s=>Value.string (Qcf s))).length=0 by simp;omega] at hcell;generalize hx:(Qaf e)[k]=x at hb8 htk hcell
   have hcell:w8.cell? ((⟨b7,0,none⟩:Addr).add ((k:Int).toNat*1))=some (.string x):=by
    rw[show ((k:Int).toNat*1)=k by simp,Qz];simpa using hcell
   conv=>whnf
   refine Xh Qa (ι:=Unit) (fun _ => [(3,.slice (some ⟨b7,0,none⟩) 8 8),(31,.slice (some ⟨b7,0,none⟩) 8 8),(32,.int .i64 8),(33,.int .i64 k)])
    (fun _ w'=>Ext w w'∧At w' b7 9 (((Qaf e).take (k+1)).map (fun s=>Value.string (Qcf s))++((Qaf e).drop (k+1)).map Value.string)) ?_ ?_
   · (conv=>whnf)
     refine⟨⟨b7,0,none⟩,Ix,Hh ?_⟩;refine⟨.string x,hcell,Hh ?_⟩;constructor
     · intro h
       have h:x=⟨#[]⟩:=by simpa using h
       conv=>whnf
       refine⟨⟨b7,0,none⟩,Ix,Hh ?_⟩;have hadr:(⟨b7,0,none⟩:Addr).add ((k:Int).toNat*1)=⟨b7,k,none⟩:=by rw[Qz];simp
       rw[hadr];refine Qgx Qa (e:=ty9) rfl hb8 rfl ?_ (by simp[Qg,Value.oneCell']) fun w9 h9 ho9 => ?_
       · show k+1≤_
         simp;omega
       conv=>whnf
       refine⟨(),⟨ho9.ext hx8 hbb,?_⟩,Rr⟩;rw[htk]
       have hsp:spl (((Qaf e).take k).map (fun s=>Value.string (Qcf s))++Value.string x :: ((Qaf e).drop (k+1)).map Value.string) k (Qg (.string ⟨#[46]⟩))=((Qaf e).take k ++ [x]).map (fun s=>Value.string (Qcf s))++((Qaf e).drop (k+1)).map Value.string:=by
        have hl:(((Qaf e).take k).map (fun s=>Value.string (Qcf s))).length=k:=by simp;omega
        unfold spl Qg;rw[List.take_append_of_le_length (by omega),List.take_of_length_le (by omega),List.drop_append,hl];rw[List.drop_of_length_le (by simp;omega)];simp only[List.length_cons,List.length_nil,Nat.zero_add,List.nil_append];rw[show k+1-k=1 by omega,h]
        simp[Qcf]
       rw[← hsp];exact h9
     · intro h
       have h:¬ x=⟨#[]⟩:=by simpa using h
       conv=>whnf
       refine⟨(),⟨hx8,?_⟩,Rr⟩;rw[htk]
       simpa [Qk2 h] using hb8
   rintro _ w9 ⟨hx9,hb9⟩
   conv=>whnf
   refine⟨_,wrap_succ (by omega),Hh ?_⟩
   exact⟨k+1,by omega,⟨by omega,hx9,hb9⟩,Rr⟩
 · intro hge
   have hge:k=8:=by simp at hge;omega
   subst hge
   have hb9:At w8 b7 9 (((Qaf e).map Qcf).map Value.string):=by
    have h1:(Qaf e).take 8=Qaf e:=rfl;have h2:(Qaf e).drop 8 = []:=rfl;rw[h1,h2] at hb8;have h3:((Qaf e).map Qcf).map Value.string=(Qaf e).map (fun s=>Value.string (Qcf s)):=by rw[List.map_map];rfl
    rw[h3]
    simpa using hb8
   conv=>whnf
   have hcells:∀ (j:Nat) x,((Qaf e).map Qcf)[j]? = some x→w8.cell? ⟨b7,0+j,none⟩=some (.string x):=by
    intro j x hj;rw[Nat.zero_add,hb9.cell j,List.getElem?_map,hj];rfl
   have hsrc:e.src≠⟨#[]⟩:=fun h0=>by
    have:=(Qdw (Qbq.1 hm).src).1;rw[Qi9 h0] at this;omega
   have hjf:=Q7t hsrc hkk;refine(Qa3 Q4r (Tryz.strings_Join b7 0 8 ((Qaf e).map Qcf) ⟨#[32]⟩ w8 hcells hb9.lt (by simp[Qaf]) (by simp[Qaf]) ?_) (R:=fun r w'=>r = .string (Qi0 e)∧Ext w8 w') ?_).mono ?_
   · have h1:=Q3r hf
     rw[← hjf] at h1;have h2:∀ L:List UInt8,(⟨L.toArray⟩:ByteArray).size=L.length:=fun L=>by simp[ByteArray.size]
     rw[h2] at h1;show (Lib.join (((Qaf e).map Qcf).map (·.data.toList)) [32]).length≤_
     omega
   · intro w' hw'
     exact⟨by rw[← hjf],hw'⟩
   · rintro _ w10 ⟨rfl,hx10⟩;conv=>whnf
     exact⟨rfl,hx8.trans hx10⟩
theorem Qsv (c:UInt8):∀ l:List UInt8,((partsOf c l).map (fun p=>p.length+1)).sum=l.length+1
 | []=>by simp[partsOf]
 | x :: r=>by
   have ih:=Qsv c r;unfold partsOf
   by_cases hx:x=c
   · rw[if_pos hx];simp at ih ⊢;omega
   · rw[if_neg hx]
     cases hp:partsOf c r with
     | nil=>exact absurd hp (Q77 c r)
     | cons q t=>rw[hp] at ih;simp at ih ⊢;omega
theorem Q9k {α:Type} (f:α→Nat) (n:Nat):∀ l:List α,(∀ x∈l,f x≤n)→(l.map f).sum≤l.length*n
 | [],_=>by simp
 | a :: l,h=>by
   have h1:=h a (by simp);have h2:=Q9k f n l fun x hx=>h x (by simp[hx])
   simp[Nat.add_mul];omega
theorem Qdv {s:ByteArray} (h:Qn s=true):s.size≤24:=(Qdw h).2
theorem Q1g {l:List ByteArray} (h:Qgh l=true):∀ x∈l,Qn x=true:=by
 intro x hx;obtain⟨i,hi,rfl⟩:=List.getElem_of_mem hx;unfold Qgh at h;rw[List.all_eq_true] at h;have h1:=h i (List.mem_range.2 hi);unfold Qtn at h1;rw[getD_lt hi] at h1
 simp at h1
 exact h1.1
theorem Qz7 {s:ByteArray} (h:Qcc s=true):s.size<1000:=by
 unfold Qcc at h;simp only[Bool.and_eq_true,decide_eq_true_eq] at h;obtain⟨⟨h1,h2⟩,h3,h4⟩:=h;obtain⟨i,hi⟩:=Option.isSome_iff_exists.1 h1;have hlt:=Qmf hi;have hm:=Qdv h2;unfold Qb3 at hm;rw[hi] at hm
 simp at hm
 by_cases hz:i+1=s.size
 · omega
 · rw[Qwr hi hz] at h3 h4
   have hs:=Qsv 44 (s.extract (i+1) s.size).data.toList
   have hb:=Q9k (fun p:List UInt8=>p.length+1) 25 (partsOf 44 (s.extract (i+1) s.size).data.toList) fun p hp=>by
    have:=Qdv (Q1g h3 (bytesOf p) (List.mem_map.2 ⟨p,hp,rfl⟩));have e:(bytesOf p).size=p.length:=by simp[bytesOf,ByteArray.size]
    omega
   unfold Qce at h4;rw[List.length_map] at h4;have he:(s.extract (i+1) s.size).data.toList.length=s.size-(i+1):=by simp
   rw[he] at hs;have:(partsOf 44 (s.extract (i+1) s.size).data.toList).length*25≤8*25:=Nat.mul_le_mul_right _ h4;omega
theorem Qfl {e:Ev} (h:Xn e=true):e.text.size<1000:=by
 have hk:=Qa4 (Qbq.1 h).kind;have h0:(⟨#[]⟩:ByteArray).size=0:=rfl;rcases hk with⟨_,_,_,h,_⟩ | ⟨_,_,_,h,_⟩ | ⟨_,_,_,h,_⟩ | ⟨_,_,_,h,_⟩ | ⟨_,_,_,h,_⟩ | ⟨_,_,_,h,_⟩ | ⟨_,_,_,h,_⟩
 · rw[h,h0];omega
 · rw[h,h0];omega
 · have:=Qdv h;omega
 · exact Qz7 h
 · rw[h,h0];omega
 · rw[h,h0];omega
 · rw[h,h0];omega
theorem Q7z {e:Ev} (h:Xn e=true):0≤e.kind∧e.kind≤14:=by
 have hk:=Qa4 (Qbq.1 h).kind;omega
theorem Qk8 {e:Ev} (h:Xn e=true):0≤Qy e∧Qy e≤5:=by
 have hk:=Qa4 (Qbq.1 h).kind;unfold Qy
 repeat' split
 all_goals omega
theorem Qdz {e:Ev} (h:Xn e=true) (hw:0<Qy e):Qn e.person=true∧Qn e.item=true:=by
 have hk:=Qa4 (Qbq.1 h).kind
 have:e.kind=1∨e.kind=2∨e.kind=3∨e.kind=4:=by
  unfold Qy at hw
  by_cases h1:e.kind=1
  · omega
  by_cases h2:e.kind=2
  · omega
  by_cases h3:e.kind=3
  · omega
  by_cases h4:e.kind=4
  · omega
  rw[if_neg h1,if_neg h2,if_neg h3,if_neg h4] at hw;omega
 rcases hk with hk | hk | hk | hk | hk | hk | hk
 · exact⟨hk.2.1,hk.2.2.1⟩
 · exact⟨hk.2.1,hk.2.2.1⟩
 all_goals exfalso;omega
theorem Qmh (s:ByteArray):(Qau s).size≤s.size:=by
 unfold Qau
 split
 · rw[ByteArray.size_extract];omega
 · exact Nat.zero_le _
end Go.Proofs.YtohkipkjleldpaaGreatDoor
namespace Go.Proofs.YtohkipkjleldpaaGreatDoor
open Go.Se
def Xea (l:List UInt8):Nat:=l.foldl (fun a c=>10*a+(c.toNat-48)) 0
theorem Qpd (m:Nat):(UInt8.ofNat (48+m % 10)).toNat=48+m % 10:=by
 rw[UInt8.toNat_ofNat'];omega
theorem Qrs {m:Nat} (h:¬ 9<m):Lib.decDigits m = [UInt8.ofNat (48+m % 10)]:=by
 rw[Lib.decDigits_one (by omega),Nat.mod_eq_of_lt (by omega)]
theorem Qyt (m:Nat):Xea (Lib.decDigits m)=m:=by
 induction m using Nat.strongRecOn with
 | ind m ih =>
   by_cases h:9<m
   · rw[Qxd h]
     have:=ih (m/10) (by omega);unfold Xea at this ⊢;rw[List.foldl_append,this];simp only[List.foldl_cons,List.foldl_nil,Qpd];omega
   · rw[Qrs h]
     unfold Xea;simp only[List.foldl_cons,List.foldl_nil,Qpd];omega
theorem Xad {a b:Nat} (h:Lib.decDigits a=Lib.decDigits b):a=b:=by rw[← Qyt a,← Qyt b,h]
theorem Qrr (m:Nat):∀ c∈Lib.decDigits m,48≤c.toNat∧c.toNat≤57:=by
 induction m using Nat.strongRecOn with
 | ind m ih =>
   intro c hc
   by_cases h:9<m
   · rw[Qxd h,List.mem_append] at hc
     rcases hc with hc | hc
     · exact ih (m/10) (by omega) c hc
     · simp only[List.mem_singleton] at hc
       rw[hc,Qpd];omega
   · rw[Qrs h] at hc
     simp only[List.mem_singleton] at hc;rw[hc,Qpd];omega
theorem Qin:∀ {a b r s:List UInt8},(∀ x∈a,x≠32)→(∀ x∈b,x≠32)→a++32 :: r=b++32 :: s→a=b∧r=s
 | [],[],r,s,_,_,h=>⟨rfl,by simpa using h⟩
 | [],y :: b,r,s,_,hb,h=>by
   simp only[List.nil_append,List.cons_append,List.cons.injEq] at h
   exact absurd h.1.symm (hb y (by simp))
 | x :: a,[],r,s,ha,_,h=>by
   simp only[List.nil_append,List.cons_append,List.cons.injEq] at h
   exact absurd h.1 (ha x (by simp))
 | x :: a,y :: b,r,s,ha,hb,h=>by
   simp only[List.cons_append,List.cons.injEq] at h;obtain⟨h1,h2⟩:=Qin (fun z hz=>ha z (by simp[hz])) (fun z hz=>hb z (by simp[hz])) h.2
   exact⟨by rw[h.1,h1],h2⟩
theorem Xa1 {s:ByteArray} (h:Qn s=true):∀ x∈s.data.toList,x≠32:=by
 unfold Qn at h;simp only[Bool.and_eq_true] at h;intro x hx e;have:=List.all_eq_true.1 h.2 x hx;rw[e] at this
 exact absurd this (by decide)
def Xag:ByteArray:=⟨#[46]⟩
theorem Qxz {s:ByteArray} (h:Qn s=true):s≠Xag:=by
 rintro rfl
 exact absurd h (by decide)
theorem Q3x {s:ByteArray} (h:Qcc s=true):s≠Xag:=by
 rintro rfl;unfold Qcc at h;simp only[Bool.and_eq_true] at h
 exact absurd h.1.1 (by decide)
theorem Qet:(⟨#[]⟩:ByteArray)≠Xag:=by
 intro h;have:=congrArg ByteArray.size h
 exact absurd this (by decide)
theorem Qqq {s t:ByteArray} (hs:s≠Xag) (ht:t≠Xag) (h:Qcf s=Qcf t):s=t:=by
 unfold Qcf at h
 by_cases h1:s=⟨#[]⟩ <;> by_cases h2:t=⟨#[]⟩ <;> simp only[h1,h2,decide_true,decide_false,cond_true,cond_false] at h
 · rw[h1,h2]
 · exact absurd h.symm ht
 · exact absurd h hs
 · exact h
theorem Qqr {s:ByteArray} (h:s=⟨#[]⟩∨Qn s=true):∀ x∈(Qcf s).data.toList,x≠32:=by
 rcases h with rfl | h
 · decide
 · unfold Qcf
   by_cases h1:s=⟨#[]⟩
   · rw[h1] at h;exact absurd h (by decide)
   · simp only[h1,decide_false,cond_false];exact Xa1 h
theorem Xcq:∀ k,k<15→∀ x∈(kindNames.getD k .empty).data.toList,x≠32:=by decide +kernel
theorem Xcp:∀ k,k<15→∀ j,j<15→(kindNames.getD k .empty).data.toList=(kindNames.getD j .empty).data.toList→k=j:=by decide +kernel
theorem Qsm {e:Ev} (h:Xn e=true):(e.person=⟨#[]⟩∨Qn e.person=true)∧(e.item=⟨#[]⟩∨Qn e.item=true)∧e.text≠Xag∧0≤e.val∧0≤e.kind∧e.kind<15:=by
 rcases Qa4 (Qbq.1 h).kind with⟨hk,h1,h2,h3,h4⟩ | ⟨hk,h1,h2,h3,h4⟩ | ⟨hk,h1,h2,h3,h4⟩ | ⟨hk,h1,h2,h3,h4⟩ | ⟨hk,h1,h2,h3,h4⟩ | ⟨hk,h1,h2,h3,h4⟩ | ⟨hk,h1,h2,h3,h4⟩
 · exact⟨.inr h1,.inr h2,h3 ▸ Qet,by omega,by omega,by omega⟩
 · exact⟨.inr h1,.inr h2,h3 ▸ Qet,by omega,by omega,by omega⟩
 · exact⟨.inr h1,.inl h2,Qxz h3,by omega,by omega,by omega⟩
 · exact⟨.inl h1,.inr h2,Q3x h3,by omega,by omega,by omega⟩
 · exact⟨.inl h1,.inr h2,h3 ▸ Qet,by omega,by omega,by omega⟩
 · exact⟨.inl h1,.inr h2,h3 ▸ Qet,by omega,by omega,by omega⟩
 · exact⟨.inr h1,.inl h2,h3 ▸ Qet,by omega,by omega,by omega⟩
theorem Qde {s:ByteArray} (h:s=⟨#[]⟩∨Qn s=true):s≠Xag:=by
 rcases h with rfl | h
 · exact Qet
 · exact Qxz h
theorem Q7p (e:Ev):(Qi0 e).data.toList=(e.src.data.toList++32 :: (Lib.decDigits e.num.toNat++32 :: (Lib.decDigits e.at_.toNat ++ [32]))) ++
 ((knB e).data.toList++32 :: ((Qcf e.person).data.toList++32 :: ((Qcf e.item).data.toList++32 :: (Lib.decDigits e.val.toNat++32 :: (Qcf e.text).data.toList)))):=by
 unfold Qi0 Qru bytesOf spB
 simp
theorem Qpc {a b:ByteArray} (h:a.data.toList=b.data.toList):a=b:=ByteArray.ext (Array.ext' h)
theorem Xan {a b:Ev} (ha:Xn a=true) (hb:Xn b=true) (h1:a.src=b.src) (h2:a.num=b.num) (h3:a.at_=b.at_) (h:Qi0 a=Qi0 b):a=b:=by
 have h':=congrArg (fun x:ByteArray=>x.data.toList) h;simp only[Q7p] at h';rw[h1,h2,h3] at h';have h':=List.append_cancel_left h';obtain⟨p1,p2,p3,p4,p5,p6⟩:=Qsm ha;obtain⟨q1,q2,q3,q4,q5,q6⟩:=Qsm hb;obtain⟨e1,h'⟩:=Qin (Xcq _ (by omega)) (Xcq _ (by omega)) h';obtain⟨e2,h'⟩:=Qin (Qqr p1) (Qqr q1) h';obtain⟨e3,h'⟩:=Qin (Qqr p2) (Qqr q2) h';obtain⟨e4,h'⟩:=Qin (fun x hx e=>by have:=Qrr _ x hx;rw[e] at this;exact absurd this (by decide)) (fun x hx e=>by have:=Qrr _ x hx;rw[e] at this;exact absurd this (by decide)) h';have k1:=Xcp _ (by omega) _ (by omega) e1;have k2:=Qqq (Qde p1) (Qde q1) (Qpc e2);have k3:=Qqq (Qde p2) (Qde q2) (Qpc e3);have k4:=Xad e4;have k5:=Qqq p3 q3 (Qpc h')
 apply Ev.ext <;> first | assumption | omega
theorem Qi4 (a b:Ev):Qaw a b=true↔Qx a b=true∨(Qx b a=false∧bLt (Qi0 a) (Qi0 b)=true):=by
 unfold Qaw
 cases h1:Qx a b <;> cases h2:Qx b a <;> simp
theorem Qhw (a:Ev):Qaw a a=false:=by
 rw[← Bool.not_eq_true,Qi4];rintro (h | ⟨_,h⟩)
 · rw[Qad.irrefl] at h;cases h
 · rw[Xj] at h;cases h
theorem Qpt {a b c:Ev} (h1:Qx a b=false) (h2:Qx b c=false):Qx a c=false:=Qad.trans c b a h2 h1
theorem Qg6 {a b c:Ev} (h1:Qx a b=true) (h2:Qx c b=false):Qx a c=true:=by
 cases h:Qx a c
 · have:=Qpt h h2;rw[h1] at this;cases this
 · rfl
theorem Qpu {a b c:Ev} (h1:Qx b a=false) (h2:Qx b c=true):Qx a c=true:=by
 cases h:Qx a c
 · have:=Qpt h1 h;rw[h2] at this;cases this
 · rfl
theorem Qra {a b c:Ev} (h1:Qaw a b=true) (h2:Qaw b c=true):Qaw a c=true:=by
 rw[Qi4] at h1 h2 ⊢;rcases h1 with h1 | ⟨h1,f1⟩ <;> rcases h2 with h2 | ⟨h2,f2⟩
 · exact .inl (Qg6 h1 (Qad.asymm _ _ h2))
 · exact .inl (Qg6 h1 h2)
 · exact .inl (Qpu h1 h2)
 · exact .inr ⟨Qpt h2 h1,Qa2 f1 f2⟩
theorem Qq9 {a b:Ev} (ha:Xn a=true) (hb:Xn b=true) (h1:Qaw a b=false) (h2:Qaw b a=false):a=b:=by
 rw[← Bool.not_eq_true,Qi4,not_or] at h1 h2;have l1:Qx a b=false:=by simpa using h1.1
 have l2:Qx b a=false:=by simpa using h2.1
 obtain⟨e1,e2,e3⟩:=Qey l1 l2;refine Xan ha hb e2 e3 e1 (Qa9 ?_ ?_)
 · cases h:bLt (Qi0 a) (Qi0 b)
   · rfl
   · exact absurd ⟨l2,h⟩ h1.2
 · cases h:bLt (Qi0 b) (Qi0 a)
   · rfl
   · exact absurd ⟨l1,h⟩ h2.2
def idE (e:Ev):ByteArray×Int:=(e.src,e.num)
theorem Qdl {e x:Ev}:Qb7 e x=true↔idE x=idE e:=by simp[Qb7,idE]
structure Qnb (l z:List Ev):Prop where
 ids:z.Pairwise (fun a b=>idE a≠idE b)
 all:∀ y∈l,∃ x∈z,idE x=idE y
 mem:∀ x,x∈z↔x∈l∧∀ y∈l,idE y=idE x→Qaw y x=false
theorem Qr6 {z:List Ev} (h:z.Pairwise (fun a b=>idE a≠idE b)) {x y:Ev} (hx:x∈z) (hy:y∈z) (he:idE x=idE y):x=y:=by
 induction z with
 | nil=>cases hx
 | cons u z ih =>
   rw[List.pairwise_cons] at h;rcases List.mem_cons.1 hx with h1 | h1 <;> rcases List.mem_cons.1 hy with h2 | h2
   · rw[h1,h2]
   · rw[h1] at he;exact absurd he (h.1 y h2)
   · rw[h2] at he;exact absurd he.symm (h.1 x h1)
   · exact ih h.2 h1 h2
theorem Q3m {z:List Ev} {k:Nat} {e:Ev} (hk:k<z.length) (he:idE z[k]=idE e) (h:z.Pairwise (fun a b=>idE a≠idE b)):(z.set k e).Pairwise (fun a b=>idE a≠idE b):=by
 have h1:(z.set k e).map idE=z.map idE:=by
  rw[List.map_set,← he]
  apply List.ext_getElem?
  intro i;rw[List.getElem?_set]
  by_cases hi:k=i
  · subst hi;simp[hk]
  · simp[hi]
 have h2:(z.map idE).Pairwise (· ≠ ·):=by rw[List.pairwise_map];exact h
 rw[← h1,List.pairwise_map] at h2
 exact h2
theorem Ql3 {z:List Ev} {k:Nat} {e:Ev} (hk:k<z.length) (he:idE z[k]=idE e) (h:z.Pairwise (fun a b=>idE a≠idE b)) (x:Ev):x∈z.set k e↔x=e∨(x∈z∧idE x≠idE e):=by
 constructor
 · intro hx
   rcases List.mem_or_eq_of_mem_set hx with h1 | h1
   · by_cases hid:idE x=idE e
     · refine .inl (Qr6 (Q3m hk he h) hx (List.mem_set hk e) hid)
     · exact .inr ⟨h1,hid⟩
   · exact .inl h1
 · rintro (rfl | ⟨hx,hid⟩)
   · exact List.mem_set hk x
   · obtain⟨i,hi,rfl⟩:=List.getElem_of_mem hx
     have hne:k≠i:=by rintro rfl;exact hid he
     rw[List.mem_iff_getElem?]
     exact⟨i,by rw[List.getElem?_set_ne hne];exact List.getElem?_eq_getElem hi⟩
theorem Qnb.step {l z:List Ev} (h:Qnb l z) {e:Ev} (hl:∀ x∈l,Xn x=true) (hm:Xn e=true):Qnb (l ++ [e]) (Qao z e):=by
 have inl:∀ {x},x∈z→x∈l:=fun hx=>((h.mem _).1 hx).1
 unfold Qao
 cases hf:z.findIdx? (Qb7 e) with
 | none =>
   have hn:∀ x∈z,idE x≠idE e:=fun x hx=>by
    have:=List.findIdx?_eq_none_iff.1 hf x hx;intro e';rw[Qdl.2 e'] at this;cases this
   have hn':∀ y∈l,idE y≠idE e:=fun y hy e'=>by
    obtain⟨x,hx,hid⟩:=h.all y hy
    exact hn x hx (hid.trans e')
   simp only;refine⟨?_,?_,fun x => ?_⟩
   · rw[List.pairwise_append]
     refine⟨h.ids,by simp,fun a ha b hb => ?_⟩;rw[List.mem_singleton.1 hb];exact hn a ha
   · intro y hy
     rcases List.mem_append.1 hy with hy | hy
     · obtain⟨x,hx,hid⟩:=h.all y hy
       exact⟨x,by simp[hx],hid⟩
     · exact⟨e,by simp,by rw[List.mem_singleton.1 hy]⟩
   · simp only[List.mem_append,List.mem_singleton]
     constructor
     · rintro (hx | rfl)
       · refine⟨.inl (inl hx),fun y hy hid => ?_⟩
         rcases hy with hy | rfl
         · exact((h.mem x).1 hx).2 y hy hid
         · exact absurd hid.symm (hn x hx)
       · refine⟨.inr rfl,fun y hy hid => ?_⟩
         rcases hy with hy | rfl
         · exact absurd hid (hn' y hy)
         · exact Qhw _
     · rintro ⟨hx | rfl,hy⟩
       · exact .inl ((h.mem x).2 ⟨hx,fun y hyl=>hy y (.inl hyl)⟩)
       · exact .inr rfl
 | some k =>
   obtain⟨hk,hs,_⟩:=List.findIdx?_eq_some_iff_getElem.1 hf;have hid:=Qdl.1 hs;have hold:z[k]∈z:=List.getElem_mem hk;have hmo:Xn z[k]=true:=hl _ (inl hold);simp only;rw[getD_lt hk]
   cases hb:Qaw e z[k] with
   | false =>
     simp only[cond_false];refine⟨h.ids,?_,fun x => ?_⟩
     · intro y hy
       rcases List.mem_append.1 hy with hy | hy
       · exact h.all y hy
       · rw[List.mem_singleton.1 hy];exact⟨_,hold,hid⟩
     · simp only[List.mem_append,List.mem_singleton]
       constructor
       · intro hx
         refine⟨.inl (inl hx),fun y hy he => ?_⟩;rcases hy with hy | rfl
         · exact((h.mem x).1 hx).2 y hy he
         · rw[Qr6 h.ids hx hold (he.symm.trans hid.symm)];exact hb
       · rintro ⟨hx | rfl,hy⟩
         · exact(h.mem x).2 ⟨hx,fun y hyl=>hy y (.inl hyl)⟩
         · rw[Qq9 hm hmo hb (hy _ (.inl (inl hold)) hid)];exact hold
   | true =>
     simp only[cond_true];refine⟨Q3m hk hid h.ids,?_,fun x => ?_⟩
     · intro y hy
       by_cases he:idE y=idE e
       · exact⟨e,List.mem_set hk e,he.symm⟩
       · rcases List.mem_append.1 hy with hy | hy
         · obtain⟨x,hx,hxy⟩:=h.all y hy
           exact⟨x,(Ql3 hk hid h.ids x).2 (.inr ⟨hx,fun e'=>he (hxy.symm.trans e')⟩),hxy⟩
         · exact absurd (by rw[List.mem_singleton.1 hy]) he
     · rw[Ql3 hk hid h.ids x]
       simp only[List.mem_append,List.mem_singleton];constructor
       · rintro (rfl | ⟨hx,hne⟩)
         · refine⟨.inr rfl,fun y hy he => ?_⟩
           rcases hy with hy | rfl
           · cases hc:Qaw y x
             · rfl
             · have h1:=Qra hc hb
               rw[((h.mem _).1 hold).2 y hy (he.trans hid.symm)] at h1;cases h1
           · exact Qhw _
         · refine⟨.inl (inl hx),fun y hy he => ?_⟩
           rcases hy with hy | rfl
           · exact((h.mem x).1 hx).2 y hy he
           · exact absurd he.symm hne
       · rintro ⟨hx | rfl,hy⟩
         · have hz:=(h.mem x).2 ⟨hx,fun y hyl=>hy y (.inl hyl)⟩
           refine .inr ⟨hz,fun he => ?_⟩;have h1:=hy e (.inr rfl) he.symm;rw[Qr6 h.ids hz hold (he.trans hid.symm),hb] at h1;cases h1
         · exact .inl rfl
theorem Q4s {l2:List Ev}:∀ {l z:List Ev},Qnb l z→(∀ x∈l,Xn x=true)→(∀ x∈l2,Xn x=true)→Qnb (l++l2) (l2.foldl Qao z):=by
 induction l2 with
 | nil=>intro l z h _ _;simpa using h
 | cons e l2 ih =>
   intro l z h hl hl2
   have:=ih (h.step hl (hl2 e (by simp))) (fun x hx=>by
    rcases List.mem_append.1 hx with hx | hx
    · exact hl x hx
    · rw[List.mem_singleton.1 hx];exact hl2 e (by simp)) (fun x hx=>hl2 x (by simp[hx]))
   simpa using this
theorem Qqa {l:List Ev} (h:∀ x∈l,Xn x=true):Qnb l (Qc1 l):=by
 have:=Q4s (l2:=l) (l := []) (z := []) ⟨by simp,by simp,by simp⟩ (by simp) h
 simpa [Qc1] using this
theorem Qr7 {z:List Ev} (h:z.Pairwise (fun a b=>idE a≠idE b)):z.Nodup:=h.imp fun hne e=>hne (by rw[e])
theorem Q09 {z z':List Ev} (hp:z.Perm z') (hi:z.Pairwise (fun a b=>idE a≠idE b)) (hs:Srt Qx z) (hs':Srt Qx z'):z=z' :=
 Qjq hp hs hs' fun x hx y hy h1 h2=>by
  obtain⟨_,e2,e3⟩:=Qey h1 h2
  exact Qr6 hi hx hy (by unfold idE;rw[e2,e3])
theorem Qxj {z z':List Ev} (hp:z.Perm z') (hi:z'.Pairwise (fun a b=>idE a≠idE b)):z.Pairwise (fun a b=>idE a≠idE b) :=
 (hp.pairwise_iff (fun h e=>h e.symm)).2 hi
end Go.Proofs.YtohkipkjleldpaaGreatDoor
namespace Go.Proofs.YtohkipkjleldpaaGreatDoor
open Go.Se Go.RowKit
abbrev IdS:=ByteArray×Int
theorem Qy6 (a b:Ev):Qaw a b=bif decide (Qfz a b=0) then bLt (Qi0 a) (Qi0 b) else decide (Qfz a b<0):=by
 rw[Qbx];unfold Qaw
 by_cases h0:Qfz a b=0
 · have hz:=(Qhy a b).1 h0
   have h1:Qx a b=false:=by rw[← Qbx,h0];rfl
   have h2:Qx b a=false:=by rw[← Qbx,(Qhy b a).2 ⟨hz.1.symm,hz.2.1.symm,hz.2.2.symm⟩];rfl
   simp[h0,h1,h2]
 · simp only[h0,decide_false,cond_false]
   cases h1:Qx a b
   · cases h2:Qx b a
     · obtain hz:=Qey h1 h2
       exact absurd ((Qhy a b).2 hz) h0
     · rfl
   · rfl
def X3 (out:List Ev):List (IdS×Value):=out.map fun e=>(idE e,evV e)
theorem Qz9 (out:List Ev) (e:Ev):Qe (X3 out) (idE e)=(out.find? (Qb7 e)).map evV:=by
 induction out with
 | nil=>rfl
 | cons x out ih =>
   simp only[X3,List.map_cons,Qe,List.find?_cons]
   by_cases h:idE e=idE x
   · rw[if_pos h,Qdl.2 h.symm];rfl
   · rw[if_neg h]
     have:Qb7 e x=false:=by rw[← Bool.not_eq_true,Qdl];exact fun h'=>h h'.symm
     rw[this];exact ih
theorem Qsf (e:Ev):∀ out:List Ev,Q7 (X3 out) (idE e) (evV e)=X3 (match out.findIdx? (Qb7 e) with | none=>out ++ [e] | some k=>out.set k e)
 | []=>rfl
 | x :: out=>by
   have ih:=Qsf e out;simp only[X3,List.map_cons,Q7,List.findIdx?_cons] at ih ⊢
   by_cases h:idE e=idE x
   · rw[if_pos h,Qdl.2 h.symm]
     simp[h]
   · rw[if_neg h]
     have:Qb7 e x=false:=by rw[← Bool.not_eq_true,Qdl];exact fun h'=>h h'.symm
     rw[this,ih]
     cases out.findIdx? (Qb7 e) <;> simp
theorem Q0a {out:List Ev} {e:Ev} :
 (out.find? (Qb7 e)=none→Q7 (X3 out) (idE e) (evV e)=X3 (Qao out e)) ∧
 (∀ old,out.find? (Qb7 e)=some old→Qaw e old=true→Q7 (X3 out) (idE e) (evV e)=X3 (Qao out e)) ∧
 (∀ old,out.find? (Qb7 e)=some old→Qaw e old=false→X3 out=X3 (Qao out e)):=by
 have hf:∀ (l:List Ev),l.find? (Qb7 e)=(l.findIdx? (Qb7 e)).map fun k=>l.getD k e:=by
  intro l
  induction l with
  | nil=>rfl
  | cons x l ih =>
    rw[List.find?_cons,List.findIdx?_cons]
    cases h:Qb7 e x
    · simp only[cond_false,ih]
      cases l.findIdx? (Qb7 e) <;> simp
    · simp
 rw[Qsf,hf out];unfold Qao
 cases hk:out.findIdx? (Qb7 e) with
 | none=>simp
 | some k =>
   refine⟨by simp,fun old h1 h2 => ?_,fun old h1 h2 => ?_⟩
   · have h1:out.getD k e=old:=by simpa using h1
     simp only[h1,h2,cond_true]
   · have h1:out.getD k e=old:=by simpa using h1
     simp only[h1,h2,cond_false]
theorem Q72 (l:List Ev) (e:Ev):Qc1 (l ++ [e])=Qao (Qc1 l) e:=by simp[Qc1]
def evZ:Ev:=⟨⟨#[]⟩,0,0,0,⟨#[]⟩,⟨#[]⟩,0,⟨#[]⟩⟩
def Xef:Value→Ev
 | .agg cs=>match cs.toList with
   | [.string a,.int _ b,.int _ c,.int _ d,.string e,.string f,.int _ g,.string h]=>⟨a,b,c,d,e,f,g,h⟩
   | _=>evZ
 | _=>evZ
theorem Q7f (e:Ev):Xef (evV e)=e:=rfl
theorem Qn9 {z out:List Ev} (h:(X3 z).Perm (X3 out)):z.Perm out:=by
 have:=h.map fun x=>Xef x.2
 simpa [X3,Q7f,Function.comp_def] using this
def Grow (S:Nat→Prop) (w:World) (k:Nat):Prop:=S k∨w.heap.size≤k
theorem Qac {S:Nat→Prop} {w w':World} {row:Option Nat} (hg:w.grownBy w' row) (hr:∀ k,row=some k→S k):Mod S w w' :=
 ⟨hg.os,hg.tape,hg.output,hg.size,fun k hk hs=>hg.block k hk (fun e=>hs (hr k e.symm))⟩
theorem Qi {S:Nat→Prop} {w w':World} {b:Nat} (ho:Only w w' b) (hb:S b):Mod S w w':=ho.mod.mono fun k _ e=>by rw[e];exact hb
theorem Qp {S:Nat→Prop} {w w1 w2:World} (h:Mod S w w1) (k:Mod (Grow S w) w1 w2):Mod S w w2 :=
 ⟨k.os.trans h.os,k.tape.trans h.tape,k.output.trans h.output,Nat.le_trans h.size k.size,fun i hi hs =>
  (k.block i (Nat.lt_of_lt_of_le hi h.size) (fun hg=>hg.elim hs (fun hh=>by omega))).trans (h.block i hi hs)⟩
theorem Qd {P:Program} {T:Tab} (hT:Qa7 P T) {t:TypeId} {e:TyE} (ht:Qg9 T t=some e) {w:World} {R:Value→World→Prop} {b tb off:Nat} {l:List Value} {v:Value} {p:Addr} (h:At w b tb l) (hp:p=⟨b,off,none⟩) (hn:(Qg v).length=e.size) (hle:Nat.ble (off+e.size) l.length=true) (hone:∀ u∈Qg v,u.oneCell'=true)
 (hk:∀ w',At w' b tb (spl l off (Qg v))→Only w w' b→R undef w'):Qub P (Instr.storeAt t (.pointer (some p)) v) w R:=by
 subst hp;exact Qgx hT ht h hn (Nat.le_of_ble_eq_true hle) hone hk
section
variable {α:Type} {enc:α→List Value} {sz:Nat} {te:TypeId} {w w1 w2 w3:World} {S S':Nat→Prop} {bm:Nat} {rows:ByteArray→List α} {L:List (ByteArray×(Option Addr×Nat))} {P:Program} {mt kt et:TypeId}
def toV (rows:ByteArray→List α) (L:List (ByteArray×(Option Addr×Nat))):List (ByteArray×Value):=L.map fun x=>(x.1,Value.slice x.2.1 (rows x.1).length x.2.2)
structure Qa0 (enc:α→List Value) (sz:Nat) (te:TypeId) (w:World) (S:Nat→Prop) (bm:Nat) (rows:ByteArray→List α) (L:List (ByteArray×(Option Addr×Nat))):Prop where
 mine:S bm
 map:MapAt w bm Value.string (toV rows L)
 row:∀ x∈L,Own enc sz te 0 w x.2.1 x.2.2 (rows x.1)∧∀ a,x.2.1=some a→S a.block∧a.block≠bm
 ne:∀ x∈L,rows x.1 ≠ []
 apart:L.Pairwise (fun x y=>∀ a a',x.2.1=some a→y.2.1=some a'→a.block≠a'.block)
 all:∀ k,Qe L k=none→rows k = []
theorem Qa0.keys (h:Qa0 enc sz te w S bm rows L):L.Pairwise (fun x y=>x.1≠y.1):=by
 have:=h.map.keys;unfold toV at this;rw[List.pairwise_map] at this
 exact this
theorem Qxr (k:ByteArray):∀ L:List (ByteArray×(Option Addr×Nat)),Qe (toV rows L) k=(Qe L k).map fun p=>Value.slice p.1 (rows k).length p.2
 | []=>rfl
 | x :: L=>by
   simp only[toV,List.map_cons,Qe]
   by_cases e:k=x.1
   · subst e;simp
   · rw[if_neg e,if_neg e];exact Qxr k L
theorem Qa0.keep (h:Qa0 enc sz te w S bm rows L) (hk:∀ k,k<w.heap.size→S k→w1.heap[k]? = w.heap[k]? ∧ S' k):Qa0 enc sz te w1 S' bm rows L where
 mine:=(hk bm h.map.lt h.mine).2
 map:=h.map.keep (hk bm h.map.lt h.mine).1
 row x hx:=by
  obtain⟨h1,h2⟩:=h.row x hx
  exact⟨h1.keep fun a ha=>(hk a.block (h1.block ha).2 (h2 a ha).1).1,fun a ha=>⟨(hk a.block (h1.block ha).2 (h2 a ha).1).2,(h2 a ha).2⟩⟩
 ne:=h.ne
 apart:=h.apart
 all:=h.all
def rowAt (L:List (ByteArray×(Option Addr×Nat))) (k:ByteArray):Option Addr×Nat:=(Qe L k).getD (none,0)
theorem Qa0.own (h:Qa0 enc sz te w S bm rows L) (k:ByteArray):Own enc sz te 0 w (rowAt L k).1 (rowAt L k).2 (rows k)∧∀ a,(rowAt L k).1=some a→S a.block∧a.block≠bm:=by
 unfold rowAt
 cases hk:Qe L k with
 | none=>rw[h.all k hk];exact⟨Own.nil,fun a ha=>by simp at ha⟩
 | some p =>
   have:=h.row _ (Xt hk)
   exact this
theorem Qa0.look (h:Qa0 enc sz te w S bm rows L) (ht:P.underlying mt=some (.map kt et)) (hkt:P.underlying kt=some .string) {e:TyE} (he:Q5 P et=some e) (hz:e.zero = .slice none 0 0) (k:ByteArray) {cl:Cl} (hc:Kept cl w bm) :
 RdS P cl w (Instr.lookup mt (.map (some bm)) (.string k) false) (.slice (rowAt L k).1 (rows k).length (rowAt L k).2):=by
 have:=X7 ht (Qo hkt) he hc h.map k;rw[Qxr,hz] at this;unfold rowAt
 cases hk:Qe L k with
 | none=>rw[hk] at this;rw[h.all k hk];exact this
 | some p=>rw[hk] at this;exact this
def Qkl (rows:ByteArray→List α) (k:ByteArray) (r:List α) (x:ByteArray):List α:=if x=k then r else rows x
theorem Qyp {k:ByteArray} {p:Option Addr×Nat} {r:List α}:∀ {L:List (ByteArray×(Option Addr×Nat))},L.Pairwise (fun x y=>x.1≠y.1)→toV (Qkl rows k r) (Q7 L k p)=Q7 (toV rows L) k (.slice p.1 r.length p.2)
 | [],_=>by simp[toV,Q7,Qkl]
 | x :: L,hp=>by
   rw[List.pairwise_cons] at hp;simp only[toV,List.map_cons,Q7]
   by_cases e:k=x.1
   · subst e
     simp only[if_true,List.map_cons,Qkl]
     congr 1
     apply List.map_congr_left
     intro y hy;simp only[if_neg (fun e:y.1=x.1=>hp.1 y hy e.symm)]
   · simp only[if_neg e,List.map_cons,Qkl,if_neg (fun q:x.1=k=>e q.symm)]
     congr 1
     exact Qyp hp.2
theorem Qw4 {β:Type} {R:ByteArray×β→ByteArray×β→Prop} {k:ByteArray} {p:β}:∀ {L:List (ByteArray×β)},L.Pairwise R→(∀ y∈L,y.1≠k→R (k,p) y)→(∀ y∈L,y.1≠k→R y (k,p))→L.Pairwise (fun x y=>x.1≠y.1)→(Q7 L k p).Pairwise R
 | [],_,_,_,_=>by simp[Q7]
 | x :: L,hp,h1,h2,hk=>by
   rw[List.pairwise_cons] at hp hk;simp only[Q7]
   by_cases e:k=x.1
   · subst e
     rw[if_pos rfl,List.pairwise_cons]
     exact⟨fun y hy=>h1 y (by simp[hy]) (fun q=>hk.1 y hy q.symm),hp.2⟩
   · rw[if_neg e,List.pairwise_cons]
     refine⟨fun y hy => ?_,Qw4 hp.2 (fun y hy=>h1 y (by simp[hy])) (fun y hy=>h2 y (by simp[hy])) hk.2⟩;rcases X4 hy with rfl | hy
     · exact h2 x (by simp) (fun q=>e q.symm)
     · exact hp.1 y hy
theorem Qa0.push (h:Qa0 enc sz te w S bm rows L) {k:ByteArray} {r:List α} (hr:r ≠ []) {A':Option Addr} {c':Nat} (hx:Ext w w1) (hg:w1.grownBy w2 ((rowAt L k).1.map (·.block))) (hA:A'=(rowAt L k).1∨A'.map (·.block)=(rowAt L k).1.map (·.block)∨A'.map (·.block)=some w1.heap.size)
 (hown:Own enc sz te 0 w2 A' c' r) (hm:MapAt w3 bm Value.string (Q7 (toV rows L) k (.slice A' r.length c'))) (ho:Only w2 w3 bm):Qa0 enc sz te w3 (Grow S w) bm (Qkl rows k r) (Q7 L k (A',c')):=by
 have hbm:=h.map.lt
 have hblk:∀ a,A'=some a→a.block≠bm∧Grow S w a.block∧((∃ a0,(rowAt L k).1=some a0∧a0.block=a.block)∨a.block=w1.heap.size):=by
  intro a ha;subst ha;have h2:=(h.own k).2;have hs:=hx.size;rcases hA with hA | hA | hA
  · obtain⟨q1,q2⟩:=h2 a hA.symm
    exact⟨q2,.inl q1,.inl ⟨a,hA.symm,rfl⟩⟩
  · cases hr0:(rowAt L k).1 with
    | none=>rw[hr0] at hA;simp at hA
    | some a0 =>
      rw[hr0] at hA;obtain⟨q1,q2⟩:=h2 a0 hr0;have e:a.block=a0.block:=by simpa using hA
      rw[e]
      exact⟨q2,.inl q1,.inl ⟨a0,rfl,rfl⟩⟩
  · have e:a.block=w1.heap.size:=by simpa using hA
    rw[e]
    exact⟨by omega,.inr hs,.inr rfl⟩
 have hoth:∀ x∈L,x.1≠k→Own enc sz te 0 w3 x.2.1 x.2.2 (rows x.1)∧(∀ a,x.2.1=some a→S a.block∧a.block≠bm)∧∀ a a',x.2.1=some a→A'=some a'→a.block≠a'.block:=by
  intro x hxL hne;obtain⟨h1,h2⟩:=h.row x hxL
  have hap:∀ a a0,x.2.1=some a→(rowAt L k).1=some a0→a.block≠a0.block:=by
   intro a a0 ha ha0;unfold rowAt at ha0
   cases hk:Qe L k with
   | none=>rw[hk] at ha0;simp at ha0
   | some p =>
     rw[hk] at ha0;have hin:=Xt hk;have hpw:=h.apart
     have:∀ {L:List (ByteArray×(Option Addr×Nat))},L.Pairwise (fun x y=>∀ a a',x.2.1=some a→y.2.1=some a'→a.block≠a'.block)→x∈L→(k,p)∈L→a.block≠a0.block:=by
      intro L
      induction L with
      | nil=>intro _ h;simp at h
      | cons y L ih =>
        intro hp m1 m2;rw[List.pairwise_cons] at hp;rcases List.mem_cons.1 m1 with e1 | n1 <;> rcases List.mem_cons.1 m2 with e2 | n2
        · exact absurd (by rw[e1,← e2]) hne
        · subst e1;exact hp.1 _ n2 a a0 ha (by simpa using ha0)
        · subst e2;exact fun q=>hp.1 _ n1 a0 a (by simpa using ha0) ha q.symm
        · exact ih hp.2 n1 n2
     exact this hpw hxL hin
  refine⟨h1.keep fun a ha => ?_,h2,fun a a' ha ha' => ?_⟩
  · have hlt:=(h1.block ha).2
    have hs:=hx.size;rw[ho.block _ (h2 a ha).2,hg.block _ (by omega) ?_,hx.block _ hlt];intro e
    cases hr0:(rowAt L k).1 with
    | none=>rw[hr0] at e;simp at e
    | some a0=>rw[hr0] at e;exact hap a a0 ha hr0 (by simpa using e)
  · have hlt:=(h1.block ha).2
    have hs:=hx.size;rcases (hblk a' ha').2.2 with⟨a0,q1,q2⟩ | q
    · rw[← q2];exact hap a a0 ha q1
    · rw[q];omega
 refine⟨.inl h.mine,?_,?_,?_,?_,?_⟩
 · rw[Qyp h.keys];exact hm
 · intro x hx'
   rcases X4 hx' with rfl | hxL
   · refine⟨?_,fun a ha=>⟨(hblk a ha).2.1,(hblk a ha).1⟩⟩
     simp only[Qkl,if_true]
     exact hown.keep fun a ha=>ho.block _ (hblk a ha).1
   · by_cases e:x.1=k
     · have hin:∀ {L:List (ByteArray×(Option Addr×Nat))},L.Pairwise (fun x y=>x.1≠y.1)→x∈Q7 L k (A',c')→x.1=k→x=(k,(A',c')):=by
        intro L hp hm' he;have h1:=Qcd (X5 hp) (k:=x.1) (v:=x.2) (by simpa using hm');rw[he,Q8] at h1;have:(A',c')=x.2:=by simpa using h1
        rw[this,← he]
       have:=hin h.keys hx' e;subst this;refine⟨?_,fun a ha=>⟨(hblk a ha).2.1,(hblk a ha).1⟩⟩;simp only[Qkl,if_true]
       exact hown.keep fun a ha=>ho.block _ (hblk a ha).1
     · obtain⟨q1,q2,_⟩:=hoth x hxL e
       simp only[Qkl,if_neg e]
       exact⟨q1,fun a ha=>⟨.inl (q2 a ha).1,(q2 a ha).2⟩⟩
 · intro x hx'
   by_cases e:x.1=k
   · simp only[Qkl,if_pos e];exact hr
   · rcases X4 hx' with rfl | hxL
     · exact absurd rfl e
     · simp only[Qkl,if_neg e];exact h.ne x hxL
 · refine Qw4 h.apart (fun y hy hne a a' ha ha' => ?_) (fun y hy hne a a' ha ha' => ?_) h.keys
   · exact fun q=>(hoth y hy hne).2.2 a' a ha' ha q.symm
   · exact(hoth y hy hne).2.2 a a' ha ha'
 · intro k' hk'
   rw[Xg] at hk'
   by_cases e:k'=k
   · rw[if_pos e] at hk';cases hk'
   · rw[if_neg e] at hk'
     simp only[Qkl,if_neg e]
     exact h.all k' hk'
theorem Qa0.new {b:Nat} (hn:New w w1 b (.map #[] 0)) (hb:S b):Qa0 enc sz te w1 S b (fun _ => []) [] :=
 ⟨hb,MapAt.new hn,by simp,by simp,by simp,fun _ _=>rfl⟩
end
theorem Qwb {α:Type} {enc:α→List Value} {sz:Nat} {w:World} {A:Option Addr} {l:List α} (h:Sl enc sz w A l) (k:Nat):Sl enc sz w A (l.take k):=fun i x hi=>by
 have hlt:i<(l.take k).length:=(List.getElem?_eq_some_iff.1 hi).1;rw[List.length_take] at hlt;rw[List.getElem?_take] at hi;rw[if_pos (by omega)] at hi
 exact h i x hi
theorem Xbc {α:Type} {enc:α→List Value} {sz:Nat} {w:World} {A:Option Addr} {l:List α} (h:Sl enc sz w A l) (k:Nat):Sl enc sz w (A.map (·.add (k*sz))) (l.drop k):=fun i x hi=>by
 rw[List.getElem?_drop] at hi;obtain⟨a,rfl,hc⟩:=h (k+i) x hi;refine⟨a.add (k*sz),rfl,?_⟩;rw[Xe,← Nat.add_mul]
 exact hc
theorem Qjo {α:Type} {enc:α→List Value} {sz:Nat} {w:World} {A:Option Addr} {l:List α} (h:Sl enc sz w A l) (k c:Nat) (hc:l.length≤c):Sl enc sz w (if c=k then A else A.map (·.add (k*sz))) (l.drop k):=by
 split
 · rw[List.drop_eq_nil_of_le (by omega)];exact Sl.nil
 · exact Xbc h k
theorem Q5r {α:Type} {enc:α→List Value} {sz:Nat} {w w1:World} {A:Option Addr} {l:List α} (h:Sl enc sz w A l) (hk:∀ a,A=some a→w1.heap[a.block]? = w.heap[a.block]?):Sl enc sz w1 A l:=fun i x hi=>by
 obtain⟨a,ha,hc⟩:=h i x hi;refine⟨a,ha,fun j v hj => ?_⟩;have:=hc j v hj;rw[World.cell?_of_block (w:=w) (by rw[add_block,add_block];exact hk a ha)]
 exact this
theorem Own.base {α:Type} {enc:α→List Value} {sz te:Nat} {base base':Nat} {w:World} {A:Option Addr} {c:Nat} {l:List α} (h:Own enc sz te base w A c l) (hb:base'≤base):Own enc sz te base' w A c l:=by
 refine⟨h.1,?_⟩;rcases h.2 with h0 | ⟨g,cap,cur,hv,hg,h1⟩
 · exact .inl h0
 · exact .inr ⟨g,cap,cur,hv,by omega,h1⟩
structure Qne {α:Type} (P:Program) (t te:TypeId) (enc:α→List Value) (sz bytes:Nat):Prop where
 und:P.underlying t=some (.slice te)
 ty:∃ ety,Q5 P te=some ety∧ety.size=sz∧(Qg ety.zero).length=sz
 by_:(P.info? te).map (·.bytes)=some bytes
 small:bytes≤1000
 pos:0<sz
 sz:∀ x,(enc x).length=sz
 one:∀ x,∀ u∈enc x,u.oneCell'=true
section
variable {α:Type} {P:Program} {t te:TypeId} {enc:α→List Value} {sz bytes:Nat}
theorem Qs (R0:Qne P t te enc sz bytes) {w:World} {A:Option Addr} {c base:Nat} {l:List α} {R:Value→World→Prop} {ty:TypeId} {n m:Nat} (hn:n=l.length) (hown:Own enc sz te base w A c l) {B:Option Addr} {cB:Nat} {news:List α} (hm:m=news.length) (hs:Sl enc sz w B news) (hl:l.length+news.length<100000000000) (hbase:base≤w.heap.size)
 (h:∀ A' c' w',Own enc sz te base w' A' c' (l++news)→w.grownBy w' (A.map (·.block))→(A'=A∨A'.map (·.block)=A.map (·.block)∨A'.map (·.block)=some w.heap.size)→R (.slice A' (l++news).length c') w') :
 Qhr P (Builtin.append_ #[t,t] ty [.slice A n c,.slice B m cB].toArray) w R:=by
 obtain⟨ety,h1,h2,h3⟩:=R0.ty;subst hn hm;have hb:(l.length+news.length)*bytes≤100000000000*1000:=Nat.mul_le_mul (by omega) R0.small
 exact Qdk h1 R0.und R0.by_ h2 h3 R0.pos R0.sz R0.one hown hs (by omega) (by omega) hbase h
theorem Qne.made (R0:Qne P t te enc sz bytes) {w w1:World} {b base:Nat} (h:New w w1 b (.cells ([]:List Value).toArray te)) (hb:base≤w.heap.size):Own enc sz te base w1 (some ⟨b,0,none⟩) 0 []:=Own.made h hb
theorem Qne.new1 (R0:Qne P t te enc sz bytes) {w w1:World} {b:Nat} {x:α} (h:New w w1 b (.cells (enc x).toArray te)):Sl enc sz w1 (some ⟨b,0,none⟩) [x]:=by
 have h':New w w1 b (.cells ([x].flatMap enc).toArray te):=by simpa using h
 exact Qbd R0.sz h'
theorem Qne.stay (R0:Qne P t te enc sz bytes) {w w1:World} {A:Option Addr} {l:List α} (h:Sl enc sz w A l) (hk:∀ a,A=some a→a.block<w.heap.size→w1.heap[a.block]? = w.heap[a.block]?):Sl enc sz w1 A l:=fun i x hi=>by
 obtain⟨a,ha,hc⟩:=h i x hi
 have h0:∃ v,(enc x)[0]? = some v:=by
  have:=R0.sz x;have hp:=R0.pos
  exact⟨_,List.getElem?_eq_getElem (by omega)⟩
 obtain⟨v,hv⟩:=h0;have hlt:=cell_lt (hc 0 v hv);rw[add_block,add_block] at hlt;refine⟨a,ha,fun j v hj => ?_⟩;rw[World.cell?_of_block (w:=w) (by rw[add_block,add_block];exact hk a ha hlt)]
 exact hc j v hj
theorem Xy {w:World} {A:Option Addr} {c base:Nat} {l:List α} (h:Own enc sz te base w A c l):∀ k,A.map (·.block)=some k→base≤k:=by
 intro k hk
 cases A with
 | none=>simp at hk
 | some a=>have:=h.block (a:=a) rfl;simp at hk;omega
end
theorem Qkk:Qne Tryz.prog 23 38 evC 8 96:=⟨Qys,⟨_,ty38_ok,rfl,rfl⟩,by38,by decide,by decide,Xz,Qbo⟩
theorem Qb6:Qne Tryz.prog 60 9 Qav 1 16:=⟨Xdd,⟨_,ty9_ok,rfl,rfl⟩,by9,by decide,by decide,Xi,Qyi⟩
end Go.Proofs.YtohkipkjleldpaaGreatDoor
