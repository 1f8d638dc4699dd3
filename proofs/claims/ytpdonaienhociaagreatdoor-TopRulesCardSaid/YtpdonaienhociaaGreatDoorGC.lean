import Derived.Laws.Cover3
import Derived.Laws.Pointers
import Derived.Lib.IndexBytes
import Derived.Lib.SplitLaws
import Derived.Lib.CountLaws
import Derived.Test.YtpdonaienhociaaGreatDoorGB
import Derived.Test.YtpdonaienhociaaGreatDoorHShelf
set_option linter.all false
namespace Go.Proofs.YtpdonaienhociaaGreatDoor
open Go.Se Go.RowKit
theorem Qa9 {P:Program} {f:FuncId} {args:List Value} {w:World} {v:Value} {Q:World->Prop} (ok:Qtv P f) (h:Calls P f args.toArray w fun e w'=>e = .returned v/\Q w') {R:Value->World->Prop} (hR:∀ w',Q w'->R v w'):Cal P f args w R :=
 ⟨ok,h.mono fun e w' ⟨he,hq⟩=>⟨v,he,hR w' hq⟩⟩
theorem Qsy:Qtv Tryz.prog 111:=⟨_,Tryz.func111,rfl,rfl⟩
theorem Qpb (a b:Bj) (w:World):Cal Tryz.prog 111 [.string a,.string b] w fun r w'=>r = Vj (Qch a b)/\w'=w :=
 Qa9 Qsy (Tryz.strings_Compare a b w) fun w' hw=>⟨by rw[Xfi],hw⟩
theorem Qqk (a:Int) (w:World):Cal Tryz.prog 177 [Vj a] w fun r w'=>r = .bool false/\w'=w:=by
 refine Fi Tryz.func177 rfl _ rfl rfl (Hh ?_);exact⟨by simp,rfl⟩
theorem Qih (a b:Int) (w:World):Cal Tryz.prog 110 [Vj a,Vj b] w fun r w'=>r = Vj (Qcy a b)/\w'=w:=by
 refine Fi Tryz.func110 rfl _ rfl rfl (Hh ?_);refine(Qqk a w).mono ?_;rintro _ _ ⟨rfl,rfl⟩;refine Hh ?_;refine(Qqk b _).mono ?_;rintro _ _ ⟨rfl,rfl⟩;refine Hh ?_;constructor
 . intro h;cases h
 intro _;refine Hh ?_;constructor
 . intro h;cases h
 intro _;refine Hh ?_;constructor
 . intro h;have h:a<b:=Su h;refine Hh ?_;exact⟨by unfold Qcy;rw[if_pos h],rfl⟩
 intro h;have h:¬ a<b:=Su h;refine Hh ?_;constructor
 . intro k;have k:b<a:=Su k;refine Hh ?_;exact⟨by unfold Qcy;rw[if_neg h,if_pos k],rfl⟩
 intro k;have k:¬ b<a:=Su k;refine Hh ?_;exact⟨by unfold Qcy;rw[if_neg h,if_neg k],rfl⟩
def Qfu (z:Int):List Value := [Vj z]
theorem X4 (z:Int):(Qfu z).length=1:=rfl
theorem Q0y (z:Int):∀ u∈Qfu z,u.oneCell'=true:=by simp[Qfu,Value.oneCell']
abbrev SlI:=Sl Qfu 1
def orL (l:List Int):Int:=(l.find? (fun z=>decide (z≠0))).getD 0
theorem Qen (l:List Int) (A:Option Addr) (c:Nat) (w:World) (hs:SlI w A l) (hl:l.length<1000000000000) :
 Cal Tryz.prog 109 [.slice A l.length c] w fun r w'=>r = Vj (orL l)/\w'=w:=by
 refine Fi Tryz.func109 rfl _ rfl rfl (Hh ?_)
 refine Qh Qb (fun(k:Nat) w'=>k<=l.length/\w'=w/\∀ i (hi:i<l.length),i<k->l[i]=0)
  (fun k => [(6,.slice A l.length c),(7,Vj l.length),(8,Vj k),(3,Vj 0)]) (fun k=>l.length-k) 0 ⟨Om,rfl,fun i _ h=>Om⟩ Rr ?_
 rintro k w1 ⟨hk,rfl,hall⟩;refine Hh ?_;constructor
 . intro hlt;have hlt:k<l.length:=Su hlt;refine Hh ?_;obtain⟨a,rfl,hc⟩:=hs.get hlt;refine⟨a,Ix,Hh ?_⟩;refine⟨Vj l[k],Qs hc,Hh ?_⟩;constructor
   . intro h;have h:l[k]≠0:=Su h;refine Hh ?_;refine⟨?_,rfl⟩;unfold orL;have:l.find? (fun z=>decide (z≠0))=some l[k]:=(by rw[List.find?_eq_some_iff_getElem];refine⟨Su h,k,hlt,rfl,fun j hj => ?_⟩;rw[hall j Om hj];simp);rw[this];rfl
   . intro h;have h:l[k]=0:=Su h;refine Hh ?_;refine⟨_,wrap_succ Om,Hh ?_⟩;refine⟨k+1,Om,⟨Om,rfl,fun i hi hik => ?_⟩,Rr⟩
     by_cases e:i=k
     . subst e;exact h
     . exact hall i hi Om
 . intro hge;have hge:l.length<=k:=Su hge;refine Hh ?_;refine⟨?_,rfl⟩;have:l.find? (fun z=>decide (z≠0))=none:=(by rw[List.find?_eq_none];intro x hx;obtain⟨i,hi,rfl⟩:=Za2 hx;rw[hall i hi Om];simp);unfold orL;rw[this];rfl
theorem Qbb (a b:Ev) (w:World):Cal Tryz.prog 65 [evV a,evV b] w fun r w'=>r = Vj (Qjc a b)/\Ext w w':=by
 refine Fi Tryz.func65 rfl _ rfl rfl (Hh ?_);intro b1 w1 hn1;refine Hh ?_;intro b2 w2 hn2;have h1:=hn1.At.ext hn2.ext;have h2:=hn2.At;have hx:=hn1.ext.trans hn2.ext;refine Hh ?_;refine Dr .ext [0,1,2,3,5,6,7,8,10,11,12,13,4,9] [14,15,16,17] (Hh ?_);replace h1:At w2.drew b1 _ _:=h1;replace h2:At w2.drew b2 _ _:=h2;replace hx:Ext w w2.drew:=hx.drew;generalize w2.drew=w3 at h1 h2 hx ⊢;refine⟨_,h1.one rfl,Hh ?_⟩;refine⟨_,h2.one rfl,Hh ?_⟩;refine⟨_,h1.one0,Hh ?_⟩;refine⟨_,h2.one0,Hh ?_⟩;refine⟨_,h1.one rfl,Hh ?_⟩;refine⟨_,h2.one rfl,Hh ?_⟩;refine(Qih _ _ _).mono ?_;rintro _ _ ⟨rfl,rfl⟩;refine⟨Ext.refl _,Hh ?_⟩;refine(Qpb _ _ _).mono ?_;rintro _ _ ⟨rfl,rfl⟩;refine⟨Ext.refl _,Hh ?_⟩;refine(Qih _ _ _).mono ?_;rintro _ _ ⟨rfl,rfl⟩;refine Hh ?_;intro b6 w6 hn6;refine Hh ?_;refine(Qen [Qcy a.at_ b.at_,Qch a.src b.src,Qcy a.num b.num] _ _ _ (Qak (enc:=Qfu) X4 hn6) (by simp)).mono ?_;rintro _ _ ⟨rfl,rfl⟩;refine Hh ?_;refine⟨?_,hx.trans hn6.ext⟩;unfold Qjc orL;congr 1
 by_cases p:Qcy a.at_ b.at_=0
 . by_cases q:Qch a.src b.src=0
   . by_cases r:Qcy a.num b.num=0 <;> simp[p,q,r]
   . simp[p,q]
 . simp[p]
def Blk (A:Option Addr) (k:Nat):Prop:=∃ a,A=some a/\k=a.block
theorem Only.blk {w w':World} {a:Addr} (h:Only w w' a.block):Mod (Blk (some a)) w w':=h.mod.mono fun k _ e=>⟨a,rfl,e⟩
theorem Qgf {w w1 w2:World} {S:Nat->Prop} (hx:Ext w w1) (hm:Mod S w1 w2) (h:∀ k,S k->w.heap.size<=k):Ext w w2 :=
 ⟨hm.os.trans hx.os,hm.tape.trans hx.tape,hm.output.trans hx.output,Zv hx.size hm.size,fun i hi=>(hm.block i (Zal hi hx.size) (fun hs=>by have:=h i hs;omega)).trans (hx.block i hi)⟩
section
variable {α:Type}
theorem Qmz (P r s:List α) (u v:α):(P++u :: (r++v :: s))[P.length]? = some u:=by simp
theorem Qm0 (P r s:List α) (u v:α):(P++u :: (r++v :: s))[P.length+1+r.length]? = some v:=by
 rw[Z5 Om,show P.length+1+r.length-P.length=r.length+1 by omega];simp
theorem Qtn (P r s:List α) (u v:α):((P++u :: (r++v :: s)).set P.length v).set (P.length+1+r.length) u=P++v :: (r++u :: s):=by
 rw[Zb6 _ _ Om,Nat.sub_self,List.set_cons_zero,Zb6 _ _ Om,show P.length+1+r.length-P.length=r.length+1 by omega,List.set_cons_succ,Zb6 _ _ Om,Nat.sub_self,List.set_cons_zero]
theorem Qwr (P r s:List α) (u v:α):((P++u :: (r++v :: s)).set (P.length+1+r.length) u).set P.length v=P++v :: (r++u :: s):=by
 rw[List.set_comm _ _ Om,Qtn]
theorem Qwu {x:List α} {k:Nat} (h:k<x.length):x=x.take k++x[k] :: x.drop (k+1):=by
 rw[<- Zak h,Zah]
end
theorem Qdm {w:World} {A:Option Addr} {c base:Nat} {d:List Ev} {k:Nat} {x:Ev} (h:Own evC 8 77 base w A c d) (hk:d[k]? = some x):∃ a,A=some a/\Xp w (a.add (k*8)) (evC x) :=
 h.sl Qag k x hk
theorem Qd5 {m n:Nat} (h:n<=m) (hm:m<9223372036854775807):((m-n:Nat):Int)=IntKind.i64.wrap ((m:Int)-(n:Int)):=by
 rw[<- wrap_i64 ⟨Om,Om⟩];omega
theorem wrap_eq {z x:Int} (h:z=x) (hb:-9223372036854775808<=x/\x<=9223372036854775807):z=IntKind.i64.wrap x:=by rw[h];exact wrap_i64 hb
theorem Qhc {w:World} {a:Addr} {c base:Nat} {d:List Ev} {k:Nat} (x:Ev) (hk:k<d.length) (hown:Own evC 8 77 base w (some a) c d) {R:Value->World->Prop}
 (h:∀ w',Own evC 8 77 base w' (some a) c (d.set k x)->Only w w' a.block->R undef w'):Qxc Tryz.prog (Instr.storeAt 77 (.pointer (some (a.add (k*8)))) (.agg (evC x).toArray)) w R :=
 Qpa (enc:=evC) (sz:=8) (T:=Tt) Qb (e:=ty77) rfl rfl Qag Qbg hk x rfl hown h
theorem Qfk (p x q y s:List Ev) (n a b:Nat) (fv:Value) (A:Option Addr) (c base:Nat) (w:World) (hx:x.length=n) (hy:y.length=n) (ha:p.length=a) (hb:p.length+n+q.length=b) (L:Nat) (hL:(p++x++q++y++s).length=L) (hLs:L<1000000000000)
 (hown:Own evC 8 77 base w A c (p++x++q++y++s)) :
 Cal Tryz.prog 364 [.slice A L c,Vj a,Vj b,Vj n,fv] w fun r w'=>r = .tuple #[]/\Own evC 8 77 base w' A c (p++y++q++x++s)/\Mod (Blk A) w w':=by
 refine Fi Tryz.func364 rfl _ rfl rfl (Hh ?_)
 refine Qh Qb (fun(k:Nat) w'=>k<=n/\Own evC 8 77 base w' A c (p++(y.take k++x.drop k)++q++(x.take k++y.drop k)++s)/\Mod (Blk A) w w')
  (fun k => [(0,.slice A L c),(1,Vj a),(2,Vj b),(3,Vj n),(4,fv),(10,Vj k)]) (fun k=>n-k) 0 ⟨Om,Su hown,Mod.refl _ _⟩ Rr ?_
 rintro k w1 ⟨hk,hown1,hm⟩;refine Hh ?_;constructor
 . intro hlt;have hlt:k<n:=Su hlt;have e1:p++(y.take k++x.drop k)++q++(x.take k++y.drop k)++s=(p++y.take k)++x[k] :: ((x.drop (k+1)++q++x.take k)++y[k] :: (y.drop (k+1)++s)):=(by rw[Zak (l:=x) Om,Zak (l:=y) Om];simp only[Zaa,Zay,Zan]);have e2:p++(y.take (k+1)++x.drop (k+1))++q++(x.take (k+1)++y.drop (k+1))++s=(p++y.take k)++y[k] :: ((x.drop (k+1)++q++x.take k)++x[k] :: (y.drop (k+1)++s)):=(by rw[Za (l:=x) Om,Za (l:=y) Om];simp only[Zaa,Zay,Zan]);rw[e1] at hown1;have hi:(p++y.take k).length=a+k:=by simp;omega
   have hj:(p++y.take k).length+1+(x.drop (k+1)++q++x.take k).length=b+k:=by simp;omega
   have g1:=Qmz (p++y.take k) (x.drop (k+1)++q++x.take k) (y.drop (k+1)++s) x[k] y[k];have g2:=Qm0 (p++y.take k) (x.drop (k+1)++q++x.take k) (y.drop (k+1)++s) x[k] y[k];have g3:=Qtn (p++y.take k) (x.drop (k+1)++q++x.take k) (y.drop (k+1)++s) x[k] y[k];rw[hi] at g1;rw[hj] at g2;rw[hj,hi,<- e2] at g3;have hdl:((p++y.take k)++x[k] :: ((x.drop (k+1)++q++x.take k)++y[k] :: (y.drop (k+1)++s))).length=L:=(by rw[<- e1,<- hL];simp;omega);generalize (p++y.take k)++x[k] :: ((x.drop (k+1)++q++x.take k)++y[k] :: (y.drop (k+1)++s))=d at hown1 g1 g2 g3 hdl;have hal:a+k<L:=by rw[<- hdl];exact(Zi.1 g1).1
   have hbl:b+k<L:=by rw[<- hdl];exact(Zi.1 g2).1
   obtain⟨a0,hA,hc2⟩:=Qdm hown1 g2;obtain⟨_,_,hc1⟩:=Qdm hown1 g1;subst hA;obtain rfl:a0=_:=by injection ‹some a0=some _›
   refine Hh ?_;refine Qdi (.mods (Blk (some a0))) [(0,true),(1,true),(2,true),(3,true),(4,false),(5,false),(6,false),(7,false),(8,true),(9,true),(10,true),(11,true),(12,true),(13,true),(14,true),(15,true),(16,true),(17,true),(18,true),(19,true),(20,true)] [21,22] [23] [21,23] Qb mixed Kr (by first | (intro h;cases h;done) | (intro _;rfl)) (Hh ?_);refine⟨((a+k:Nat):Int),Qa5 Om,Hh ?_⟩;refine⟨((b+k:Nat):Int),Qa5 Om,Hh ?_⟩;refine⟨((b+k:Nat):Int),Qa5 Om,Hh ?_⟩;refine⟨a0,Ix,Hh ?_⟩;refine⟨evC y[k],⟨rfl,hc2⟩,Hh ?_⟩;refine⟨((a+k:Nat):Int),Qa5 Om,Hh ?_⟩;refine⟨a0,Ix,Hh ?_⟩;refine⟨evC x[k],⟨rfl,hc1⟩,Hh ?_⟩;refine⟨a0,Ix,Hh ?_⟩;refine Qhc (w:=w1.drew) (k:=a+k) y[k] Om hown1 fun w2 hown2 ho2 => ?_
   refine⟨ho2.blk,Hh ?_⟩;refine⟨a0,Ix,Hh ?_⟩;refine Qhc (k:=b+k) x[k] (by simp;omega) hown2 fun w3 hown3 ho3 => ?_
   rw[g3] at hown3;refine Hh ?_;refine⟨_,wrap_succ Om,Hh ?_⟩;exact⟨k+1,Om,⟨Om,hown3,(hm.trans (Mod.trans (b:=w1.drew) ⟨rfl,rfl,rfl,Zg _,fun _ _ _=>rfl⟩ (ho2.blk.trans ho3.blk)))⟩,Rr⟩
 . intro hge;have hge:n<=k:=Su hge;have hkn:k=n:=Om;subst hkn;refine Hh ?_;rw[Zb (l:=y) Om,Zb (l:=x) Om,Zb2 (l:=x) Om,Zb2 (l:=y) Om] at hown1;exact⟨rfl,Su hown1,hm⟩
theorem Mod.drew {S:Nat->Prop} (w:World):Mod S w w.drew:=⟨rfl,rfl,rfl,Zg _,fun _ _ _=>rfl⟩
theorem Qyy (p x y s:List Ev) (a m b:Nat) (fv:Value) (A:Option Addr) (c base:Nat) (w:World) (hx0:x ≠ []) (hy0:y ≠ []) (ha:p.length=a) (hm:p.length+x.length=m) (hb:p.length+x.length+y.length=b) (L:Nat) (hL:(p++x++y++s).length=L) (hLs:L<1000000000000)
 (hown:Own evC 8 77 base w A c (p++x++y++s)) :
 Cal Tryz.prog 320 [.slice A L c,Vj a,Vj m,Vj b,fv] w fun r w'=>r = .tuple #[]/\Own evC 8 77 base w' A c (p++y++x++s)/\Mod (Blk A) w w':=by
 have hL':p.length+x.length+y.length+s.length=L:=by rw[<- hL];simp;omega
 refine Fi Tryz.func320 rfl _ rfl rfl (Hh ?_);refine⟨((m-a:Nat):Int),Qd5 Om Om,Hh ?_⟩;refine⟨((b-m:Nat):Int),Qd5 Om Om,Hh ?_⟩
 refine Qh Qb (fun(i:List Ev×List Ev×List Ev×List Ev) w'=>i.1.length+i.2.1.length=m/\i.2.1 ≠ []/\i.2.2.1 ≠ []/\i.1.length+i.2.1.length+i.2.2.1.length+i.2.2.2.length=L/\i.1++i.2.2.1++i.2.1++i.2.2.2=p++y++x++s/\Own evC 8 77 base w' A c (i.1++i.2.1++i.2.2.1++i.2.2.2)/\Mod (Blk A) w w')
  (fun i => [(0,.slice A L c),(2,Vj m),(4,fv),(10,Vj i.2.1.length),(11,Vj i.2.2.1.length)]) (fun i=>i.2.1.length+i.2.2.1.length) (p,x,y,s)
  ⟨hm,hx0,hy0,hL',rfl,hown,Mod.refl _ _⟩ ⟨rfl,rfl,rfl,int_eq (Sj),int_eq (Sj),trivial⟩ ?_
 rintro ⟨P,X,Y,S⟩ w1 ⟨h1,hX0,hY0,hl,hT,hown1,hm1⟩;simp only at h1 hX0 hY0 hl hT hown1;have hXp:=Zac.2 hX0;have hYp:=Zac.2 hY0;refine Hh ?_;constructor
 . intro hne;have hne:X.length≠Y.length:=by simp at hne;omega
   refine Hh ?_;constructor
   . intro hgt;have hgt:Y.length<X.length:=Su hgt;obtain⟨X1,X2,rfl,hX1⟩:∃ X1 X2,X=X1++X2/\X1.length=Y.length:=⟨X.take Y.length,X.drop Y.length,by simp,by simp;omega⟩;simp only[Zo] at *;refine Hh ?_;refine⟨((m-(X1.length+X2.length):Nat):Int),wrap_eq Om ⟨Om,Om⟩,Hh ?_⟩;refine(Qfk P X1 X2 Y S Y.length (m-(X1.length+X2.length)) m fv A c base w1 hX1 rfl Om Om L (by simp;omega) hLs (Su hown1)).mono ?_;rintro _ w2 ⟨rfl,hown2,hm2⟩;refine Hh ?_;refine⟨((X2.length:Nat):Int),wrap_eq Om ⟨Om,Om⟩,Hh ?_⟩;refine⟨(P++Y,X2,X1,S),by simp;omega,⟨by simp;omega,?_,?_,by simp;omega,Su hT,Su hown2,hm1.trans hm2⟩,⟨rfl,rfl,rfl,rfl,int_eq (Sj),trivial⟩⟩
     . rw[<- Zac];simp only;omega
     . rw[<- Zac];simp only;omega
   . intro hle;have hle:X.length<Y.length:=by simp at hle;omega
     obtain⟨Y1,Y2,rfl,hY2⟩:∃ Y1 Y2,Y=Y1++Y2/\Y2.length=X.length:=⟨Y.take (Y.length-X.length),Y.drop (Y.length-X.length),by simp,by simp;omega⟩;simp only[Zo] at *;refine Hh ?_;refine⟨((m-X.length:Nat):Int),Qd5 Om Om,Hh ?_⟩;refine⟨((m+(Y1.length+Y2.length):Nat):Int),wrap_eq Om ⟨Om,Om⟩,Hh ?_⟩;refine⟨((m+(Y1.length+Y2.length)-X.length:Nat):Int),Qd5 Om Om,Hh ?_⟩;refine(Qfk P X Y1 Y2 S X.length (m-X.length) (m+(Y1.length+Y2.length)-X.length) fv A c base w1 rfl hY2 Om Om L (by simp;omega) hLs (Su hown1)).mono ?_;rintro _ w2 ⟨rfl,hown2,hm2⟩;refine Hh ?_;refine⟨((Y1.length:Nat):Int),wrap_eq Om ⟨Om,Om⟩,Hh ?_⟩;refine⟨(P,Y2,Y1,X++S),by simp;omega,⟨by simp;omega,?_,?_,by simp;omega,Su hT,Su hown2,hm1.trans hm2⟩,⟨rfl,rfl,rfl,int_eq (Sj),rfl,trivial⟩⟩
     . rw[<- Zac];simp only;omega
     . rw[<- Zac];simp only;omega
 . intro heq;have heq:X.length=Y.length:=by simp at heq;omega
   refine Hh ?_;refine⟨((m-X.length:Nat):Int),Qd5 Om Om,Hh ?_⟩;refine(Qfk P X [] Y S X.length (m-X.length) m fv A c base w1 rfl heq.symm Om (by simp;omega) L (by simp;omega) hLs (Su hown1)).mono ?_;rintro _ w2 ⟨rfl,hown2,hm2⟩;refine Hh ?_;refine⟨rfl,?_,hm1.trans hm2⟩;rw[<- hT];simpa using hown2
abbrev Qru:Value := .func (.func 65) #[] #[]
theorem Q43 {α:Type} {lt:α->α->Bool} (O:Swo lt) {z1 z2:List α} {v:α} (hs:Srt lt (z1++z2)) (h2:∀ u∈z2,lt v u=true) (h1:∀ u,z1.getLast? = some u->lt v u=false):Srt lt (z1++v :: z2):=by
 refine Srt.append hs.left (Z9.2 ⟨fun u hu=>O.asymm _ _ (h2 u hu),hs.right⟩) fun u hu t ht => ?_
 rcases Zr.1 ht with rfl | ht
 . rcases Zbj z1 with rfl | ⟨z,l,hz⟩
   . simp at hu
   . have hz':z1=z ++ [l]:=Su hz;subst hz';have hl:=h1 l (by simp);rcases Zj.1 hu with hu | hu
     . exact O.trans u l t (hs.left.across u hu l (by simp)) hl
     . simp at hu;subst hu;exact hl
 . exact hs.across u hu t ht
theorem Qh8 (p x s:List Ev) (a b:Nat) (A:Option Addr) (c base:Nat) (w:World) (ha:p.length=a) (hb:p.length+x.length=b) (L:Nat) (hL:p.length+x.length+s.length=L) (hLs:L<1000000000000)
 (hown:Own evC 8 77 base w A c (p++x++s)) :
 Cal Tryz.prog 253 [.slice A L c,Vj a,Vj b,Qru] w fun r w'=>r = .tuple #[]/\∃ z,z.Perm x/\Srt Q5 z/\Own evC 8 77 base w' A c (p++z++s)/\Mod (Blk A) w w':=by
 refine Fi Tryz.func253 rfl _ rfl rfl (Hh ?_);refine⟨_,wrap_succ Om,Hh ?_⟩
 refine Qh Qb (fun(i:Nat×List Ev) w'=>(i.1=a+i.2.length\/x = []/\i.2 = []/\i.1=a+1)/\i.2.length<=x.length/\i.2.Perm (x.take i.2.length)/\Srt Q5 i.2/\Own evC 8 77 base w' A c (p++i.2++(x.drop i.2.length++s))/\Mod (Blk A) w w')
  (fun | (i,_) => [(0,.slice A L c),(1,Vj a),(2,Vj b),(3,Qru),(8,Vj i)]) (fun i=>x.length-i.2.length) (a+1,x.take 1) ?_ Rr ?_
 . cases x with
   | nil=>exact⟨.inr ⟨rfl,rfl,rfl⟩,by simp,by simp,Srt.nil,Su hown,Mod.refl _ _⟩
   | cons y x=>exact⟨.inl (by simp),by simp,by simp,by simp[Srt],Su hown,Mod.refl _ _⟩
 rintro ⟨i,z⟩ w1 ⟨hi,hzl,hzp,hzs,hown1,hm1⟩;simp only at hi hzl hzp hown1;refine Hh ?_;constructor
 . intro hlt;have hlt:i<b:=Su hlt
   have hi:i=a+z.length:=by
    rcases hi with h | ⟨h,h2,h3⟩
    . exact h
    . subst h;simp at hb;omega
   have hzx:z.length<x.length:=Om;have hdr:x.drop z.length=x[z.length] :: x.drop (z.length+1):=Zak hzx;have htk:x.take (z.length+1)=x.take z.length ++ [x[z.length]]:=Za hzx;rw[hdr] at hown1;generalize x[z.length]=v at hown1 hdr htk;refine Hh ?_
   refine Qh Qb (fun(q:List Ev×List Ev) w'=>z=q.1++q.2/\(∀ u∈q.2,Q5 v u=true)/\Own evC 8 77 base w' A c (p++q.1++v :: (q.2++(x.drop (z.length+1)++s)))/\Mod (Blk A) w w')
    (fun | (z1,_) => [(0,.slice A L c),(1,Vj a),(2,Vj b),(3,Qru),(8,Vj i),(9,Vj ((a+z1.length:Nat):Int))]) (fun q=>q.1.length) (z,[]) ⟨by simp,by simp,Su hown1,hm1⟩ ⟨rfl,rfl,rfl,rfl,rfl,int_eq Om,trivial⟩ ?_
   rintro ⟨z1,z2⟩ w2 ⟨hz,hz2,hown2,hm2⟩;simp only at hz hown2;have hzlen:z.length=z1.length+z2.length:=by rw[hz];simp
   refine Hh ?_;refine Dr .same [0,1,2,3,4,5,6,7,8,9,10,11,12,13] [14,15,16] (Hh ?_);replace hown2:Own evC 8 77 base w2.drew A c _:=hown2;replace hm2:Mod (Blk A) w w2.drew:=hm2.trans (Mod.drew _);generalize w2.drew=w3 at hown2 hm2 ⊢;have hg1:(p++z1++v :: (z2++(x.drop (z.length+1)++s)))[a+z1.length]? = some v:=(by rw[Z5 (by simp;omega)];simp[ha]);obtain⟨a0,hA,hc1⟩:=Qdm hown2 hg1;subst hA;have hd:∀ {m n:Nat},decide ((m:Int)<(n:Int))=true->m<n:=fun h=>Su h
   obtain⟨u,hu⟩:∃ u,z1 ≠ []->∃ zz,z1=zz ++ [u]:=by
    rcases Zbj z1 with h | ⟨zz,l,h⟩
    . exact⟨v,fun hh=>absurd h hh⟩
    . exact⟨l,fun _=>⟨zz,Su h⟩⟩
   have hc0:z1 ≠ []->Xp w3 (a0.add ((a+z1.length-1)*8)) (evC u):=fun hne=>by
    obtain⟨zz,hzz⟩:=hu hne;have:(p++z1++v :: (z2++(x.drop (z.length+1)++s)))[a+z1.length-1]? = some u:=(by rw[hzz,show a+(zz ++ [u]).length-1=(p++zz).length by simp;omega,show p++(zz ++ [u])++v :: (z2++(x.drop (z.length+1)++s))=(p++zz)++u :: (v :: (z2++(x.drop (z.length+1)++s))) by simp];simp);obtain⟨a1,h1,h2⟩:=Qdm hown2 this;obtain rfl:a0=a1:=by injection h1
    exact h2
   have hne:∀ {m:Nat},a<a+z1.length->z1 ≠ []:=fun h e=>by rw[e] at h;simp at h
   refine⟨a0,fun hg=>Ix,Hh ?_⟩;refine⟨evC v,fun hg=>⟨rfl,hc1⟩,Hh ?_⟩;refine⟨((a+z1.length-1:Nat):Int),fun hg=>wrap_eq (by have:=hd hg;omega) ⟨Om,Om⟩,Hh ?_⟩;refine⟨a0,fun hg=>Ix,Hh ?_⟩;refine⟨evC u,fun hg=>⟨rfl,hc0 (hne (m:=0) (hd hg))⟩,Hh ?_⟩;refine⟨Unit,fun _ => Vj (Qjc v u),fun _ w'=>Ext w3 w',(),fun hg=>(Qbb v u w3).mono (fun r w' h=>⟨(),h.1,h.2⟩),fun _ w4 h4 => ?_⟩
   have hx4:Ext w3 w4:=by
    rcases h4 with⟨_,h⟩ | ⟨_,h⟩
    . exact h
    . rw[h];exact Ext.refl _
   clear h4;have hown4:=hown2.ext hx4;have hm4:Mod (Blk (some a0)) w w4:=hm2.trans (Mod.of_ext hx4);refine Hh ?_;constructor
   . intro hcnd;have hcnd:(decide ((a:Int)<((a+z1.length:Nat):Int))&&decide (Qjc v u<0))=true:=hcnd;rw[Zl,Qcg] at hcnd;obtain⟨zz,rfl⟩:=hu (hne (m:=0) (hd hcnd.1));have hvu:=hcnd.2;have e0:p++(zz ++ [u])++v :: (z2++(x.drop (z.length+1)++s))=(p++zz)++u :: ([]++v :: (z2++(x.drop (z.length+1)++s))):=by simp
     rw[e0] at hown4;have g1:=Qwr (p++zz) [] (z2++(x.drop (z.length+1)++s)) u v;have hdl:((p++zz)++u :: ([]++v :: (z2++(x.drop (z.length+1)++s)))).length=L:=by simp at hzlen ⊢;omega
     have hi1:(p++zz).length=a+zz.length:=by simp;omega
     have f1:=Qmz (p++zz) [] (z2++(x.drop (z.length+1)++s)) u v;have f2:=Qm0 (p++zz) [] (z2++(x.drop (z.length+1)++s)) u v;rw[hi1] at g1 f1 f2;simp only[Zam,Zc2] at g1 f2;have hlz:(zz ++ [u]).length=zz.length+1:=by simp
     generalize hdd:(p++zz)++u :: ([]++v :: (z2++(x.drop (z.length+1)++s)))=d at hown4 g1 hdl f1 f2;obtain⟨_,hA1,hcu⟩:=Qdm hown4 f1;obtain rfl:a0=_:=by injection hA1
     obtain⟨_,hA2,hcv⟩:=Qdm hown4 f2;obtain rfl:a0=_:=by injection hA2
     refine Hh ?_;refine Qdi (.mods (Blk (some a0))) [(0,true),(1,true),(2,false),(3,false),(4,false),(5,true),(6,true),(7,true),(8,true),(9,true),(10,true),(11,true),(12,true),(13,true),(14,true)] [15,16] [17] [15,17] Qb mixed Kr (by first | (intro h;cases h;done) | (intro _;rfl)) (Hh ?_);refine⟨((a+zz.length:Nat):Int),wrap_eq (by rw[hlz];omega) ⟨Om,Om⟩,Hh ?_⟩;refine⟨((a+zz.length:Nat):Int),wrap_eq (by rw[hlz];omega) ⟨Om,Om⟩,Hh ?_⟩;refine⟨a0,Ix,Hh ?_⟩;refine⟨evC u,⟨rfl,hcu⟩,Hh ?_⟩;refine⟨a0,Ix,Hh ?_⟩;refine⟨evC v,⟨rfl,by rw[hlz];exact hcv⟩,Hh ?_⟩;refine⟨a0,Ix,Hh ?_⟩;refine Qhc (w:=w4.drew) (k:=a+(zz ++ [u]).length) u (by rw[hdl,hlz];simp at hzlen;omega) hown4 fun w5 hown5 ho5 => ?_
     refine⟨ho5.blk,Hh ?_⟩;refine⟨a0,Ix,Hh ?_⟩;refine Qhc (k:=a+zz.length) v (by rw[Zbq,hdl];simp at hzlen;omega) hown5 fun w6 hown6 ho6 => ?_
     rw[hlz,<- Nat.add_assoc,g1] at hown6;refine Hh ?_;refine⟨((a+zz.length:Nat):Int),wrap_eq (by rw[hlz];omega) ⟨Om,Om⟩,Hh ?_⟩;refine⟨(zz,u :: z2),by simp,⟨by rw[hz];simp,?_,Su hown6,hm4.trans ((Mod.drew _).trans (ho5.blk.trans ho6.blk))⟩,Rr⟩;intro y hy;rcases Zr.1 hy with rfl | hy
     . exact hvu
     . exact hz2 y hy
   . intro hcnd;have hcnd:(decide ((a:Int)<((a+z1.length:Nat):Int))&&decide (Qjc v u<0))=false:=hcnd;rw[Qcg] at hcnd;refine Hh ?_;refine⟨_,wrap_succ Om,Hh ?_⟩;have hll:(z1++v :: z2).length=z.length+1:=by simp;omega
     refine⟨(i+1,z1++v :: z2),by simp only[hll];omega,⟨.inl (by simp only[hll];omega),by simp only[hll];omega,?_,?_,?_,hm4⟩,Rr⟩
     . simp only[hll];rw[htk];refine List.Perm.trans ?_ (hzp.append_right [v]);rw[hz];exact List.perm_middle.trans (by rw[Zaa];exact(List.perm_append_comm (l₁ := [v])).trans (by simp))
     . refine Q43 Qbh (by rw[<- hz];exact hzs) hz2 fun t ht => ?_
       have hne1:z1 ≠ []:=fun e=>by rw[e] at ht;simp at ht
       obtain⟨zz,hzz⟩:=hu hne1;rw[hzz] at ht;obtain rfl:u=t:=Su ht;have hpos:=Zac.2 hne1;have:decide ((a:Int)<((a+z1.length:Nat):Int))=true:=by simp;omega
       rw[this,Bool.true_and] at hcnd;exact hcnd
     . simp only[hll];simpa using hown4
 . intro hge;have hge:b<=i:=Su hge;refine Hh ?_
   have hzx:z.length=x.length:=by
    rcases hi with h | ⟨h,h2,h3⟩
    . omega
    . rw[h,h2]
   refine⟨rfl,z,?_,hzs,?_,hm1⟩
   . rw[hzx,Zcp] at hzp;exact hzp
   . rw[hzx,List.drop_length] at hown1;simpa using hown1
theorem Qkp (n:Nat):(0:Int)<=1/\((n/2:Nat):Int)=Int.fdiv (n:Int) (2 ^ (min (1:Int).toNat IntKind.u64.bits)):=by
 refine⟨by decide,?_⟩;have:(2:Int) ^ (min (1:Int).toNat IntKind.u64.bits)=2:=by decide
 rw[this,Zcm _ (by decide)];omega
theorem Qrh {n:Nat} (h:n<=9223372036854775807):(n:Int)=IntKind.u64.wrap (n:Int):=wrap_u64 ⟨Om,Om⟩
theorem Qrg {n:Nat} (h:n<=9223372036854775807):(n:Int)=IntKind.i64.wrap (n:Int):=wrap_i64 ⟨Om,Om⟩
section
variable {α:Type} {lt:α->α->Bool}
theorem Qob {l:List α} {i:Nat} {u:α} (h0:0<i) (h:l[i-1]? = some u):(l.take i).getLast? = some u:=by
 have hlt:i-1<l.length:=(Zi.1 h).1;obtain⟨i,rfl⟩:∃ j,i=j+1:=⟨i-1,Om⟩;have:l[i]=u:=by simp at h hlt;rw[Zd hlt] at h;simpa using h
 rw[Za Om];simp[this]
theorem head_drop {l:List α} {i:Nat} {u:α} (h:l[i]? = some u):(l.drop i).head? = some u:=by
 rw[List.head?_drop];exact h
theorem Q1p (O:Swo lt) {y:List α} {v:α} {i:Nat} (hi:i<=y.length) (hs:Srt lt y) (h1:i=0\/∃ u,y[i-1]? = some u/\lt v u=false) (h2:i=y.length\/∃ u,y[i]? = some u/\lt u v=false):Srt lt (y.take i++v :: y.drop i):=by
 have hs':Srt lt (y.take i++y.drop i):=by rw[Zah];exact hs
 have k1:=Qsf (x:=y.take i) (y := [v]) O hs'.left (Srt.one v) (fun a b ha hb=>by
  obtain rfl:v=b:=Su hb;rcases h1 with rfl | ⟨u,hu,hl⟩
  . simp at ha
  . by_cases hi0:i=0
    . subst hi0;simp at ha
    . rw[Qob Om hu] at ha;obtain rfl:u=a:=Su ha;exact hl)
 have k2:=Qsf (x := [v]) (y:=y.drop i) O (Srt.one v) hs'.right (fun a b ha hb=>by
  obtain rfl:v=a:=Su ha;rcases h2 with rfl | ⟨u,hu,hl⟩
  . simp at hb
  . rw[head_drop hu] at hb;obtain rfl:u=b:=Su hb;exact hl)
 refine hs'.left.append (Z9.2 ⟨fun t ht=>k2 v (by simp) t ht,hs'.right⟩) fun t ht u hu => ?_
 rcases Zr.1 hu with rfl | hu
 . exact k1 t ht u (by simp)
 . exact hs'.across t ht u hu
end
theorem Qzh {y:List Ev} {i:Nat} {u v:Ev} (h:y[i]? = some u) (hl:Q5 u v=true):y[i]? = some u/\Q5 v u=false:=⟨h,Qbh.asymm _ _ hl⟩
set_option maxHeartbeats 4000000 in
theorem Qka:∀ (N:Nat) (p x y s:List Ev) (a m b:Nat) (A:Option Addr) (c base:Nat) (w:World) (hN:x.length+y.length<=N) (hx0:0<x.length) (hy0:0<y.length) (hsx:Srt Q5 x) (hsy:Srt Q5 y) (ha:p.length=a) (hm:p.length+x.length=m) (hb:p.length+x.length+y.length=b) (L:Nat) (hL:p.length+x.length+y.length+s.length=L) (hLs:L<1000000000000)
 (hown:Own evC 8 77 base w A c (p++x++y++s)),
 Cal Tryz.prog 254 [.slice A L c,Vj a,Vj m,Vj b,Qru] w fun r w'=>r = .tuple #[]/\∃ z,z.Perm (x++y)/\Srt Q5 z/\Own evC 8 77 base w' A c (p++z++s)/\Mod (Blk A) w w':=by
 intro N
 induction N with
 | zero=>intro p x y s a m b A c base w hN hx0;omega
 | succ N ih =>
   intro p x y s a m b A c base w hN hx0 hy0 hsx hsy ha hm hb L hL hLs hown;have hd:∀ {m n:Nat},decide ((m:Int)<(n:Int))=true->m<n:=fun h=>Su h
   have hd':∀ {m n:Nat},decide ((m:Int)<(n:Int))=false->n<=m:=fun h=>Su h
   refine Fi Tryz.func254 rfl _ rfl rfl (Hh ?_);refine⟨((m-a:Nat):Int),Qd5 Om Om,Hh ?_⟩;constructor
   . intro h1;have h1:x.length=1:=by simp at h1;omega
     obtain⟨v,rfl⟩:=List.length_eq_one_iff.1 h1;have hv1 : [v].length=1:=rfl;have hvat:(p ++ [v]++y++s)[a]? = some v:=by rw[<- ha];simp
     obtain⟨a0,hA,hcv⟩:=Qdm hown hvat;subst hA;refine Hh ?_
     refine Qh Qb (fun(q:Nat×Nat) w'=>q.1<=q.2/\q.2<=y.length/\(q.1=0\/∃ u,y[q.1-1]? = some u/\Q5 v u=false)/\(q.2=y.length\/∃ u,y[q.2]? = some u/\Q5 u v=false)/\Ext w w')
      (fun | (i,j) => [(0,.slice (some a0) L c),(1,Vj a),(2,Vj m),(3,Vj b),(4,Qru),(10,Vj ((m+i:Nat):Int)),(11,Vj ((m+j:Nat):Int))]) (fun q=>q.2-q.1) (0,y.length)
      ⟨by simp,by simp,.inl rfl,.inl rfl,Ext.refl _⟩ ⟨rfl,rfl,rfl,rfl,rfl,rfl,int_eq Om,trivial⟩ ?_
     rintro ⟨i,j⟩ w1 ⟨hij,hjy,hi,hj,hx1⟩;simp only at hij hjy hi hj;refine Hh ?_;constructor
     . intro hlt;have hlt:i<j:=by have:=hd hlt;omega
       obtain⟨h,hh⟩:∃ h,h=(i+j)/2:=⟨_,rfl⟩;have hhm:(m+i+(m+j))/2=m+h:=Om;have hhy:h<y.length:=Om;have hhat:(p ++ [v]++y++s)[m+h]? = some y[h]:=(by rw[Zz (by simp;omega),Z5 (by simp;omega)];rw[show m+h-(p ++ [v]).length=h by simp;omega];exact Zd hhy);obtain⟨_,hA1,hch⟩:=Qdm hown hhat;obtain rfl:a0=_:=by injection hA1
       have hyh:y[h]? = some y[h]:=Zd hhy;generalize y[h]=u at hch hyh;refine Hh ?_;refine⟨((m+i+(m+j):Nat):Int),Qa5 Om,Hh ?_⟩;refine⟨((m+i+(m+j):Nat):Int),Qrh Om,Hh ?_⟩;refine⟨((m+h:Nat):Int),by rw[<- hhm];exact Qkp _,Hh ?_⟩;refine⟨((m+h:Nat):Int),Qrg Om,Hh ?_⟩;refine Dr .same [0,1,2,3,4,5,6,7,8] [9,10] (Hh ?_);replace hx1:Ext w w1.drew:=hx1.drew;generalize w1.drew=w2 at hx1 ⊢;refine⟨a0,Ix,Hh ?_⟩;refine⟨evC u,⟨rfl,hx1.cells hch⟩,Hh ?_⟩;refine⟨a0,Ix,Hh ?_⟩;refine⟨evC v,⟨rfl,hx1.cells hcv⟩,Hh ?_⟩;refine(Qbb u v w2).mono ?_;rintro _ w3 ⟨rfl,hx3⟩;refine Hh ?_;constructor
       . intro hc;have hc:Q5 u v=true:=by rw[<- Qcg];exact hc
         refine Hh ?_;refine⟨((m+(h+1):Nat):Int),wrap_eq Om ⟨Om,Om⟩,Hh ?_⟩;exact⟨(h+1,j),Sj,⟨Sj,hjy,.inr ⟨u,Qzh (Su hyh) hc⟩,hj,hx1.trans hx3⟩,Rr⟩
       . intro hc;have hc:Q5 u v=false:=by rw[<- Qcg];exact hc
         refine Hh ?_;exact⟨(i,h),Sj,⟨Sj,Sj,hi,.inr ⟨u,hyh,hc⟩,hx1.trans hx3⟩,Rr⟩
     . intro hge;have hge:j<=i:=by have:=hd' hge;omega
       obtain rfl:i=j:=Om;have hsr:=Q1p Qbh hjy hsy hi hj;have hpr:(y.take i++v :: y.drop i).Perm ([v]++y):=(by refine List.perm_middle.trans ?_;rw[Zah];exact Za1 _);have hown1:=hown.ext hx1;have hlt1:(y.take i).length=i:=by simp;omega
       have hyd:y=y.take i++y.drop i:=(Zah i y).symm;have hdl:(y.drop i).length=y.length-i:=by simp
       generalize y.take i=y1 at hsr hpr hlt1 hyd;generalize y.drop i=y2 at hsr hpr hyd hdl;subst hyd;have hly:(y1++y2).length=y1.length+y2.length:=Zo;refine Hh ?_
       refine Qh Qb (fun(k:Nat) w'=>k<=i/\Own evC 8 77 base w' (some a0) c (p++y1.take k++v :: (y1.drop k++(y2++s)))/\Mod (Blk (some a0)) w w')
        (fun k => [(0,.slice (some a0) L c),(1,Vj a),(2,Vj m),(3,Vj b),(4,Qru),(10,Vj ((m+i:Nat):Int)),(13,Vj ((a+k:Nat):Int))]) (fun k=>i-k) 0
        ⟨Om,Su hown1,Mod.of_ext hx1⟩ Rr ?_
       rintro k w2 ⟨hk,hown2,hm2⟩;refine Hh ?_;refine⟨((a+i:Nat):Int),wrap_eq Om ⟨Om,Om⟩,Hh ?_⟩;constructor
       . intro hlt;have hlt:k<i:=by have:=hd hlt;omega
         have hdk:y1.drop k=y1[k] :: y1.drop (k+1):=Zak Om;have htk:y1.take (k+1)=y1.take k ++ [y1[k]]:=Za Om;generalize y1[k]=u at hdk htk;have e0:p++y1.take k++v :: (y1.drop k++(y2++s))=(p++y1.take k)++v :: ([]++u :: (y1.drop (k+1)++(y2++s))):=by rw[hdk];simp
         rw[e0] at hown2;have hi1:(p++y1.take k).length=a+k:=by simp;omega
         have g1:=Qtn (p++y1.take k) [] (y1.drop (k+1)++(y2++s)) v u;have f1:=Qmz (p++y1.take k) [] (y1.drop (k+1)++(y2++s)) v u;have f2:=Qm0 (p++y1.take k) [] (y1.drop (k+1)++(y2++s)) v u;rw[hi1] at g1 f1 f2;simp only[Zam,Zc2] at g1 f2;have hdl:((p++y1.take k)++v :: ([]++u :: (y1.drop (k+1)++(y2++s)))).length=L:=by simp at hL ⊢;omega
         generalize (p++y1.take k)++v :: ([]++u :: (y1.drop (k+1)++(y2++s)))=d at hown2 g1 f1 f2 hdl;obtain⟨_,hA1,hcu⟩:=Qdm hown2 f1;obtain rfl:a0=_:=by injection hA1
         obtain⟨_,hA2,hcw⟩:=Qdm hown2 f2;obtain rfl:a0=_:=by injection hA2
         have hkL:a+k+1<L:=by rw[<- hdl];exact(Zi.1 f2).1
         refine Hh ?_;refine Qdi (.mods (Blk (some a0))) [(0,true),(1,true),(2,false),(3,false),(4,false),(5,true),(6,true),(7,true),(8,true),(9,true),(10,true),(11,true),(12,true),(13,true),(14,true)] [15,16] [17] [15,17] Qb mixed Kr (by first | (intro h;cases h;done) | (intro _;rfl)) (Hh ?_);refine⟨((a+k+1:Nat):Int),wrap_succ Om,Hh ?_⟩;refine⟨((a+k+1:Nat):Int),wrap_succ Om,Hh ?_⟩;refine⟨a0,Ix,Hh ?_⟩;refine⟨evC u,⟨rfl,hcw⟩,Hh ?_⟩;refine⟨a0,Ix,Hh ?_⟩;refine⟨evC v,⟨rfl,hcu⟩,Hh ?_⟩;refine⟨a0,Ix,Hh ?_⟩;refine Qhc (w:=w2.drew) (k:=a+k) u Om hown2 fun w5 hown5 ho5 => ?_
         refine⟨ho5.blk,Hh ?_⟩;refine⟨a0,Ix,Hh ?_⟩;refine Qhc (k:=a+k+1) v (by rw[Zbq,hdl];omega) hown5 fun w6 hown6 ho6 => ?_
         rw[g1] at hown6;refine Hh ?_;refine⟨((a+(k+1):Nat):Int),wrap_eq Om ⟨Om,Om⟩,Hh ?_⟩;refine⟨k+1,Om,⟨Om,by rw[htk];simpa using hown6,hm2.trans ((Mod.drew _).trans (ho5.blk.trans ho6.blk))⟩,Rr⟩
       . intro hge;have hge:i<=k:=by have:=hd' hge;omega
         rw[Zb (l:=y1) Om,Zb2 (l:=y1) Om] at hown2;refine Hh ?_;exact⟨rfl,_,hpr,hsr,Su hown2,hm2⟩
   intro h1;have hxl:2<=x.length:=by simp at h1;omega
   clear h1;refine Hh ?_;refine⟨((b-m:Nat):Int),Qd5 Om Om,Hh ?_⟩;constructor
   . intro h1;have h1:y.length=1:=by simp at h1;omega
     obtain⟨v,rfl⟩:=List.length_eq_one_iff.1 h1;have hv1 : [v].length=1:=rfl;have hvat:(p++x ++ [v]++s)[m]? = some v:=(by rw[show p++x ++ [v]++s=(p++x)++v :: s by simp,show m=(p++x).length by simp;omega];simp);obtain⟨a0,hA,hcv⟩:=Qdm hown hvat;subst hA;refine Hh ?_
     refine Qh Qb (fun(q:Nat×Nat) w'=>q.1<=q.2/\q.2<=x.length/\(q.1=0\/∃ u,x[q.1-1]? = some u/\Q5 v u=false)/\(q.2=x.length\/∃ u,x[q.2]? = some u/\Q5 u v=false)/\Ext w w')
      (fun | (i,j) => [(0,.slice (some a0) L c),(1,Vj a),(2,Vj m),(3,Vj b),(4,Qru),(14,Vj ((a+i:Nat):Int)),(15,Vj ((a+j:Nat):Int))]) (fun q=>q.2-q.1) (0,x.length)
      ⟨by simp,by simp,.inl rfl,.inl rfl,Ext.refl _⟩ ⟨rfl,rfl,rfl,rfl,rfl,rfl,int_eq Om,trivial⟩ ?_
     rintro ⟨i,j⟩ w1 ⟨hij,hjy,hi,hj,hx1⟩;simp only at hij hjy hi hj;refine Hh ?_;constructor
     . intro hlt;have hlt:i<j:=by have:=hd hlt;omega
       obtain⟨h,hh⟩:∃ h,h=(i+j)/2:=⟨_,rfl⟩;have hhm:(a+i+(a+j))/2=a+h:=Om;have hhy:h<x.length:=Om;have hhat:(p++x ++ [v]++s)[a+h]? = some x[h]:=(by rw[Zaa,Zaa,Z5 Om,Zz Om];rw[show a+h-p.length=h by omega];exact Zd hhy);obtain⟨_,hA1,hch⟩:=Qdm hown hhat;obtain rfl:a0=_:=by injection hA1
       have hyh:x[h]? = some x[h]:=Zd hhy;generalize x[h]=u at hch hyh;refine Hh ?_;refine⟨((a+i+(a+j):Nat):Int),Qa5 Om,Hh ?_⟩;refine⟨((a+i+(a+j):Nat):Int),Qrh Om,Hh ?_⟩;refine⟨((a+h:Nat):Int),by rw[<- hhm];exact Qkp _,Hh ?_⟩;refine⟨((a+h:Nat):Int),Qrg Om,Hh ?_⟩;refine Dr .same [0,1,2,3,4,5,6,7,8] [9,10,11] (Hh ?_);replace hx1:Ext w w1.drew:=hx1.drew;generalize w1.drew=w2 at hx1 ⊢;refine⟨a0,Ix,Hh ?_⟩;refine⟨evC v,⟨rfl,hx1.cells hcv⟩,Hh ?_⟩;refine⟨a0,Ix,Hh ?_⟩;refine⟨evC u,⟨rfl,hx1.cells hch⟩,Hh ?_⟩;refine(Qbb v u w2).mono ?_;rintro _ w3 ⟨rfl,hx3⟩;refine Hh ?_;constructor
       . intro hc;have hc:Q5 v u=false:=by rw[<- Qcg];simpa using hc
         refine Hh ?_;refine⟨((a+(h+1):Nat):Int),wrap_eq Om ⟨Om,Om⟩,Hh ?_⟩;exact⟨(h+1,j),Sj,⟨Sj,hjy,.inr ⟨u,Su hyh,hc⟩,hj,hx1.trans hx3⟩,Rr⟩
       . intro hc;have hc:Q5 v u=true:=by rw[<- Qcg];simpa using hc
         refine Hh ?_;exact⟨(i,h),Sj,⟨Sj,Sj,hi,.inr ⟨u,hyh,Qbh.asymm _ _ hc⟩,hx1.trans hx3⟩,Rr⟩
     . intro hge;have hge:j<=i:=by have:=hd' hge;omega
       obtain rfl:i=j:=Om;have hsr:=Q1p Qbh hjy hsx hi hj;have hpr:(x.take i++v :: x.drop i).Perm (x ++ [v]):=(by refine List.perm_middle.trans ?_;rw[Zah];exact(List.perm_append_comm (l₁ := [v])).trans (Za1 _));have hown1:=hown.ext hx1;have hlt1:(x.take i).length=i:=by simp;omega
       have hyd:x=x.take i++x.drop i:=(Zah i x).symm;have hdl:(x.drop i).length=x.length-i:=by simp
       generalize x.take i=x1 at hsr hpr hlt1 hyd;generalize x.drop i=x2 at hsr hpr hyd hdl;subst hyd;have hlx:(x1++x2).length=x1.length+x2.length:=Zo;refine Hh ?_
       refine Qh Qb (fun(k:Nat) w'=>k<=x2.length/\Own evC 8 77 base w' (some a0) c (p++x1++x2.take k++v :: (x2.drop k++s))/\Mod (Blk (some a0)) w w')
        (fun k => [(0,.slice (some a0) L c),(1,Vj a),(2,Vj m),(3,Vj b),(4,Qru),(14,Vj ((a+i:Nat):Int)),(17,Vj ((a+i+k:Nat):Int))]) (fun k=>k) x2.length
        ⟨Om,Su hown1,Mod.of_ext hx1⟩ ⟨rfl,rfl,rfl,rfl,rfl,rfl,int_eq Om,trivial⟩ ?_
       rintro k w2 ⟨hk,hown2,hm2⟩;refine Hh ?_;constructor
       . intro hlt;have hlt:0<k:=by have:=hd hlt;omega
         obtain⟨k,rfl⟩:∃ j,k=j+1:=⟨k-1,Om⟩;have hdk:x2.drop k=x2[k] :: x2.drop (k+1):=Zak Om;have htk:x2.take (k+1)=x2.take k ++ [x2[k]]:=Za Om;generalize x2[k]=u at hdk htk;have e0:p++x1++x2.take (k+1)++v :: (x2.drop (k+1)++s)=(p++x1++x2.take k)++u :: ([]++v :: (x2.drop (k+1)++s)):=by rw[htk];simp
         rw[e0] at hown2;have hi1:(p++x1++x2.take k).length=a+i+k:=by simp;omega
         have g1:=Qwr (p++x1++x2.take k) [] (x2.drop (k+1)++s) u v;have f1:=Qmz (p++x1++x2.take k) [] (x2.drop (k+1)++s) u v;have f2:=Qm0 (p++x1++x2.take k) [] (x2.drop (k+1)++s) u v;rw[hi1] at g1 f1 f2;simp only[Zam,Zc2] at g1 f2;have hdl:((p++x1++x2.take k)++u :: ([]++v :: (x2.drop (k+1)++s))).length=L:=by simp at hL ⊢;omega
         generalize (p++x1++x2.take k)++u :: ([]++v :: (x2.drop (k+1)++s))=d at hown2 g1 f1 f2 hdl;obtain⟨_,hA1,hcu⟩:=Qdm hown2 f1;obtain rfl:a0=_:=by injection hA1
         obtain⟨_,hA2,hcw⟩:=Qdm hown2 f2;obtain rfl:a0=_:=by injection hA2
         have hkL:a+i+k+1<L:=by rw[<- hdl];exact(Zi.1 f2).1
         refine Hh ?_;refine Qdi (.mods (Blk (some a0))) [(0,true),(1,true),(2,false),(3,false),(4,false),(5,true),(6,true),(7,true),(8,true),(9,true),(10,true),(11,true),(12,true),(13,true),(14,true)] [15,16] [17] [15,17] Qb mixed Kr (by first | (intro h;cases h;done) | (intro _;rfl)) (Hh ?_);refine⟨((a+i+k:Nat):Int),wrap_eq Om ⟨Om,Om⟩,Hh ?_⟩;refine⟨((a+i+k:Nat):Int),wrap_eq Om ⟨Om,Om⟩,Hh ?_⟩;refine⟨a0,Ix,Hh ?_⟩;refine⟨evC u,⟨rfl,hcu⟩,Hh ?_⟩;refine⟨a0,Ix,Hh ?_⟩;refine⟨evC v,⟨rfl,hcw⟩,Hh ?_⟩;refine⟨a0,Ix,Hh ?_⟩;refine Qhc (w:=w2.drew) (k:=a+i+k+1) u Om hown2 fun w5 hown5 ho5 => ?_
         refine⟨ho5.blk,Hh ?_⟩;refine⟨a0,Ix,Hh ?_⟩;refine Qhc (k:=a+i+k) v (by rw[Zbq,hdl];omega) hown5 fun w6 hown6 ho6 => ?_
         rw[g1] at hown6;refine Hh ?_;refine⟨((a+i+k:Nat):Int),wrap_eq Om ⟨Om,Om⟩,Hh ?_⟩;refine⟨k,Om,⟨Om,by rw[hdk];simpa using hown6,hm2.trans ((Mod.drew _).trans (ho5.blk.trans ho6.blk))⟩,Rr⟩
       . intro hge;have hge:k=0:=by have:=hd' hge;omega
         subst hge;refine Hh ?_;exact⟨rfl,_,hpr,hsr,Su hown2,hm2⟩
   intro h1;have hyl:2<=y.length:=by simp at h1;omega
   clear h1;obtain⟨mid,hmid⟩:∃ mid,mid=(a+b)/2:=⟨_,rfl⟩
   have hne:p++x++y++s ≠ []:=fun e=>by
    have h0:(p++x++y++s).length=0:=by rw[e];rfl
    simp only[Zo] at h0;omega
   obtain⟨a0,hA⟩:∃ a0,A=some a0:=(by obtain⟨e,he⟩:∃ e,(p++x++y++s)[0]? = some e:=⟨_,Zd (Zac.2 hne)⟩;obtain⟨a0,h,_⟩:=Qdm hown he;exact⟨a0,h⟩);subst hA;refine Hh ?_;refine⟨((a+b:Nat):Int),Qa5 Om,Hh ?_⟩;refine⟨((a+b:Nat):Int),Qrh Om,Hh ?_⟩;refine⟨(mid:Int),by rw[hmid];exact Qkp _,Hh ?_⟩;refine⟨(mid:Int),Qrg Om,Hh ?_⟩;refine⟨((mid+m:Nat):Int),Qa5 Om,Hh ?_⟩
   refine Xl Qb (ι:=Nat×Nat) (fun | (s0,r0) => [(0,.slice (some a0) L c),(1,Vj a),(2,Vj m),(3,Vj b),(4,Qru),(18,Vj mid),(19,Vj ((mid+m:Nat):Int)),(20,Vj s0),(21,Vj r0)])
    (fun q w'=>w'=w/\((mid<m/\q.1+b=mid+m/\q.2=mid)\/(m<=mid/\q.1=a/\q.2=m))) ?_ ?_
   . constructor
     . intro hgt;have hgt:=hd hgt;refine Hh ?_;refine⟨((mid+m-b:Nat):Int),Qd5 Om Om,Hh ?_⟩;exact⟨(mid+m-b,mid),⟨rfl,.inl ⟨hgt,Sj,rfl⟩⟩,Rr⟩
     . intro hle;have hle:=hd' hle;refine Hh ?_;exact⟨(a,m),⟨rfl,.inr ⟨hle,rfl,rfl⟩⟩,Rr⟩
   rintro ⟨s0,r0⟩ w1 ⟨rfl,hsr⟩;simp only at hsr;have hb1:a<=s0/\s0<=r0/\r0<=m/\m+r0<=mid+m/\mid+m<=b+s0/\a<mid/\mid<b:=Om;refine Hh ?_;refine⟨((mid+m-1:Nat):Int),wrap_eq Om ⟨Om,Om⟩,Hh ?_⟩
   have hxat:∀ i,a<=i->i<m->∃ u,x[i-a]? = some u/\Xp w1 (a0.add (i*8)) (evC u):=by
    intro i h1 h2;have hlt:i-a<x.length:=Om;have:(p++x++y++s)[i]? = some x[i-a]:=(by rw[Zaa,Zaa,Z5 Om,Zz Om];rw[show i-p.length=i-a by omega];exact Zd hlt);obtain⟨a1,h3,h4⟩:=Qdm hown this;obtain rfl:a0=a1:=by injection h3
    exact⟨_,Zd hlt,h4⟩
   have hyat:∀ i,m<=i->i<b->∃ u,y[i-m]? = some u/\Xp w1 (a0.add (i*8)) (evC u):=by
    intro i h1 h2;have hlt:i-m<y.length:=Om;have:(p++x++y++s)[i]? = some y[i-m]:=(by rw[Zaa,Z5 (by simp;omega),Zz (by simp;omega)];rw[show i-(p++x).length=i-m by simp;omega];exact Zd hlt);obtain⟨a1,h3,h4⟩:=Qdm hown this;obtain rfl:a0=a1:=by injection h3
    exact⟨_,Zd hlt,h4⟩
   refine Qh Qb (fun(q:Nat×Nat) w'=>s0<=q.1/\q.1<=q.2/\q.2<=r0/\(q.1=s0\/∃ u v,x[q.1-1-a]? = some u/\y[mid+m-q.1-m]? = some v/\Q5 v u=false)/\(q.2=r0\/∃ u v,x[q.2-a]? = some u/\y[mid+m-1-q.2-m]? = some v/\Q5 v u=true)/\Ext w1 w')
    (fun | (st,r) => [(0,.slice (some a0) L c),(1,Vj a),(2,Vj m),(3,Vj b),(4,Qru),(18,Vj mid),(19,Vj ((mid+m:Nat):Int)),(22,Vj ((mid+m-1:Nat):Int)),(20,Vj st),(21,Vj r)]) (fun q=>q.2-q.1) (s0,r0)
    ⟨Zg _,Sj,Zg _,.inl rfl,.inl rfl,Ext.refl _⟩ Rr ?_
   rintro ⟨st,r⟩ w2 ⟨hs1,hs2,hs3,hs4,hs5,hx2⟩;simp only at hs1 hs2 hs3 hs4 hs5;refine Hh ?_;constructor
   . intro hlt;have hlt:st<r:=hd hlt;obtain⟨h,hh⟩:∃ h,h=(st+r)/2:=⟨_,rfl⟩;obtain⟨u,hu,hcu⟩:=hxat h Om Om;obtain⟨v,hv,hcv⟩:=hyat (mid+m-1-h) Om Om;refine Hh ?_;refine⟨((st+r:Nat):Int),Qa5 Om,Hh ?_⟩;refine⟨((st+r:Nat):Int),Qrh Om,Hh ?_⟩;refine⟨(h:Int),by rw[hh];exact Qkp _,Hh ?_⟩;refine⟨(h:Int),Qrg Om,Hh ?_⟩;refine Dr .same [0,1,2,3,4,5,6,7,8,9,10] [11,12,13] (Hh ?_);replace hx2:Ext w1 w2.drew:=hx2.drew;generalize w2.drew=w3 at hx2 ⊢;refine⟨((mid+m-1-h:Nat):Int),Qd5 Om Om,Hh ?_⟩;refine⟨a0,Ix,Hh ?_⟩;refine⟨evC v,⟨rfl,hx2.cells hcv⟩,Hh ?_⟩;refine⟨a0,Ix,Hh ?_⟩;refine⟨evC u,⟨rfl,hx2.cells hcu⟩,Hh ?_⟩;refine(Qbb v u w3).mono ?_;rintro _ w4 ⟨rfl,hx4⟩;refine Hh ?_;constructor
     . intro hc;have hc:Q5 v u=false:=by rw[<- Qcg];simpa using hc
       refine Hh ?_;refine⟨_,wrap_succ Om,Hh ?_⟩;refine⟨(h+1,r),Sj,⟨Sj,Sj,hs3,.inr ⟨u,v,Su hu,?_,hc⟩,hs5,hx2.trans hx4⟩,Rr⟩;rw[<- hv];congr 1;simp only;omega
     . intro hc;have hc:Q5 v u=true:=by rw[<- Qcg];simpa using hc
       refine Hh ?_;exact⟨(st,h),Sj,⟨hs1,Sj,Sj,hs4,.inr ⟨u,v,hu,hv,hc⟩,hx2.trans hx4⟩,Rr⟩
   . intro hge;have hge:r<=st:=hd' hge;obtain rfl:st=r:=Om;obtain⟨en,hen⟩:∃ en,en=mid+m-st:=⟨_,rfl⟩;have hown2:=hown.ext hx2;have hm2:Mod (Blk (some a0)) w1 w2:=Mod.of_ext hx2
     -- the four parts
     have hxd:x=x.take (st-a)++x.drop (st-a):=(Zah _ _).symm;have hyd:y=y.take (en-m)++y.drop (en-m):=(Zah _ _).symm
     have hq1:∀ u v,(x.take (st-a)).getLast? = some u->(y.drop (en-m)).head? = some v->Q5 v u=false:=by
      intro u v h1 h2;rcases hs4 with h | ⟨u',v',hu,hv,hl⟩
      . rcases hsr with⟨e1,e2,e3⟩ | ⟨e1,e2,e3⟩
        . rw[Zb2 Om] at h2;simp at h2
        . rw[show st-a=0 by omega] at h1;simp at h1
      . by_cases h0:st-a=0
        . rw[h0] at h1;simp at h1
        . rw[Qob Om (by rw[<- hu];congr 1;omega)] at h1;rw[head_drop (by rw[<- hv];congr 1;omega)] at h2;obtain rfl:u'=u:=Su h1;obtain rfl:v'=v:=Su h2;exact hl
     have hq2:∀ u v,(y.take (en-m)).getLast? = some u->(x.drop (st-a)).head? = some v->Q5 v u=false:=by
      intro u v h1 h2;rcases hs5 with h | ⟨u',v',hu,hv,hl⟩
      . rcases hsr with⟨e1,e2,e3⟩ | ⟨e1,e2,e3⟩
        . rw[show en-m=0 by omega] at h1;simp at h1
        . rw[Zb2 Om] at h2;simp at h2
      . by_cases h0:en-m=0
        . rw[h0] at h1;simp at h1
        . rw[Qob Om (by rw[<- hv];congr 1;omega)] at h1;rw[head_drop hu] at h2;obtain rfl:v'=u:=Su h1;obtain rfl:u'=v:=Su h2;exact Qbh.asymm _ _ hl
     have l1:(x.take (st-a)).length=st-a:=by simp;omega
     have l2:(x.drop (st-a)).length=m-st:=by simp;omega
     have l3:(y.take (en-m)).length=mid-st:=by simp;omega
     have l4:(y.drop (en-m)).length=b-en:=by simp;omega
     generalize x.take (st-a)=x1 at hxd hq1 l1;generalize x.drop (st-a)=x2 at hxd hq2 l2;generalize y.take (en-m)=y1 at hyd hq2 l3;generalize y.drop (en-m)=y2 at hyd hq1 l4;clear hs4 hs5 hxat hyat hsr;subst hxd hyd;have hlx:(x1++x2).length=x1.length+x2.length:=Zo;have hly:(y1++y2).length=y1.length+y2.length:=Zo;refine Hh ?_;refine⟨(en:Int),wrap_eq Om ⟨Om,Om⟩,Hh ?_⟩
     refine Xl Qb (ι:=Unit) (fun _ => [(0,.slice (some a0) L c),(1,Vj a),(2,Vj m),(3,Vj b),(4,Qru),(18,Vj mid),(20,Vj st),(24,Vj en)])
      (fun _ w'=>Own evC 8 77 base w' (some a0) c (p++x1++y1++x2++y2++s)/\Mod (Blk (some a0)) w1 w') ?_ ?_
     . constructor
       . intro hc;have hc:(decide ((st:Int)<(m:Int))&&decide ((m:Int)<(en:Int)))=true:=hc;rw[Zl] at hc;have c1:=hd hc.1;have c2:=hd hc.2;refine Hh ?_;refine(Qyy (p++x1) x2 y1 (y2++s) st m en Qru (some a0) c base w2 (Zac.1 Om) (Zac.1 Om) (by simp;omega) (by simp;omega) (by simp;omega) L (by simp;omega) hLs (Su hown2)).mono ?_;rintro _ w3 ⟨rfl,hown3,hm3⟩;refine Hh ?_;exact⟨(),⟨Su hown3,hm2.trans hm3⟩,Rr⟩
       . intro hc;have hc:(decide ((st:Int)<(m:Int))&&decide ((m:Int)<(en:Int)))=false:=hc;refine Hh ?_;refine⟨(),⟨?_,hm2⟩,Rr⟩
         have:x2 = []\/y1 = []:=by
          rw[<- Zao,<- Zao];rw[Zb9] at hc;rcases hc with h | h
          . have:=hd' h;omega
          . have:=hd' h;omega
         rcases this with h | h <;> (subst h;simpa using hown2)
     rintro _ w3 ⟨hown3,hm3⟩;refine Hh ?_;have hsx1:=hsx.left;have hsx2:=hsx.right;have hsy1:=hsy.left;have hsy2:=hsy.right
     refine Xl Qb (ι:=List Ev) (fun _ => [(0,.slice (some a0) L c),(1,Vj a),(2,Vj m),(3,Vj b),(4,Qru),(18,Vj mid),(20,Vj st),(24,Vj en)])
      (fun z w'=>z.Perm (x1++y1)/\Srt Q5 z/\Own evC 8 77 base w' (some a0) c (p++z++x2++y2++s)/\Mod (Blk (some a0)) w1 w') ?_ ?_
     . constructor
       . intro hc;have hc:(decide ((a:Int)<(st:Int))&&decide ((st:Int)<(mid:Int)))=true:=hc;rw[Zl] at hc;have c1:=hd hc.1;have c2:=hd hc.2;refine Hh ?_;refine(ih p x1 y1 (x2++y2++s) a st mid (some a0) c base w3 Om Om Om hsx1 hsy1 ha Om Om L (by simp;omega) hLs (Su hown3)).mono ?_;rintro _ w4 ⟨rfl,z,hz1,hz2,hown4,hm4⟩;refine Hh ?_;exact⟨z,⟨hz1,hz2,Su hown4,hm3.trans hm4⟩,Rr⟩
       . intro hc;have hc:(decide ((a:Int)<(st:Int))&&decide ((st:Int)<(mid:Int)))=false:=hc;refine Hh ?_;refine⟨x1++y1,⟨Za1 _,?_,Su hown3,hm3⟩,Rr⟩
         have:x1 = []\/y1 = []:=by
          rw[<- Zao,<- Zao];rw[Zb9] at hc;rcases hc with h | h
          . have:=hd' h;omega
          . have:=hd' h;omega
         rcases this with h | h
         . subst h;simpa using hsy1
         . subst h;simpa using hsx1
     rintro z1 w4 ⟨hp1,hs1',hown4,hm4⟩;have hz1:=hp1.length_eq;simp only[Zo] at hz1;refine Hh ?_;constructor
     . intro hc;have hc:(decide ((mid:Int)<(en:Int))&&decide ((en:Int)<(b:Int)))=true:=hc;rw[Zl] at hc;have c1:=hd hc.1;have c2:=hd hc.2;refine Hh ?_;refine(ih (p++z1) x2 y2 s mid en b (some a0) c base w4 Om Om Om hsx2 hsy2 (by simp;omega) (by simp;omega) (by simp;omega) L (by simp;omega) hLs (Su hown4)).mono ?_;rintro _ w5 ⟨rfl,z2,hp2,hs2',hown5,hm5⟩;refine Hh ?_;obtain⟨k1,k2⟩:=Qwm Qbh hsx hsy hq1 hq2 hp1 hp2 hs1' hs2';exact⟨rfl,z1++z2,k2,k1,Su hown5,hm4.trans hm5⟩
     . intro hc;have hc:(decide ((mid:Int)<(en:Int))&&decide ((en:Int)<(b:Int)))=false:=hc;refine Hh ?_
       have:Srt Q5 (x2++y2):=by
        have:x2 = []\/y2 = []:=by
         rw[<- Zao,<- Zao];rw[Zb9] at hc;rcases hc with h | h
         . have:=hd' h;omega
         . have:=hd' h;omega
        rcases this with h | h
        . subst h;simpa using hsy2
        . subst h;simpa using hsx2
       obtain⟨k1,k2⟩:=Qwm Qbh hsx hsy hq1 hq2 hp1 (Za1 _) hs1' this;exact⟨rfl,z1++(x2++y2),k2,k1,Su hown4,hm4⟩
section
variable {α:Type} {lt:α->α->Bool}
inductive Qz7 (lt:α->α->Bool) (bs:Nat):List α->Prop
 | last (r:List α):r.length<=bs->Srt lt r->Qz7 lt bs r
 | cons (r t:List α):r.length=bs->Srt lt r->Qz7 lt bs t->Qz7 lt bs (r++t)
def Full (lt:α->α->Bool) (bs:Nat) (z:List α):Prop:=∃ L:List (List α),z=L.flatten/\∀ r∈L,r.length=bs/\Srt lt r
theorem Full.nil (bs:Nat):Full lt bs ([]:List α):=⟨[],rfl,by simp⟩
theorem Full.snoc {bs:Nat} {z r:List α} (h:Full lt bs z) (hr:r.length=bs) (hs:Srt lt r):Full lt bs (z++r):=by
 obtain⟨L,rfl,hL⟩:=h;refine⟨L ++ [r],by simp,fun x hx => ?_⟩;rcases Zj.1 hx with hx | hx
 . exact hL x hx
 . simp at hx;subst hx;exact⟨hr,hs⟩
theorem Full.runs {bs:Nat} {z t:List α} (h:Full lt bs z) (ht:Qz7 lt bs t):Qz7 lt bs (z++t):=by
 obtain⟨L,rfl,hL⟩:=h
 induction L with
 | nil=>simpa using ht
 | cons r L ih =>
   simp only[List.flatten_cons,Zaa];exact .cons _ _ (hL r (by simp)).1 (hL r (by simp)).2 (ih fun x hx=>hL x (by simp[hx]))
theorem Qta {bs:Nat} {d:List α} (h:Qz7 lt bs d) (hl:d.length<=bs):Srt lt d:=by
 induction h with
 | last r _ hs=>exact hs
 | cons r t hr hs ht ih =>
   have:t = []:=by rw[<- Zao];simp at hl;omega
   subst this;simpa using hs
theorem Qs9 {bs:Nat} {d:List α} (h:Qz7 lt bs d) (hl:bs<d.length):∃ r t,d=r++t/\r.length=bs/\Srt lt r/\Qz7 lt bs t:=by
 cases h with
 | last _ h1 _=>omega
 | cons r t hr hs ht=>exact⟨r,t,rfl,hr,hs,ht⟩
theorem Q9x {bs:Nat} {d:List α} (h:Qz7 lt bs d) (hl:bs<=d.length):∃ r t,d=r++t/\r.length=bs/\Srt lt r/\Qz7 lt bs t:=by
 rcases Nat.lt_or_eq_of_le hl with hl | hl
 . exact Qs9 h hl
 . exact⟨d,[],by simp,hl.symm,Qta h Om,.last _ (by simp) Srt.nil⟩
end
set_option maxHeartbeats 4000000 in
theorem Qzl (x:List Ev) (A:Option Addr) (c base:Nat) (w:World) (n:Nat) (hn:x.length=n) (hLs:n<100000000000)
 (hown:Own evC 8 77 base w A c x) :
 Cal Tryz.prog 182 [.slice A n c,Vj n,Qru] w fun r w'=>r = .tuple #[]/\∃ z,z.Perm x/\Srt Q5 z/\Own evC 8 77 base w' A c z/\Mod (Blk A) w w':=by
 have hd:∀ {m n:Nat},decide ((m:Int)<(n:Int))=true->m<n:=fun h=>Su h
 have hd':∀ {m n:Nat},decide ((m:Int)<(n:Int))=false->n<=m:=fun h=>Su h
 have hl:∀ {m n:Nat},decide ((m:Int)<=(n:Int))=true->m<=n:=fun h=>Su h
 have hl':∀ {m n:Nat},decide ((m:Int)<=(n:Int))=false->n<m:=fun h=>Su h
 refine Fi Tryz.func182 rfl _ rfl rfl (Hh ?_)
 refine Qh Qb (fun(q:List Ev×List Ev) w'=>Full Q5 20 q.1/\(q.1++q.2).Perm x/\q.1.length+q.2.length=n/\Own evC 8 77 base w' A c (q.1++q.2)/\Mod (Blk A) w w')
  (fun | (z,_) => [(0,.slice A n c),(1,Vj n),(2,Qru),(6,Vj 20),(7,Vj (z.length:Nat)),(8,Vj ((z.length+20:Nat):Int))]) (fun q=>q.2.length) ([],x)
  ⟨Full.nil _,Za1 _,Su hn,Su hown,Mod.refl _ _⟩ Rr ?_
 rintro ⟨z,t⟩ w1 ⟨hf,hp,hlen,hown1,hm1⟩;simp only at hp hlen hown1;refine Hh ?_;constructor
 . intro hle;have hle:=hl hle;obtain⟨r,t',ht,hr⟩:∃ r t',t=r++t'/\r.length=20:=⟨t.take 20,t.drop 20,by simp,by simp;omega⟩;have hlt:t.length=r.length+t'.length:=by rw[ht];simp
   refine Hh ?_;refine(Qh8 z r t' z.length (z.length+20) A c base w1 rfl Om n Om Om (by rw[ht] at hown1;simpa using hown1)).mono ?_;rintro _ w2 ⟨rfl,r',hrp,hrs,hown2,hm2⟩;refine Hh ?_;have hrl:=hrp.length_eq;refine⟨((z.length+20+20:Nat):Int),Qa5 Om,Hh ?_⟩;refine⟨(z++r',t'),Sj,⟨hf.snoc Om hrs,?_,by simp only[Zo];omega,hown2,hm1.trans hm2⟩,⟨rfl,rfl,rfl,rfl,int_eq (by rw[Zo];omega),int_eq (by rw[Zo];omega),trivial⟩⟩;refine List.Perm.trans ?_ hp;rw[ht];simp only;rw[Zaa];exact Zct z (hrp.append_right t')
 intro hgt;have hgt:=hl' hgt;refine Hh ?_;refine(Qh8 z t [] z.length n A c base w1 rfl Om n (by simp;omega) Om (Su hown1)).mono ?_;rintro _ w2 ⟨rfl,r',hrp,hrs,hown2,hm2⟩;have hrl:=hrp.length_eq;have hruns:Qz7 Q5 20 (z++r'):=hf.runs (.last _ Om hrs);have hpm:(z++r').Perm x:=(Zct z hrp).trans hp;have hln:(z++r').length=n:=by simp;omega
 have hown2':Own evC 8 77 base w2 A c (z++r'):=Su hown2;refine Hh ?_
 refine Qh Qb (fun(q:Nat×List Ev) w'=>0<q.1/\q.1<2*n+40/\Qz7 Q5 q.1 q.2/\q.2.Perm x/\q.2.length=n/\Own evC 8 77 base w' A c q.2/\Mod (Blk A) w w')
  (fun | (bs,_) => [(0,.slice A n c),(1,Vj n),(2,Qru),(6,Vj (bs:Nat))]) (fun q=>n-q.1) (20,z++r')
  ⟨by simp,Sj,hruns,hpm,hln,hown2',hm1.trans hm2⟩ Rr ?_
 clear hruns hpm hln hown2' hown2 hrp hrs hrl hf hp hlen hown1 hgt;rintro ⟨bs,d⟩ w3 ⟨hbs,hbs2,hruns,hpm,hln,hown3,hm3⟩;simp only at hbs hbs2 hruns hpm hln hown3;refine Hh ?_;constructor
 . intro hlt;have hlt:=hd hlt;refine Hh ?_;refine⟨((2*bs:Nat):Int),wrap_eq Om ⟨Om,Om⟩,Hh ?_⟩
   refine Qh Qb (fun(q:List Ev×List Ev) w'=>Full Q5 (2*bs) q.1/\Qz7 Q5 bs q.2/\(q.1++q.2).Perm x/\q.1.length+q.2.length=n/\Own evC 8 77 base w' A c (q.1++q.2)/\Mod (Blk A) w w')
    (fun | (z,_) => [(0,.slice A n c),(1,Vj n),(2,Qru),(6,Vj (bs:Nat)),(7,Vj (z.length:Nat)),(8,Vj ((z.length+2*bs:Nat):Int))]) (fun q=>q.2.length) ([],d)
    ⟨Full.nil _,hruns,Su hpm,Su hln,Su hown3,hm3⟩ ⟨rfl,rfl,rfl,rfl,rfl,int_eq (by simp),trivial⟩ ?_
   rintro ⟨z,t⟩ w4 ⟨hf,hrt,hp,hlen,hown4,hm4⟩;simp only at hrt hp hlen hown4;refine Hh ?_;constructor
   . intro hle;have hle:=hl hle;obtain⟨r1,t1,ht1,hr1,hs1,hrt1⟩:=Qs9 hrt Om;have hlt1:t.length=r1.length+t1.length:=by rw[ht1];simp
     obtain⟨r2,t2,ht2,hr2,hs2,hrt2⟩:=Q9x hrt1 Om;have hlt2:t1.length=r2.length+t2.length:=by rw[ht2];simp
     refine Hh ?_;refine⟨((z.length+bs:Nat):Int),Qa5 Om,Hh ?_⟩;refine(Qka _ z r1 r2 t2 z.length (z.length+bs) (z.length+2*bs) A c base w4 (Zg _) Om Om hs1 hs2 rfl Om Om n Om Om (by rw[ht1,ht2] at hown4;simpa using hown4)).mono ?_;rintro _ w5 ⟨rfl,r',hrp,hrs,hown5,hm5⟩;have hrl:=hrp.length_eq;simp only[Zo] at hrl;refine Hh ?_;refine⟨((2*bs:Nat):Int),wrap_eq Om ⟨Om,Om⟩,Hh ?_⟩;refine⟨((z.length+2*bs+2*bs:Nat):Int),Qa5 Om,Hh ?_⟩;refine⟨(z++r',t2),Sj,⟨hf.snoc Om hrs,hrt2,?_,by simp only[Zo];omega,hown5,hm4.trans hm5⟩,⟨rfl,rfl,rfl,rfl,int_eq (by rw[Zo];omega),int_eq (by rw[Zo];omega),trivial⟩⟩;refine List.Perm.trans ?_ hp;rw[ht1,ht2];simp only;rw[Zaa,<- Zaa r1];exact Zct z (hrp.append_right t2)
   intro hgt;have hgt:=hl' hgt;refine Hh ?_
   refine Xl Qb (ι:=List Ev) (fun _ => [(0,.slice A n c),(1,Vj n),(2,Qru),(6,Vj (bs:Nat))])
    (fun d' w'=>Qz7 Q5 (2*bs) d'/\d'.Perm x/\d'.length=n/\Own evC 8 77 base w' A c d'/\Mod (Blk A) w w') ?_ ?_
   . (conv=>whnf)
     refine⟨((z.length+bs:Nat):Int),Qa5 Om,Hh ?_⟩;constructor
     . intro hlt2;have hlt2:=hd hlt2;obtain⟨r1,t1,ht1,hr1,hs1,hrt1⟩:=Qs9 hrt Om;have hlt1:t.length=r1.length+t1.length:=by rw[ht1];simp
       have hs2:=Qta hrt1 Om;refine Hh ?_;refine(Qka _ z r1 t1 [] z.length (z.length+bs) n A c base w4 (Zg _) Om Om hs1 hs2 rfl Om Om n (by simp;omega) Om (by rw[ht1] at hown4;simpa using hown4)).mono ?_;rintro _ w5 ⟨rfl,r',hrp,hrs,hown5,hm5⟩;have hrl:=hrp.length_eq;simp only[Zo] at hrl;refine Hh ?_;refine⟨z++r',⟨hf.runs (.last _ Om hrs),?_,by simp;omega,Su hown5,hm4.trans hm5⟩,Rr⟩;refine List.Perm.trans (Zct z hrp) ?_;rw[<- ht1];exact hp
     . intro hge;have hge:=hd' hge;refine Hh ?_;exact⟨z++t,⟨hf.runs (.last _ Om (Qta hrt Om)),hp,by simp;omega,hown4,hm4⟩,Rr⟩
   rintro d' w5 ⟨hr5,hp5,hl5,hown5,hm5⟩;refine Hh ?_;refine⟨((2*bs:Nat):Int),wrap_eq Om ⟨Om,Om⟩,Hh ?_⟩;exact⟨(2*bs,d'),Sj,⟨Sj,Sj,hr5,hp5,hl5,hown5,hm5⟩,Rr⟩
 . intro hge;have hge:=hd' hge;refine Hh ?_;exact⟨rfl,d,hpm,Qta hruns Om,hown3,hm3⟩
theorem Qo4 (x:List Ev) (A:Option Addr) (c base:Nat) (w:World) (n:Nat) (hn:x.length=n) (hLs:n<100000000000)
 (hown:Own evC 8 77 base w A c x) :
 Cal Tryz.prog 114 [.slice A n c,Qru] w fun r w'=>r = .tuple #[]/\∃ z,z.Perm x/\Srt Q5 z/\Own evC 8 77 base w' A c z/\Mod (Blk A) w w':=by
 refine Fi Tryz.func114 rfl _ rfl rfl (Hh ?_);refine(Qzl x A c base w n hn hLs hown).mono ?_;rintro _ w1 ⟨rfl,h⟩;refine Hh ?_;exact⟨rfl,h⟩
section
variable {P:Program}
theorem X9 {t e:TypeId} (h:P.underlying t=some (.slice e)) (A:Option Addr) (n c:Nat) (ox oy:Operand):Qm4 P t ox oy (.slice A n c) (.slice none 0 0) A.isNone:=by
 intro w;have h1:=run_equal_slice_nil (P:=P) w t e A n c h;constructor
 . simp[eqGuard,binOp,h1]
 . simp[eqGuard,binOp,h1]
theorem Qau {t k e:TypeId} (h:P.underlying t=some (.map k e)) (m:Option Nat) (ox oy:Operand):Qm4 P t ox oy (.map m) (.map none) m.isNone:=by
 intro w;have h1:=run_equal_map_nil (P:=P) w t k e m h;constructor
 . simp[eqGuard,binOp,h1]
 . simp[eqGuard,binOp,h1]
end
theorem Qw2:Tryz.prog.underlying 23=some (.slice 77):=by kernel_rfl
theorem Qhp {w:World} {A:Option Addr} {c base:Nat} {l:List Ev} {R:Value->World->Prop} {ty:TypeId} (hown:Own evC 8 77 base w A c l) {B:Option Addr} {cB:Nat} {news:List Ev} (hs:SlE w B news) (hl:l.length+news.length<1000000000000) (hbase:base<=w.heap.size)
 (h:∀ A' c' w',Own evC 8 77 base w' A' c' (l++news)->w.grownBy w' (A.map (·.block))->(A'=A\/A'.map (·.block)=A.map (·.block)\/A'.map (·.block)=some w.heap.size)->R (.slice A' (l++news).length c') w') :
 Qkj Tryz.prog (Builtin.append_ #[23,23] ty [.slice A l.length c,.slice B news.length cB].toArray) w R :=
 Qd7 (bytes:=96) ty77_ok Qw2 by77 rfl rfl (by decide) Qag Qbg hown hs Om Om hbase h
theorem Xeq {w:World} {A:Option Addr} {c base:Nat} {l:List Ev} (h:Own evC 8 77 base w A c l):∀ k,A.map (·.block)=some k->base<=k:=by
 intro k hk
 cases A with
 | none=>simp at hk
 | some a=>have:=h.block (a:=a) rfl;simp at hk;omega
theorem Q2p (x:List Ev) (A:Option Addr) (c:Nat) (w:World) (hs:SlE w A x) (hl:x.length<1000000000000) :
 Cal Tryz.prog 113 [.slice A x.length c] w fun r w'=>∃ A' c',r = .slice A' x.length c'/\Own evC 8 77 w.heap.size w' A' c' x/\Ext w w':=by
 refine Fi Tryz.func113 rfl _ rfl rfl (Hh ?_);refine⟨_,X9 Qw2 A _ _ _ _,Hh ?_⟩;constructor
 . intro h;obtain rfl:A=none:=Su h
   have hx:x = []:=by
    cases x with
    | nil=>rfl
    | cons e x=>obtain⟨a,ha,_⟩:=hs 0 e rfl;cases ha
   subst hx;refine Hh ?_;exact⟨none,0,rfl,Own.nil,Ext.refl _⟩
 . intro h;refine Hh ?_;intro b1 w1 hn1;refine Hh ?_;refine Qhp (l := []) (base:=w.heap.size) (Own.made hn1 (Zg _)) (hs.ext hn1.ext) (Su hl) hn1.ext.size ?_;intro A' c' w' hown hg hA;refine Hh ?_;refine⟨A',c',by simp,Su hown,Qu hn1.ext hg fun k hk => ?_⟩;have:k=b1:=Su hk.symm;rw[this,hn1.block];exact Zg _
theorem Q6v (A:Option Addr) (n c:Nat) (w:World) (h:n<=c) :
 Cal Tryz.prog 115 [.slice A n c] w fun r w'=>r = .slice A n n/\w'=w:=by
 refine Fi Tryz.func115 rfl _ rfl rfl (Hh ?_);refine⟨⟨by simp,Om,Om,Om⟩,Hh ?_⟩;refine⟨?_,rfl⟩;cases A <;> simp[Addr.add]
theorem Q3b {w w1 w2:World} {A:Option Addr} (hx:Ext w w1) (hm:Mod (Blk A) w1 w2) (h:∀ a,A=some a->w.heap.size<=a.block):Ext w w2 :=
 Qgf hx hm fun k hk=>by obtain⟨a,ha,rfl⟩:=hk;exact h a ha
structure Gl (w:World):Prop where
 maxLen:∃ m,w.cell? ⟨2,0,none⟩=some (Vj m)
 pow10 : Lib.TabIs Tryz.prog w "internal/strconv.uint64pow10" .u64 Lib.pow10Tab
 kinds:Xp w ⟨1,0,none⟩ (kindNames.map Value.string)
 size:10<=w.heap.size
theorem Xjn : Tryz.prog.globalNamed "internal/strconv.uint64pow10" = some 3 := by kernel_rfl
theorem Gl.keep {w w':World} (h:Gl w) (hk:∀ k,k<10->w'.heap[k]? = w.heap[k]?) (hs:w.heap.size<=w'.heap.size):Gl w' where
 maxLen:=by obtain⟨m,hm⟩:=h.maxLen;exact⟨m,by rw[World.cell?_of_block (w:=w) (hk _ (by decide))];exact hm⟩
 pow10:=by
  have:=h.pow10;unfold Lib.TabIs World.var? at this ⊢;rw[Xjn] at this ⊢;simp only[Option.bind_some] at this ⊢;rw[hk _ (by decide)];exact this
 kinds:=fun j v hj=>by
  rw[World.cell?_of_block (w:=w) (hk _ (by rw[add_block];decide))];exact h.kinds j v hj
 size:=Zv h.size hs
theorem Gl.ext {w w':World} (h:Gl w) (hx:Ext w w'):Gl w':=h.keep (fun k hk=>hx.block k (Zal hk h.size)) hx.size
theorem Gl.mod {w w':World} {S:Nat->Prop} (h:Gl w) (hx:Mod S w w') (hs:∀ k,S k->10<=k):Gl w' :=
 h.keep (fun k hk=>hx.block k (Zal hk h.size) (fun q=>by have:=hs k q;omega)) hx.size
theorem Gl.only {w w':World} {b:Nat} (h:Gl w) (hx:Only w w' b) (hb:10<=b):Gl w':=h.keep (fun k hk=>hx.block k Om) (by rw[hx.size];exact Zg _)
theorem Qnt (w:World) (n:Nat):Ext w (w.drewN n):=⟨rfl,rfl,rfl,Zg _,fun _ _=>rfl⟩
theorem Qdz (w:World) (os:Array Obj):Ext w (Go.Sort.grow w os):=by
 refine⟨rfl,rfl,rfl,by simp[Go.Sort.grow],fun k hk => ?_⟩;simp only[Go.Sort.grow];rw[Array.getElem?_append_left hk]
theorem Qx4 (c:UInt8):∀ l:List UInt8,Lib.indexByte l c=match l.findIdx? (· == c) with | some i=>(i:Int) | none => -1
 | []=>rfl
 | b :: l=>by
   unfold Lib.indexByte;rw[Qx4 c l,List.findIdx?_cons]
   cases hb:(b == c) with
   | true=>simp
   | false =>
     simp only[Zag,if_false]
     cases l.findIdx? (· == c) with
     | none=>simp
     | some i=>simp
theorem Xfy (s:Bj):Lib.index s.data.toList [59]=Xei s:=by
 rw[Lib.index_one,Qx4];rfl
def Qa7 (s:Bj):Bj:=match Qc5 s with | some i=>s.extract (i+1) s.size | none=>⟨#[]⟩
theorem Xh5:Qtv Tryz.prog 107:=⟨_,Tryz.func107,rfl,rfl⟩
theorem Qmn (s:Bj) (w:World) (hg:Gl w) (hs:s.size<4000000000) :
 Cal Tryz.prog 107 [.string s,.string ⟨#[59]⟩] w fun r w'=>r = .tuple #[.string (Qcm s),.string (Qa7 s),.bool (Qc5 s).isSome]/\Ext w w':=by
 obtain⟨m,hm⟩:=hg.maxLen;refine Qa9 Xh5 (Tryz.strings_Cut s ⟨#[59]⟩ m w Om hm) ?_;rintro w' ⟨n,rfl⟩;refine⟨?_,Qnt w n⟩
 have h1:Lib.cut s.data.toList [59]=((Qcm s).data.toList,(Qa7 s).data.toList,(Qc5 s).isSome):=by
  unfold Lib.cut;rw[Xfy];unfold Xei Qcm Qa7
  cases hp:Qc5 s with
  | none=>simp
  | some i =>
    have:=Qot hp;simp only[Int.natCast_nonneg,if_true,Za4,Option.isSome_some,Qe3];have hl:s.data.toList.length=s.size:=by simp
    simp only[List.drop_zero,Nat.sub_zero,Z8,Zam,Zbg];rw[Zb (l:=s.data.toList.drop (i+1)) (by simp)]
 show Value.tuple #[.string ⟨(Lib.cut s.data.toList [59]).1.toArray⟩,.string ⟨(Lib.cut s.data.toList [59]).2.1.toArray⟩,.bool (Lib.cut s.data.toList [59]).2.2]=_
 rw[h1]
theorem Qvw {c:UInt8}:∀ {a b:List UInt8},(∀ x∈a,x≠c)->partsOf c (a++c :: b)=a :: partsOf c b
 | [],b,_=>by simp[partsOf]
 | x :: a,b,h=>by
   simp only[Zay,partsOf];rw[if_neg (h x (by simp)),Qvw (a:=a) (fun y hy=>h y (by simp[hy]))]
theorem Qo7:∀ (n:Nat) (s:Bj),s.size<=n->Lib.splitB ⟨#[44]⟩ 0 (Lib.countB s ⟨#[44]⟩) s=Qbs 44 s:=by
 intro n
 induction n with
 | zero =>
   intro s hs;have:s.data.toList = []:=Zao.1 (Su hs)
   have hi:Lib.indexB s ⟨#[44]⟩ = -1:=by
    show Lib.index s.data.toList [44] = -1
    rw[this];rfl
   rw[Lib.splitB_miss _ _ _ _ hi];unfold Qbs;rw[this];simp[partsOf,bytesOf];apply ByteArray.ext;apply Zco;simpa using this
 | succ n ih =>
   intro s hs
   have hix:Lib.indexB s ⟨#[44]⟩=match s.data.toList.findIdx? (· == 44) with | some i=>(i:Int) | none => -1:=by
    show Lib.index s.data.toList [44]=_
    rw[Lib.index_one,Qx4]
   cases hf:s.data.toList.findIdx? (· == 44) with
   | none =>
     rw[hf] at hix;rw[Lib.splitB_miss _ _ _ _ hix];unfold Qbs;rw[Qqy (fun x hx=>by rw[Zav] at hf;have:=hf x hx;simpa using this)];rfl
   | some i =>
     rw[hf] at hix;simp only at hix;rw[Zab] at hf;obtain⟨hi,hc,hall⟩:=hf;have hi':i<s.size:=Su hi;have hsz1:(⟨#[44]⟩:Bj).size=1:=rfl;rw[Lib.countB_hit s _ i (by decide) hix,Zc4,Lib.splitB_hit _ _ _ _ _ hix,hsz1,ih _ (by rw[ByteArray.size_extract];omega)];have hdec:s.data.toList=s.data.toList.take i++44 :: s.data.toList.drop (i+1):=(by have h44:s.data.toList[i]=44:=Su hc;rw[<- h44];exact Qwu hi);unfold Qbs
     conv=>rhs;rw[hdec]
     rw[Qvw (fun x hx=>by
      obtain⟨j,hj,rfl⟩:=Za2 hx;simp at hj;have:=hall j Om;simpa using this)]
     rw[Zm];congr 1
     . rw[Qjj];simp
     . rw[Qe3];rw[Zb (by simp)]
theorem Qmo (l:List Bj):l.flatMap Qab=l.map Value.string:=by
 induction l with
 | nil=>rfl
 | cons x l ih=>rw[Zat,ih];rfl
theorem Q1d:Qtv Tryz.prog 131:=⟨_,Tryz.func131,rfl,rfl⟩
theorem Q42 (s:Bj) (w:World) (hg:Gl w) (hs:s.size<4000000000) :
 Cal Tryz.prog 131 [.string s,.string ⟨#[44]⟩] w fun r w'=>∃ A c,r = .slice A (Qbs 44 s).length c/\SlT w' A (Qbs 44 s)/\Ext w w':=by
 obtain⟨m,hm⟩:=hg.maxLen;refine Qa9 Q1d (Tryz.strings_Split s ⟨#[44]⟩ m w Om hm (by decide)) ?_;rintro w' rfl;have hlen:=Lib.splitB_all ⟨#[44]⟩ (by decide) 0 _ s rfl;have hsp:=Qo7 s.size s (Zg _);rw[hsp] at hlen;have hn:New w (w.alloc (.cells ((Qbs 44 s).flatMap Qab).toArray 9)) w.heap.size (.cells ((Qbs 44 s).flatMap Qab).toArray 9):=⟨rfl,rfl⟩;refine⟨some ⟨w.heap.size,0,none⟩,Lib.countB s ⟨#[44]⟩+1,by rw[hlen],?_,?_⟩
 . rw[hsp,<- Qmo];exact Qak Qw hn
 . rw[hsp,<- Qmo];exact hn.ext
theorem Qeo (s:Bj):Xg s=if Qa7 s=⟨#[]⟩ then [] else Qbs 44 (Qa7 s):=by
 unfold Xg Qa7
 cases hp:Qc5 s with
 | none=>simp
 | some i =>
   have:=Qot hp;simp only
   by_cases h:i+1=s.size
   . have:s.extract (i+1) s.size=⟨#[]⟩:=(by rw[Qjj,h];simp[bytesOf]);rw[if_pos h,if_pos this]
   . have:s.extract (i+1) s.size≠⟨#[]⟩:=fun e=>(by have:=congrArg ByteArray.size e;rw[ByteArray.size_extract] at this;have h0:(⟨#[]⟩:Bj).size=0:=rfl;omega)
     rw[if_neg h,if_neg this]
theorem Q29 (s:Bj) (w:World) (hg:Gl w) (hs:s.size<4000000000) :
 Cal Tryz.prog 108 [.string s] w fun r w'=>∃ A c,r = .slice A (Xg s).length c/\SlT w' A (Xg s)/\Ext w w':=by
 have hrs:(Qa7 s).size<=s.size:=by
  unfold Qa7;split
  . rw[ByteArray.size_extract];omega
  . exact Zu _
 refine Fi Tryz.func108 rfl _ rfl rfl (Hh ?_);refine(Qmn s w hg hs).mono ?_;rintro _ w1 ⟨rfl,hx1⟩;refine Hh ?_;constructor
 . intro h;have h:Qa7 s=⟨#[]⟩:=Su h;refine Hh ?_;have ht:Xg s = []:=by rw[Qeo,if_pos h]
   exact⟨none,0,by rw[ht];rfl,by rw[ht];exact Sl.nil,hx1⟩
 . intro h;have h:¬ Qa7 s=⟨#[]⟩:=Su h;refine Hh ?_;refine(Q42 (Qa7 s) w1 (hg.ext hx1) Om).mono ?_;rintro _ w2 ⟨A,c,rfl,hsl,hx2⟩;refine Hh ?_;have ht:Xg s=Qbs 44 (Qa7 s):=by rw[Qeo,if_neg h]
   exact⟨A,c,by rw[ht],by rw[ht];exact hsl,hx1.trans hx2⟩
theorem Qb4 (s:Bj) (w:World):Cal Tryz.prog 28 [.string s] w fun r w'=>r = .bool (Qr s)/\w'=w:=by
 refine Fi Tryz.func28 rfl _ rfl rfl (Hh ?_);constructor
 . intro h;have h:(decide ((s.size:Int)<1)||decide ((24:Int)<s.size))=true:=h;refine Hh ?_;refine⟨?_,rfl⟩
   have:Qr s=false:=by
    unfold Qr;simp only[Zbi,decide_eq_true_eq] at h;rcases h with h | h
    . have:decide (1<=s.size)=false:=decide_eq_false Om;rw[this];rfl
    . have:decide (s.size<=24)=false:=decide_eq_false Om;rw[this];simp
   rw[this]
 . intro h;have h:(decide ((s.size:Int)<1)||decide ((24:Int)<s.size))=false:=h;simp only[Bool.or_eq_false_iff,decide_eq_false_iff_not] at h;refine Hh ?_;have hlen:s.data.toList.length=s.size:=by simp
   refine Qh Qb (fun(k:Nat) w'=>k<=s.size/\w'=w/\∀ i (hi:i<s.data.toList.length),i<k->Qoi s.data.toList[i]=true)
    (fun k => [(0,.string s),(14,Vj s.size),(15,Vj k)]) (fun k=>s.size-k) 0 ⟨Om,rfl,fun i _ h=>Om⟩ Rr ?_
   rintro k w1 ⟨hk,rfl,hall⟩;refine Hh ?_;constructor
   . intro hlt;have hlt:k<s.size:=Su hlt;refine Hh ?_;refine⟨s.data.toList[k]'Om,⟨Om,bytes_at s k hlt⟩,Hh ?_⟩;have hch:∀ c:UInt8,(((decide ((97:Int)<=c.toNat)&&decide ((c.toNat:Int)<=122))||(decide ((48:Int)<=c.toNat)&&decide ((c.toNat:Int)<=57)))||decide ((c.toNat:Int)=45))=Qoi c:=fun c=>rfl
     constructor
     . intro hb;have hb:Qoi (s.data.toList[k]'Om)=false:=(by rw[<- hch];simpa only[Zai] using hb);refine Hh ?_;refine⟨?_,rfl⟩;have:Qr s=false:=(by unfold Qr;have:s.data.toList.all Qoi=false:=Xe4 Om hb;rw[this];simp);rw[this]
     . intro hb;have hb:Qoi (s.data.toList[k]'Om)=true:=(by rw[<- hch];simpa only[Bool.not_eq_false'] using hb);refine Hh ?_;refine⟨_,wrap_succ Om,Hh ?_⟩;refine⟨k+1,Om,⟨Om,rfl,fun i hi hik => ?_⟩,Rr⟩
       by_cases e:i=k
       . subst e;exact hb
       . exact hall i hi Om
   . intro hge;have hge:s.size<=k:=Su hge;refine Hh ?_;refine⟨?_,rfl⟩;have:Qr s=true:=(by unfold Qr;have h3:s.data.toList.all Qoi=true:=Xbp hall Om;rw[h3];simp;omega);rw[this]
theorem Qvj (s:Bj) (w:World) (hg:Gl w) (hs:s.size<4000000000) :
 Cal Tryz.prog 64 [.string s] w fun r w'=>r = .bool (Qc1 s)/\Ext w w':=by
 refine Fi Tryz.func64 rfl _ rfl rfl (Hh ?_);refine(Qmn s w hg hs).mono ?_;rintro _ w1 ⟨rfl,hx1⟩;refine Hh ?_;refine⟨Unit,fun _ => .bool (Qr (Qcm s)),fun _ w'=>w'=w1,(),fun _=>(Qb4 (Qcm s) w1).mono fun r w' h=>⟨(),h.1,h.2⟩,?_⟩;intro _ w2 h2;obtain rfl:w2=w1:=(by rcases h2 with⟨_,h⟩ | ⟨_,h⟩ <;> exact h);clear h2;refine Hh ?_;constructor
 . intro h;have h:((!(Qc5 s).isSome) || !Qr (Qcm s))=true:=h;refine Hh ?_;refine⟨?_,hx1⟩
   have:Qc1 s=false:=by
    unfold Qc1
    revert h
    cases (Qc5 s).isSome <;> cases Qr (Qcm s) <;> simp
   rw[this]
 . intro h;have h:((!(Qc5 s).isSome) || !Qr (Qcm s))=false:=h
   have hl:Qc1 s=(Qho (Xg s)&&decide ((Xg s).length<=8)):=by
    unfold Qc1
    revert h
    cases (Qc5 s).isSome <;> cases Qr (Qcm s) <;> simp
   refine Hh ?_;refine(Q29 s w2 (hg.ext hx1) hs).mono ?_;rintro _ w3 ⟨A',c',rfl,hsl,hx3⟩;refine Hh ?_;have htl:=Q1x s;constructor
   . intro h8;have h8:8<(Xg s).length:=by simp at h8;omega
     refine Hh ?_;refine⟨?_,hx1.trans hx3⟩;have:decide ((Xg s).length<=8)=false:=decide_eq_false Om;rw[hl,this,Bool.and_false]
   . intro h8;have h8:(Xg s).length<=8:=by simp at h8;omega
     have hl8:Qc1 s=Qho (Xg s):=(by rw[hl,decide_eq_true h8,Zc7]);refine Hh ?_
     refine Qh Qb (fun(k:Nat) w'=>k<=(Xg s).length/\Ext w3 w'/\∀ i,i<k->Qws (Xg s) i=true)
      (fun k => [(6,.slice A' (Xg s).length c'),(27,.slice A' (Xg s).length c'),(28,Vj (Xg s).length),(29,Vj k)]) (fun k=>(Xg s).length-k) 0 ⟨Om,Ext.refl _,fun i h=>Om⟩ Rr ?_
     rintro k w5 ⟨hk,hx5,hall⟩;refine Hh ?_;constructor
     . intro hlt;have hlt:k<(Xg s).length:=Su hlt;obtain⟨a,rfl,hc⟩:=(hsl.ext hx5).getS hlt;refine Hh ?_;refine⟨a,Ix,Hh ?_⟩;refine⟨_,hc,Hh ?_⟩;refine(Qb4 ((Xg s).getD k .empty) w5).mono ?_;rintro _ w6 ⟨rfl,rfl⟩;refine Hh ?_;refine⟨(k:Int)-1,fun _ _=>wrap_i64 ⟨Om,Om⟩,Hh ?_⟩;refine⟨a,fun h1 h2=>⟨rfl,?_,?_⟩,?_⟩
       . first | (simp at h1;omega) | (simp at h2;omega)
       . omega
       refine Hh ?_;refine⟨.string ((Xg s).getD (k-1) .empty),fun h1 h2 => ?_,?_⟩
       . obtain⟨a2,e2,hc2⟩:=(hsl.ext hx5).getS (k:=k-1) Om;obtain rfl:a=a2:=Su e2;have e3:((k:Int)-1).toNat=k-1:=Om;exact(congrArg (fun n=>w6.cell? (a.add (n*1))) e3).trans hc2
       refine Hh ?_;have hcond:((!Qr ((Xg s).getD k .empty))||(decide ((0:Int)<k) && !bLt ((Xg s).getD (k-1) .empty) ((Xg s).getD k .empty))) = !Qws (Xg s) k:=(by unfold Qws;cases Qr ((Xg s).getD k .empty) <;> cases k <;> simp);constructor
       . intro hh;have hh:=hcond.symm.trans hh;simp only[Zai] at hh;refine Hh ?_;refine⟨?_,hx1.trans (hx3.trans hx5)⟩;rw[hl8,Q5b hlt hh]
       . intro hh;have hh:=hcond.symm.trans hh;simp only[Bool.not_eq_false'] at hh;refine Hh ?_;refine⟨_,wrap_succ Om,Hh ?_⟩;refine⟨k+1,Om,⟨Om,hx5,fun i hik => ?_⟩,Rr⟩
         by_cases e:i=k
         . subst e;exact hh
         . exact hall i Om
     . intro hge;have hge:(Xg s).length<=k:=Su hge;refine Hh ?_;refine⟨?_,hx1.trans (hx3.trans hx5)⟩;rw[hl8,Q5a hall hge]
theorem Q06 (a b:Int):decide (a<b) = !decide (b<=a):=by
 rw[<- decide_not];exact decide_eq_decide.2 ⟨fun h=>Om,fun h=>Om⟩
theorem Qjs (e:Ev) (w:World) (hg:Gl w) (hs:e.text.size<4000000000) :
 Cal Tryz.prog 21 [evV e] w fun r w'=>r = .bool (X0 e)/\Ext w w':=by
 refine Fi Tryz.func21 rfl _ rfl rfl (Hh ?_);intro b w1 hn;have hb:=hn.At;refine Hh ?_;refine⟨_,hb.one rfl,Hh ?_⟩;refine(Qb4 e.src w1).mono ?_;rintro _ w2 ⟨rfl,rfl⟩;refine Hh ?_;refine⟨_,fun _=>hb.one rfl,Hh ?_⟩;refine⟨_,fun _=>hb.one rfl,Hh ?_⟩;refine⟨_,fun _=>hb.one rfl,Hh ?_⟩;refine⟨_,fun _=>hb.one rfl,Hh ?_⟩;have hb5:(((((!Qr e.src)||decide (e.num<1))||decide (1099511627776<e.num))||decide (e.at_<0))||decide (1099511627776<e.at_)) = !(Qr e.src&&inB e.num 1 1099511627776&&inB e.at_ 0 1099511627776):=(by have q1:decide (e.num<1) = !decide (1<=e.num):=Q06 _ _;have q2:decide (1099511627776<e.num) = !decide (e.num<=1099511627776):=Q06 _ _;have q3:decide (e.at_<0) = !decide (0<=e.at_):=Q06 _ _;have q4:decide (1099511627776<e.at_) = !decide (e.at_<=1099511627776):=Q06 _ _;unfold inB;rw[q1,q2,q3,q4];cases Qr e.src <;> cases decide (1<=e.num) <;> cases decide (e.num<=1099511627776) <;> cases decide (0<=e.at_) <;> cases decide (e.at_<=1099511627776) <;> rfl);constructor
 . intro h;have h:=hb5.symm.trans h;rw[Zai] at h;refine Hh ?_;refine⟨?_,hn.ext⟩;have:X0 e=false:=by unfold X0;rw[h,Bool.false_and]
   rw[this]
 intro h;have h:=hb5.symm.trans h;rw[Bool.not_eq_false'] at h;have hm:X0 e=Qjq e:=by unfold X0;rw[h,Bool.true_and]
 clear hb5 h;rw[hm];refine Hh ?_;refine Dr .ext [0,1,3,4,6,7,8,2,5,9,10,11] [] (Hh ?_);have hx5:Ext w w2.drew:=hn.ext.drew;have hb5:At w2.drew b 77 (evC e):=hb;have hg5:=hg.ext hx5;generalize w2.drew=w3 at hx5 hb5 hg5 ⊢;refine⟨_,hb5.one rfl,Hh ?_⟩;refine⟨_,hb5.one rfl,Hh ?_⟩;refine⟨_,hb5.one rfl,Hh ?_⟩;refine(Qb4 e.person w3).mono ?_;rintro _ w4 ⟨rfl,rfl⟩;refine⟨Ext.refl _,Hh ?_⟩;refine(Qb4 e.item w4).mono ?_;rintro _ w5 ⟨rfl,rfl⟩;refine⟨Ext.refl _,Hh ?_⟩;refine Qa Qb (Hh ?_);refine⟨_,hb5.one rfl,Hh ?_⟩;refine Xl Qb (ι:=Bool) (fun i => [(1,Pj b),(3,.bool (Qr e.person)),(4,.bool (Qr e.item)),(5,.bool (decide (e.text=⟨#[]⟩))),(40,Vj e.kind),(41,.bool i)]) (fun i w'=>i=k6 e/\w'=w5) ?_ ?_
 . (conv=>whnf)
   refine⟨fun h0' => ?_,fun h0' => ?_⟩
   . (conv=>whnf)
     exact⟨_,⟨by unfold k6;simp at h0';simp[h0'],rfl⟩,⟨rfl,rfl,rfl,rfl,rfl,rfl,trivial⟩⟩
   refine Hh ?_;refine⟨fun h1' => ?_,fun h1' => ?_⟩
   . (conv=>whnf)
     exact⟨_,⟨by unfold k6;simp at h1';simp[h1'],rfl⟩,⟨rfl,rfl,rfl,rfl,rfl,rfl,trivial⟩⟩
   refine Hh ?_;refine⟨fun h2' => ?_,fun h2' => ?_⟩
   . (conv=>whnf)
     exact⟨_,⟨by unfold k6;simp at h2';simp[h2'],rfl⟩,⟨rfl,rfl,rfl,rfl,rfl,rfl,trivial⟩⟩
   refine Hh ?_;refine⟨fun h3' => ?_,fun h3' => ?_⟩
   . (conv=>whnf)
     exact⟨_,⟨by unfold k6;simp at h3';simp[h3'],rfl⟩,⟨rfl,rfl,rfl,rfl,rfl,rfl,trivial⟩⟩
   refine Hh ?_;refine⟨fun h4' => ?_,fun h4' => ?_⟩
   . (conv=>whnf)
     exact⟨_,⟨by unfold k6;simp at h4';simp[h4'],rfl⟩,⟨rfl,rfl,rfl,rfl,rfl,rfl,trivial⟩⟩
   refine Hh ?_;exact⟨_,⟨by unfold k6;simp at h0' h1' h2' h3' h4';simp[h0',h1',h2',h3',h4'],rfl⟩,⟨rfl,rfl,rfl,rfl,rfl,rfl,trivial⟩⟩
 rintro _ w9 ⟨rfl,hw9⟩;replace hw9:=hw9.symm;subst hw9;refine Hh ?_;refine⟨fun k1 => ?_,fun k1 => ?_⟩
 . (conv=>whnf)
   refine⟨_,fun _=>hb5.one rfl,Hh ?_⟩;refine⟨?_,hx5⟩;unfold Qjq;rw[k1,cond_true];cases Qr e.person <;> cases Qr e.item <;> cases decide (e.text=⟨#[]⟩) <;> cases decide (e.val=0) <;> rfl
 refine Hh ?_;refine⟨fun k2 => ?_,fun k2 => ?_⟩
 . (conv=>whnf)
   refine⟨_,fun _=>hb5.one rfl,Hh ?_⟩;refine⟨_,fun _=>hb5.one rfl,Hh ?_⟩;refine⟨?_,hx5⟩;unfold Qjq inB;rw[k1,cond_false,k2,cond_true];cases Qr e.person <;> cases Qr e.item <;> cases decide (e.text=⟨#[]⟩) <;> cases decide (1<=e.val) <;> cases decide (e.val<=5) <;> rfl
 refine Hh ?_;refine Xl Qb (ι:=Bool) (fun i => [(1,Pj b),(3,.bool (Qr e.person)),(4,.bool (Qr e.item)),(5,.bool (decide (e.text=⟨#[]⟩))),(40,Vj e.kind),(79,.bool i)]) (fun i w'=>i=k4 e/\w'=w5) ?_ ?_
 . (conv=>whnf)
   refine⟨fun h0' => ?_,fun h0' => ?_⟩
   . (conv=>whnf)
     exact⟨_,⟨by unfold k4;simp at h0';simp[h0'],rfl⟩,⟨rfl,rfl,rfl,rfl,rfl,rfl,trivial⟩⟩
   refine Hh ?_;refine⟨fun h1' => ?_,fun h1' => ?_⟩
   . (conv=>whnf)
     exact⟨_,⟨by unfold k4;simp at h1';simp[h1'],rfl⟩,⟨rfl,rfl,rfl,rfl,rfl,rfl,trivial⟩⟩
   refine Hh ?_;refine⟨fun h2' => ?_,fun h2' => ?_⟩
   . (conv=>whnf)
     exact⟨_,⟨by unfold k4;simp at h2';simp[h2'],rfl⟩,⟨rfl,rfl,rfl,rfl,rfl,rfl,trivial⟩⟩
   refine Hh ?_;exact⟨_,⟨by unfold k4;simp at h0' h1' h2';simp[h0',h1',h2'],rfl⟩,⟨rfl,rfl,rfl,rfl,rfl,rfl,trivial⟩⟩
 rintro _ w9 ⟨rfl,hw9⟩;replace hw9:=hw9.symm;subst hw9;refine Hh ?_;refine⟨fun k3 => ?_,fun k3 => ?_⟩
 . (conv=>whnf)
   refine⟨_,fun _=>hb5.one rfl,Hh ?_⟩;refine⟨_,fun _=>hb5.one rfl,Hh ?_⟩;refine⟨_,fun _=>hb5.one rfl,Hh ?_⟩;refine⟨Unit,fun _ => .bool (Qr e.text),fun _ w'=>w'=w5,(),fun _=>(Qb4 e.text w5).mono fun r w' h=>⟨(),h.1,h.2⟩,?_⟩;intro _ w6 h6;obtain rfl:w6=w5:=(by rcases h6 with⟨_,h⟩ | ⟨_,h⟩ <;> exact h);clear h6;refine Hh ?_;refine⟨?_,hx5⟩;unfold Qjq;rw[k1,cond_false,k2,cond_false,k3,cond_true];cases Qr e.person <;> cases decide (e.item=⟨#[]⟩) <;> cases Qr e.text <;> cases decide (e.val=0) <;> rfl
 refine Hh ?_;refine⟨fun k4' => ?_,fun k4' => ?_⟩
 . (conv=>whnf)
   refine⟨_,hb5.one rfl,Hh ?_⟩;refine⟨_,fun _=>hb5.one rfl,Hh ?_⟩;refine⟨_,fun _=>hb5.one rfl,Hh ?_⟩;refine⟨_,fun _=>hb5.one rfl,Hh ?_⟩;refine⟨Unit,fun _ => .bool (Qc1 e.text),fun _ w'=>Ext w5 w',(),fun _=>(Qvj e.text w5 hg5 hs).mono fun r w' h=>⟨(),h.1,h.2⟩,?_⟩;intro _ w6 h6
   have hx6:Ext w5 w6:=by
    rcases h6 with⟨_,h⟩ | ⟨_,h⟩
    . exact h
    . rw[h];exact Ext.refl _
   clear h6;refine Hh ?_;refine⟨?_,hx5.trans hx6⟩;unfold Qjq inB;rw[k1,cond_false,k2,cond_false,k3,cond_false,k4',cond_true];cases decide (e.person=⟨#[]⟩) <;> cases Qr e.item <;> cases Qc1 e.text <;> cases decide (0<=e.val) <;> cases decide (e.val<=1048576) <;> rfl
 refine Hh ?_;refine⟨fun k5 => ?_,fun k5 => ?_⟩
 . (conv=>whnf)
   refine⟨_,hb5.one rfl,Hh ?_⟩;refine⟨_,fun _=>hb5.one rfl,Hh ?_⟩;refine⟨_,fun _=>hb5.one rfl,Hh ?_⟩;refine⟨?_,hx5⟩;unfold Qjq inB;rw[k1,cond_false,k2,cond_false,k3,cond_false,k4',cond_false,k5,cond_true];cases decide (e.person=⟨#[]⟩) <;> cases Qr e.item <;> cases decide (e.text=⟨#[]⟩) <;> cases decide (0<=e.val) <;> cases decide (e.val<=1048576) <;> rfl
 refine Hh ?_;refine⟨fun k7 => ?_,fun k7 => ?_⟩
 . (conv=>whnf)
   refine⟨_,hb5.one rfl,Hh ?_⟩;refine⟨_,fun _=>hb5.one rfl,Hh ?_⟩;refine⟨?_,hx5⟩;unfold Qjq;rw[k1,cond_false,k2,cond_false,k3,cond_false,k4',cond_false,k5,cond_false,k7,cond_true];cases decide (e.person=⟨#[]⟩) <;> cases Qr e.item <;> cases decide (e.text=⟨#[]⟩) <;> cases decide (e.val=0) <;> rfl
 refine Hh ?_;refine⟨fun k8 => ?_,fun k8 => ?_⟩
 . (conv=>whnf)
   refine⟨_,fun _=>hb5.one rfl,Hh ?_⟩;refine⟨_,fun _=>hb5.one rfl,Hh ?_⟩;refine⟨?_,hx5⟩;unfold Qjq;rw[k1,cond_false,k2,cond_false,k3,cond_false,k4',cond_false,k5,cond_false,k7,cond_false,k8,cond_true];cases Qr e.person <;> cases decide (e.item=⟨#[]⟩) <;> cases decide (e.text=⟨#[]⟩) <;> cases decide (e.val=0) <;> rfl
 refine Hh ?_;refine⟨?_,hx5⟩;unfold Qjq;rw[k1,cond_false,k2,cond_false,k3,cond_false,k4',cond_false,k5,cond_false,k7,cond_false,k8];rfl
def Qy (e:Ev):Int:=if e.kind=1 then 1 else if e.kind=2 then 3 else if e.kind=3 then 5 else if e.kind=4 then e.val else 0
theorem Qcu (e:Ev) (w:World):Cal Tryz.prog 118 [evV e] w fun r w'=>r = Vj (Qy e)/\Ext w w':=by
 refine Fi Tryz.func118 rfl _ rfl rfl (Hh ?_);intro b w1 hn;have hb:=hn.At;refine Hh ?_;refine⟨_,hb.one rfl,Hh ?_⟩;refine⟨fun h1 => ?_,fun h1 => ?_⟩
 . have h1:e.kind=1:=Su h1;refine Hh ?_;exact⟨by unfold Qy;rw[if_pos h1],hn.ext⟩
 have h1:¬ e.kind=1:=Su h1;refine Hh ?_;refine⟨fun h2 => ?_,fun h2 => ?_⟩
 . have h2:e.kind=2:=Su h2;refine Hh ?_;exact⟨by unfold Qy;rw[if_neg h1,if_pos h2],hn.ext⟩
 have h2:¬ e.kind=2:=Su h2;refine Hh ?_;refine⟨fun h3 => ?_,fun h3 => ?_⟩
 . have h3:e.kind=3:=Su h3;refine Hh ?_;exact⟨by unfold Qy;rw[if_neg h1,if_neg h2,if_pos h3],hn.ext⟩
 have h3:¬ e.kind=3:=Su h3;refine Hh ?_;refine⟨fun h4 => ?_,fun h4 => ?_⟩
 . have h4:e.kind=4:=Su h4;refine Hh ?_;refine⟨_,hb.one rfl,Hh ?_⟩;exact⟨by unfold Qy;rw[if_neg h1,if_neg h2,if_neg h3,if_pos h4],hn.ext⟩
 have h4:¬ e.kind=4:=Su h4;refine Hh ?_;exact⟨by unfold Qy;rw[if_neg h1,if_neg h2,if_neg h3,if_neg h4],hn.ext⟩
theorem Qel {s:Bj} (h:Qr s=true):1<=s.size/\s.size<=24:=by
 unfold Qr at h;simp only[Zl,decide_eq_true_eq] at h;exact h.1
theorem Qkn {s:Bj} (h:s=⟨#[]⟩):s.size=0:=by rw[h];rfl
theorem Qc4 {n lo hi:Int}:inB n lo hi=true↔lo<=n/\n<=hi:=by simp[inB]
structure Xjs (e:Ev):Prop where
 src:Qr e.src=true
 num:1<=e.num/\e.num<=1099511627776
 at_:0<=e.at_/\e.at_<=1099511627776
 kind:Qjq e=true
theorem Qb9 {e:Ev}:X0 e=true↔Xjs e:=by
 unfold X0;simp only[Zl,Qc4];exact⟨fun h=>⟨h.1.1.1,h.1.1.2,h.1.2,h.2⟩,fun h=>⟨⟨⟨h.src,h.num⟩,h.at_⟩,h.kind⟩⟩
theorem Qbj {e:Ev} (h:Qjq e=true) :
 ((e.kind=0\/e.kind=1\/e.kind=2\/e.kind=3\/e.kind=5\/e.kind=6)/\Qr e.person=true/\Qr e.item=true/\e.text=⟨#[]⟩/\e.val=0) \/
 (e.kind=4/\Qr e.person=true/\Qr e.item=true/\e.text=⟨#[]⟩/\1<=e.val/\e.val<=5) \/
 ((e.kind=7\/e.kind=8\/e.kind=9\/e.kind=10)/\Qr e.person=true/\e.item=⟨#[]⟩/\Qr e.text=true/\e.val=0) \/
 (e.kind=11/\e.person=⟨#[]⟩/\Qr e.item=true/\Qc1 e.text=true/\0<=e.val/\e.val<=1048576) \/
 (e.kind=12/\e.person=⟨#[]⟩/\Qr e.item=true/\e.text=⟨#[]⟩/\0<=e.val/\e.val<=1048576) \/
 (e.kind=13/\e.person=⟨#[]⟩/\Qr e.item=true/\e.text=⟨#[]⟩/\e.val=0) \/
 (e.kind=14/\Qr e.person=true/\e.item=⟨#[]⟩/\e.text=⟨#[]⟩/\e.val=0):=by
 unfold Qjq at h;cases h1:k6 e <;> simp only[h1,cond_true,cond_false] at h
 . cases h2:decide (e.kind=4) <;> simp only[h2,cond_true,cond_false] at h
   . cases h3:k4 e <;> simp only[h3,cond_true,cond_false] at h
     . cases h4:decide (e.kind=11) <;> simp only[h4,cond_true,cond_false] at h
       . cases h5:decide (e.kind=12) <;> simp only[h5,cond_true,cond_false] at h
         . cases h6:decide (e.kind=13) <;> simp only[h6,cond_true,cond_false] at h
           . cases h7:decide (e.kind=14) <;> simp only[h7,cond_true,cond_false] at h
             . cases h
             . simp[Zl,Qc4] at h h7;simp[*]
           . simp[Zl,Qc4] at h h6;simp[*]
         . simp[Zl,Qc4] at h h5;simp[*]
       . simp[Zl,Qc4] at h h4;simp[*]
     . simp[Zl,Qc4] at h;unfold k4 at h3;simp at h3;simp[*];omega
   . simp[Zl,Qc4] at h h2;simp[*]
 . simp[Zl,Qc4] at h;unfold k6 at h1;simp at h1;simp[*];omega
theorem Q8i {e:Ev} (h:X0 e=true) (ht:e.text.size<1000000):FOk e:=by
 have h:=Qb9.1 h;have hs:=Qel h.src;have hn:=h.num;have ha:=h.at_
 rcases Qbj h.kind with⟨k,p,i,t,v⟩ | ⟨k,p,i,t,v⟩ | ⟨k,p,i,t,v⟩ | ⟨k,p,i,t,v⟩ | ⟨k,p,i,t,v⟩ | ⟨k,p,i,t,v⟩ | ⟨k,p,i,t,v⟩ <;>
  (refine⟨Om,Om,Om,Om,Om,?_,?_,ht⟩ <;> first | (have:=Qel p;omega) | (have:=Qel i;omega) | (have:=Qkn p;omega) | (have:=Qkn i;omega))
theorem Xf3:Qtv Tryz.prog 34:=⟨_,Tryz.func34,rfl,rfl⟩
theorem Qfv (n:Int) (w:World) (hg:Gl w) (h0:0<=n) (h1:n<9223372036854775808):Cal Tryz.prog 34 [Vj n] w fun r w'=>r = .string (Qr1 n.toNat)/\Ext w w':=by
 refine Qa9 Xf3 (Tryz.strconv_Itoa n Om Om w hg.pow10) ?_;rintro w' ⟨k,os,rfl⟩;refine⟨?_,(Qnt w k).trans (Qdz _ _)⟩;have:n=(n.toNat:Int):=Om;unfold Qr1 bytesOf;rw[<- Lib.itoa_nonneg,<- this]
theorem Q8w:Qtv Tryz.prog 112:=⟨_,Tryz.func112,rfl,rfl⟩
theorem Xfn (n:Nat):Qr1 n≠⟨#[]⟩:=fun e=>by
 have:=congrArg ByteArray.size e;unfold Qr1 at this;rw[Qp8] at this;have h0:(⟨#[]⟩:Bj).size=0:=rfl;rw[h0] at this;have h1:=Zao.1 this;rw[Lib.decDigits] at h1;split at h1 <;> simp at h1
theorem Qmw {s:Bj} (h:s≠⟨#[]⟩):Qc2 s=s:=by unfold Qc2;rw[decide_eq_false h];rfl
theorem Xhv {e:Ev} (h:0<=e.kind/\e.kind<15):knB e≠⟨#[]⟩:=by
 unfold knB;obtain⟨k,hk⟩:∃ k:Nat,e.kind=k:=⟨e.kind.toNat,Om⟩;rw[hk];have:k<15:=Om;intro e0;have:=congrArg ByteArray.size e0;rcases k with _ | _ | _ | _ | _ | _ | _ | _ | _ | _ | _ | _ | _ | _ | _ | k <;> first | (exact absurd this (by decide)) | omega
def Qar (e:Ev):List Bj := [e.src,Qr1 e.num.toNat,Qr1 e.at_.toNat,knB e,e.person,e.item,Qr1 e.val.toNat,e.text]
theorem Xcf {e:Ev} (hs:e.src≠⟨#[]⟩) (hk:0<=e.kind/\e.kind<15):(⟨(Lib.join ((((Qar e).map Qc2)).map (·.data.toList)) [32]).toArray⟩:Bj)=Qkh e:=by
 unfold Qar;simp only[Zm,Zb8,Qmw hs,Qmw (Xfn _),Qmw (Xhv hk)];apply ByteArray.ext;apply Zco;simp[Lib.join,List.intercalate,List.intersperse,Qkh,spB]
theorem Q7y {e:Ev} (hf:FOk e):(Qkh e).size<=10000000:=by
 have h1:=hf.src;have h2:=hf.person;have h3:=hf.item;have h4:=hf.text;have d1:=Qjg e.num.toNat (by have:=hf.num;omega);have d2:=Qjg e.at_.toNat (by have:=hf.at_;omega);have d3:=Qjg e.val.toNat (by have:=hf.val;omega)
 have hs:∀ s:Bj,s.size<1000000->(Qc2 s).size<1000000:=by
  intro s h;unfold Qc2;cases decide (s=⟨#[]⟩)
  . exact h
  . exact(by decide:(⟨#[46]⟩:Bj).size<1000000)
 have s1:=hs _ h2;have s2:=hs _ h3;have s3:=hs _ h4
 have hk:(knB e).size<=10:=by
  unfold knB;obtain⟨k,hk⟩:∃ k:Nat,e.kind=k:=⟨e.kind.toNat,by have:=hf.kind;omega⟩;rw[hk];have:k<15:=by have:=hf.kind;omega
  rcases k with _ | _ | _ | _ | _ | _ | _ | _ | _ | _ | _ | _ | _ | _ | _ | k <;> first | decide | omega
 have hsp:spB.size=1:=rfl;unfold Qkh;simp only[Za5];omega
theorem Qnx (e:Ev) (w:World) (hg:Gl w) (hm:X0 e=true) (hf:FOk e) :
 Cal Tryz.prog 66 [evV e] w fun r w'=>r = .string (Qkh e)/\Ext w w':=by
 refine Fi Tryz.func66 rfl _ rfl rfl (Hh ?_);intro b w1 hn;have hb:=hn.At;refine Hh ?_;refine⟨evC e,⟨rfl,hb.all⟩,Hh ?_⟩;refine(Qjs e w1 (hg.ext hn.ext) (by have:=hf.text;omega)).mono ?_;rintro _ w2 ⟨rfl,hx2⟩;refine Hh ?_;rw[hm];constructor
 . intro h;cases h
 intro _;have hkk:=hf.kind;obtain⟨k,hk⟩:∃ k:Nat,e.kind=k:=⟨e.kind.toNat,Om⟩;refine Hh ?_;refine Dr .ext [0,1,2,3,5,6,8,9,10,11,12,13,14,15,16,17,19,20,4,7,18] [21,22] (Hh ?_);have hb2:At w2.drew b 77 (evC e):=hb.ext hx2.drew;have hx3:Ext w w2.drew:=(hn.ext.trans hx2).drew;generalize w2.drew=w3 at hb2 hx3 ⊢;have hg3:=hg.ext hx3;refine⟨_,hb2.one rfl,Hh ?_⟩;refine⟨_,hb2.one rfl,Hh ?_⟩;refine⟨_,hb2.one rfl,Hh ?_⟩;refine⟨_,hb2.one rfl,Hh ?_⟩
 have hcell:w3.cell? ((⟨1,0,none⟩:Addr).add (e.kind.toNat*1))=some (.string (knB e)):=by
  have:=hg3.kinds k (.string (knB e)) (by
   unfold knB;rw[hk];have:k<15:=Om;rcases k with _ | _ | _ | _ | _ | _ | _ | _ | _ | _ | _ | _ | _ | _ | _ | k <;> first | rfl | omega)
  rw[hk];simpa using this
 refine⟨⟨hkk.1,hkk.2⟩,Hh ?_⟩;refine⟨.string (knB e),hcell,Hh ?_⟩;refine⟨_,hb2.one rfl,Hh ?_⟩;refine⟨_,hb2.one rfl,Hh ?_⟩;refine⟨_,hb2.one rfl,Hh ?_⟩;refine⟨_,hb2.one rfl,Hh ?_⟩;refine(Qfv e.num w3 hg3 hf.num.1 hf.num.2).mono ?_;rintro _ w4 ⟨rfl,hx4⟩;refine⟨hx4,Hh ?_⟩;refine(Qfv e.at_ w4 (hg3.ext hx4) hf.at_.1 hf.at_.2).mono ?_;rintro _ w5 ⟨rfl,hx5⟩;refine⟨hx5,Hh ?_⟩;refine(Qfv e.val w5 ((hg3.ext hx4).ext hx5) hf.val.1 hf.val.2).mono ?_;rintro _ w6 ⟨rfl,hx6⟩;refine⟨hx6,Hh ?_⟩;intro b7 w7 hn7;have hx7:Ext w w7:=((((hx3.trans hx4).trans hx5).trans hx6).trans hn7.ext);have hb7:At w7 b7 9 ((Qar e).map Value.string):=hn7.At;have hbb:w.heap.size<=b7:=by rw[hn7.block];exact(((hx3.trans hx4).trans hx5).trans hx6).size
 refine Hh ?_;have hwl:(Qar e).length=8:=rfl
 refine Qh Qb (fun(k:Nat) w'=>k<=8/\Ext w w'/\At w' b7 9 (((Qar e).take k).map (fun s=>Value.string (Qc2 s))++((Qar e).drop k).map Value.string))
  (fun k => [(3,.slice (some ⟨b7,0,none⟩) 8 8),(31,.slice (some ⟨b7,0,none⟩) 8 8),(32,Vj 8),(33,Vj k)]) (fun k=>8-k) 0 ⟨Om,hx7,Su hb7⟩ Rr ?_
 clear hb7 hx7 hn7 hb2 hb hn;rintro k w8 ⟨hk8,hx8,hb8⟩;refine Hh ?_;constructor
 . intro hlt;have hlt:k<8:=by simp at hlt;omega
   have hkl:k<(Qar e).length:=Om;rw[Zak hkl,Zm] at hb8;have htk:(Qar e).take (k+1)=(Qar e).take k ++ [(Qar e)[k]]:=Za hkl;have hcell:=hb8.cell k;rw[Z5 (by simp;omega)] at hcell;rw[show k-(((Qar e).take k).map (fun s=>Value.string (Qc2 s))).length=0 by simp;omega] at hcell;generalize hx:(Qar e)[k]=x at hb8 htk hcell;have hcell:w8.cell? ((⟨b7,0,none⟩:Addr).add ((k:Int).toNat*1))=some (.string x):=(by rw[show ((k:Int).toNat*1)=k by simp,Q8];simpa using hcell);refine Hh ?_
   refine Xl Qb (ι:=Unit) (fun _ => [(3,.slice (some ⟨b7,0,none⟩) 8 8),(31,.slice (some ⟨b7,0,none⟩) 8 8),(32,Vj 8),(33,Vj k)])
    (fun _ w'=>Ext w w'/\At w' b7 9 (((Qar e).take (k+1)).map (fun s=>Value.string (Qc2 s))++((Qar e).drop (k+1)).map Value.string)) ?_ ?_
   . (conv=>whnf)
     refine⟨⟨b7,0,none⟩,Ix,Hh ?_⟩;refine⟨.string x,hcell,Hh ?_⟩;constructor
     . intro h;have h:x=⟨#[]⟩:=Su h;refine Hh ?_;refine⟨⟨b7,0,none⟩,Ix,Hh ?_⟩;have hadr:(⟨b7,0,none⟩:Addr).add ((k:Int).toNat*1)=⟨b7,k,none⟩:=by rw[Q8];simp
       rw[hadr];refine Qh2 Qb (e:=ty9) rfl hb8 rfl ?_ Oj fun w9 h9 ho9 => ?_
       . show k+1<=_
         simp;omega
       refine Hh ?_;refine⟨(),⟨ho9.ext hx8 hbb,?_⟩,Rr⟩;rw[htk]
       have hsp:spl (((Qar e).take k).map (fun s=>Value.string (Qc2 s))++Value.string x :: ((Qar e).drop (k+1)).map Value.string) k (Qg (.string ⟨#[46]⟩))=((Qar e).take k ++ [x]).map (fun s=>Value.string (Qc2 s))++((Qar e).drop (k+1)).map Value.string:=by
        have hl:(((Qar e).take k).map (fun s=>Value.string (Qc2 s))).length=k:=by simp;omega
        unfold spl Qg;rw[List.take_append_of_le_length Om,Zb Om,List.drop_append,hl];rw[Zb2 (by simp;omega)];simp only[Z8,Zam,Zbg,Zan];rw[show k+1-k=1 by omega,h];simp[Qc2]
       rw[<- hsp];exact h9
     . intro h;have h:¬ x=⟨#[]⟩:=Su h;refine Hh ?_;refine⟨(),⟨hx8,?_⟩,Rr⟩;rw[htk];simpa [Qmw h] using hb8
   rintro _ w9 ⟨hx9,hb9⟩;refine Hh ?_;refine⟨_,wrap_succ Om,Hh ?_⟩;exact⟨k+1,Om,⟨Om,hx9,hb9⟩,Rr⟩
 . intro hge;have hge:k=8:=by simp at hge;omega
   subst hge
   have hb9:At w8 b7 9 (((Qar e).map Qc2).map Value.string):=by
    have h1:(Qar e).take 8=Qar e:=rfl;have h2:(Qar e).drop 8 = []:=rfl;rw[h1,h2] at hb8;have h3:((Qar e).map Qc2).map Value.string=(Qar e).map (fun s=>Value.string (Qc2 s)):=by rw[Zy];rfl
    rw[h3];simpa using hb8
   refine Hh ?_;have hcells:∀ (j:Nat) x,((Qar e).map Qc2)[j]? = some x->w8.cell? ⟨b7,0+j,none⟩=some (.string x):=(by intro j x hj;rw[Zbg,hb9.cell j,Zaq,hj];rfl);have hsrc:e.src≠⟨#[]⟩:=fun h0=>(by have:=(Qel (Qb9.1 hm).src).1;rw[Qkn h0] at this;omega)
   have hjf:=Xcf hsrc hkk;refine(Qa9 Q8w (Tryz.strings_Join b7 0 8 ((Qar e).map Qc2) ⟨#[32]⟩ w8 hcells hb9.lt (by simp[Qar]) (by simp[Qar]) ?_) (R:=fun r w'=>r = .string (Qkh e)/\Ext w8 w') ?_).mono ?_
   . have h1:=Q7y hf;rw[<- hjf] at h1;have h2:∀ L:List UInt8,(⟨L.toArray⟩:Bj).size=L.length:=fun L=>by simp[ByteArray.size]
     rw[h2] at h1;show (Lib.join (((Qar e).map Qc2).map (·.data.toList)) [32]).length<=_
     omega
   . intro w' hw';exact⟨by rw[<- hjf],hw'⟩
   . rintro _ w10 ⟨rfl,hx10⟩;refine Hh ?_;exact⟨rfl,hx8.trans hx10⟩
theorem Qvx (c:UInt8):∀ l:List UInt8,((partsOf c l).map (fun p=>p.length+1)).sum=l.length+1
 | []=>by simp[partsOf]
 | x :: r=>by
   have ih:=Qvx c r;unfold partsOf
   by_cases hx:x=c
   . rw[if_pos hx];simp at ih ⊢;omega
   . rw[if_neg hx]
     cases hp:partsOf c r with
     | nil=>exact absurd hp (Xc1 c r)
     | cons q t=>rw[hp] at ih;simp at ih ⊢;omega
theorem Xeu {α:Type} (f:α->Nat) (n:Nat):∀ l:List α,(∀ x∈l,f x<=n)->(l.map f).sum<=l.length*n
 | [],_=>by simp
 | a :: l,h=>by
   have h1:=h a (by simp);have h2:=Xeu f n l fun x hx=>h x (by simp[hx])
   simp[Nat.add_mul];omega
theorem Qds {s:Bj} (h:Qr s=true):s.size<=24:=(Qel h).2
theorem Q48 {l:List Bj} (h:Qho l=true):∀ x∈l,Qr x=true:=by
 intro x hx;obtain⟨i,hi,rfl⟩:=Za2 hx;unfold Qho at h;rw[Zaf] at h;have h1:=h i (List.mem_range.2 hi);unfold Qws at h1;rw[getD_lt hi] at h1;simp at h1;exact h1.1
theorem Q3p {s:Bj} (h:Qc1 s=true):s.size<1000:=by
 unfold Qc1 at h;simp only[Zl,decide_eq_true_eq] at h;obtain⟨⟨h1,h2⟩,h3,h4⟩:=h;obtain⟨i,hi⟩:=Zca.1 h1;have hlt:=Qot hi;have hm:=Qds h2;unfold Qcm at hm;rw[hi] at hm;simp at hm
 by_cases hz:i+1=s.size
 . omega
 . rw[Qzs hi hz] at h3 h4;have hs:=Qvx 44 (s.extract (i+1) s.size).data.toList
   have hb:=Xeu (fun p:List UInt8=>p.length+1) 25 (partsOf 44 (s.extract (i+1) s.size).data.toList) fun p hp=>by
    have:=Qds (Q48 h3 (bytesOf p) (Zh.2 ⟨p,hp,rfl⟩));have e:(bytesOf p).size=p.length:=by simp[bytesOf,ByteArray.size]
    omega
   unfold Qbs at h4;rw[Zf] at h4;have he:(s.extract (i+1) s.size).data.toList.length=s.size-(i+1):=by simp
   rw[he] at hs;have:(partsOf 44 (s.extract (i+1) s.size).data.toList).length*25<=8*25:=Zb1 _ h4;omega
theorem Qdc {e:Ev} (h:X0 e=true):e.text.size<1000:=by
 have hk:=Qbj (Qb9.1 h).kind;have h0:(⟨#[]⟩:Bj).size=0:=rfl;rcases hk with⟨_,_,_,h,_⟩ | ⟨_,_,_,h,_⟩ | ⟨_,_,_,h,_⟩ | ⟨_,_,_,h,_⟩ | ⟨_,_,_,h,_⟩ | ⟨_,_,_,h,_⟩ | ⟨_,_,_,h,_⟩
 . rw[h,h0];omega
 . rw[h,h0];omega
 . have:=Qds h;omega
 . exact Q3p h
 . rw[h,h0];omega
 . rw[h,h0];omega
 . rw[h,h0];omega
theorem Qsl {e:Ev} (h:X0 e=true):0<=e.kind/\e.kind<=14:=by
 have hk:=Qbj (Qb9.1 h).kind;omega
theorem Qkg {e:Ev} (h:X0 e=true):0<=Qy e/\Qy e<=5:=by
 have hk:=Qbj (Qb9.1 h).kind;unfold Qy
 repeat' split
 all_goals omega
theorem Qeq {e:Ev} (h:X0 e=true) (hw:0<Qy e):Qr e.person=true/\Qr e.item=true:=by
 have hk:=Qbj (Qb9.1 h).kind
 have:e.kind=1\/e.kind=2\/e.kind=3\/e.kind=4:=by
  unfold Qy at hw
  by_cases h1:e.kind=1
  . omega
  by_cases h2:e.kind=2
  . omega
  by_cases h3:e.kind=3
  . omega
  by_cases h4:e.kind=4
  . omega
  rw[if_neg h1,if_neg h2,if_neg h3,if_neg h4] at hw;omega
 rcases hk with hk | hk | hk | hk | hk | hk | hk
 . exact⟨hk.2.1,hk.2.2.1⟩
 . exact⟨hk.2.1,hk.2.2.1⟩
 all_goals exfalso;omega
theorem Qj4 (s:Bj):(Qa7 s).size<=s.size:=by
 unfold Qa7;split
 . rw[ByteArray.size_extract];omega
 . exact Zu _
end Go.Proofs.YtpdonaienhociaaGreatDoor
namespace Go.Proofs.YtpdonaienhociaaGreatDoor
open Go.Se
def Xjh (l:List UInt8):Nat:=l.foldl (fun a c=>10*a+(c.toNat-48)) 0
theorem Qr2 (m:Nat):(UInt8.ofNat (48+m % 10)).toNat=48+m % 10:=by
 rw[UInt8.toNat_ofNat'];omega
theorem Quy {m:Nat} (h:¬ 9<m):Lib.decDigits m = [UInt8.ofNat (48+m % 10)]:=by
 rw[Lib.decDigits_one Om,Nat.mod_eq_of_lt Om]
theorem Q13 (m:Nat):Xjh (Lib.decDigits m)=m:=by
 induction m using Nat.strongRecOn with
 | ind m ih =>
   by_cases h:9<m
   . rw[Q0o h];have:=ih (m/10) Om;unfold Xjh at this ⊢;rw[Zt,this];simp only[Zap,List.foldl_nil,Qr2];omega
   . rw[Quy h];unfold Xjh;simp only[Zap,List.foldl_nil,Qr2];omega
theorem Xfl {a b:Nat} (h:Lib.decDigits a=Lib.decDigits b):a=b:=by rw[<- Q13 a,<- Q13 b,h]
theorem Qux (m:Nat):∀ c∈Lib.decDigits m,48<=c.toNat/\c.toNat<=57:=by
 induction m using Nat.strongRecOn with
 | ind m ih =>
   intro c hc
   by_cases h:9<m
   . rw[Q0o h,Zj] at hc;rcases hc with hc | hc
     . exact ih (m/10) Om c hc
     . simp only[Zk] at hc;rw[hc,Qr2];omega
   . rw[Quy h] at hc;simp only[Zk] at hc;rw[hc,Qr2];omega
theorem Qj7:∀ {a b r s:List UInt8},(∀ x∈a,x≠32)->(∀ x∈b,x≠32)->a++32 :: r=b++32 :: s->a=b/\r=s
 | [],[],r,s,_,_,h=>⟨rfl,Su h⟩
 | [],y :: b,r,s,_,hb,h=>by
   simp only[Zan,Zay,Zcx] at h;exact absurd h.1.symm (hb y (by simp))
 | x :: a,[],r,s,ha,_,h=>by
   simp only[Zan,Zay,Zcx] at h;exact absurd h.1 (ha x (by simp))
 | x :: a,y :: b,r,s,ha,hb,h=>by
   simp only[Zay,Zcx] at h;obtain⟨h1,h2⟩:=Qj7 (fun z hz=>ha z (by simp[hz])) (fun z hz=>hb z (by simp[hz])) h.2;exact⟨by rw[h.1,h1],h2⟩
theorem Xf2 {s:Bj} (h:Qr s=true):∀ x∈s.data.toList,x≠32:=by
 unfold Qr at h;simp only[Zl] at h;intro x hx e;have:=Zaf.1 h.2 x hx;rw[e] at this;exact absurd this (by decide)
def Xfo:Bj:=⟨#[46]⟩
theorem Q09 {s:Bj} (h:Qr s=true):s≠Xfo:=by
 rintro rfl;exact absurd h (by decide)
theorem Q72 {s:Bj} (h:Qc1 s=true):s≠Xfo:=by
 rintro rfl;unfold Qc1 at h;simp only[Zl] at h;exact absurd h.1.1 (by decide)
theorem Qfs:(⟨#[]⟩:Bj)≠Xfo:=by
 intro h;have:=congrArg ByteArray.size h;exact absurd this (by decide)
theorem Qtf {s t:Bj} (hs:s≠Xfo) (ht:t≠Xfo) (h:Qc2 s=Qc2 t):s=t:=by
 unfold Qc2 at h
 by_cases h1:s=⟨#[]⟩ <;> by_cases h2:t=⟨#[]⟩ <;> simp only[h1,h2,decide_true,decide_false,cond_true,cond_false] at h
 . rw[h1,h2]
 . exact absurd h.symm ht
 . exact absurd h hs
 . exact h
theorem Qtg {s:Bj} (h:s=⟨#[]⟩\/Qr s=true):∀ x∈(Qc2 s).data.toList,x≠32:=by
 rcases h with rfl | h
 . decide
 . unfold Qc2
   by_cases h1:s=⟨#[]⟩
   . rw[h1] at h;exact absurd h (by decide)
   . simp only[h1,decide_false,cond_false];exact Xf2 h
theorem Xhy:∀ k,k<15->∀ x∈(kindNames.getD k .empty).data.toList,x≠32:=by decide +kernel
theorem Xhw:∀ k,k<15->∀ j,j<15->(kindNames.getD k .empty).data.toList=(kindNames.getD j .empty).data.toList->k=j:=by decide +kernel
theorem Qvo {e:Ev} (h:X0 e=true):(e.person=⟨#[]⟩\/Qr e.person=true)/\(e.item=⟨#[]⟩\/Qr e.item=true)/\e.text≠Xfo/\0<=e.val/\0<=e.kind/\e.kind<15:=by
 rcases Qbj (Qb9.1 h).kind with⟨hk,h1,h2,h3,h4⟩ | ⟨hk,h1,h2,h3,h4⟩ | ⟨hk,h1,h2,h3,h4⟩ | ⟨hk,h1,h2,h3,h4⟩ | ⟨hk,h1,h2,h3,h4⟩ | ⟨hk,h1,h2,h3,h4⟩ | ⟨hk,h1,h2,h3,h4⟩
 . exact⟨.inr h1,.inr h2,h3 ▸ Qfs,Om,Om,Om⟩
 . exact⟨.inr h1,.inr h2,h3 ▸ Qfs,Om,Om,Om⟩
 . exact⟨.inr h1,.inl h2,Q09 h3,Om,Om,Om⟩
 . exact⟨.inl h1,.inr h2,Q72 h3,Om,Om,Om⟩
 . exact⟨.inl h1,.inr h2,h3 ▸ Qfs,Om,Om,Om⟩
 . exact⟨.inl h1,.inr h2,h3 ▸ Qfs,Om,Om,Om⟩
 . exact⟨.inr h1,.inl h2,h3 ▸ Qfs,Om,Om,Om⟩
theorem Qd0 {s:Bj} (h:s=⟨#[]⟩\/Qr s=true):s≠Xfo:=by
 rcases h with rfl | h
 . exact Qfs
 . exact Q09 h
theorem Xcd (e:Ev):(Qkh e).data.toList=(e.src.data.toList++32 :: (Lib.decDigits e.num.toNat++32 :: (Lib.decDigits e.at_.toNat ++ [32]))) ++
 ((knB e).data.toList++32 :: ((Qc2 e.person).data.toList++32 :: ((Qc2 e.item).data.toList++32 :: (Lib.decDigits e.val.toNat++32 :: (Qc2 e.text).data.toList)))):=by
 unfold Qkh Qr1 bytesOf spB;simp
theorem Qr0 {a b:Bj} (h:a.data.toList=b.data.toList):a=b:=ByteArray.ext (Zco h)
theorem Xft {a b:Ev} (ha:X0 a=true) (hb:X0 b=true) (h1:a.src=b.src) (h2:a.num=b.num) (h3:a.at_=b.at_) (h:Qkh a=Qkh b):a=b:=by
 have h':=congrArg (fun x:Bj=>x.data.toList) h;simp only[Xcd] at h';rw[h1,h2,h3] at h';have h':=List.append_cancel_left h';obtain⟨p1,p2,p3,p4,p5,p6⟩:=Qvo ha;obtain⟨q1,q2,q3,q4,q5,q6⟩:=Qvo hb;obtain⟨e1,h'⟩:=Qj7 (Xhy _ Om) (Xhy _ Om) h';obtain⟨e2,h'⟩:=Qj7 (Qtg p1) (Qtg q1) h';obtain⟨e3,h'⟩:=Qj7 (Qtg p2) (Qtg q2) h';obtain⟨e4,h'⟩:=Qj7 (fun x hx e=>by have:=Qux _ x hx;rw[e] at this;exact absurd this (by decide)) (fun x hx e=>by have:=Qux _ x hx;rw[e] at this;exact absurd this (by decide)) h';have k1:=Xhw _ Om _ Om e1;have k2:=Qtf (Qd0 p1) (Qd0 q1) (Qr0 e2);have k3:=Qtf (Qd0 p2) (Qd0 q2) (Qr0 e3);have k4:=Xfl e4;have k5:=Qtf p3 q3 (Qr0 h');apply Ev.ext <;> first | assumption | omega
theorem Qkl (a b:Ev):Qbf a b=true↔Q5 a b=true\/(Q5 b a=false/\bLt (Qkh a) (Qkh b)=true):=by
 unfold Qbf;cases h1:Q5 a b <;> cases h2:Q5 b a <;> simp
theorem Qi9 (a:Ev):Qbf a a=false:=by
 rw[<- Zad,Qkl];rintro (h | ⟨_,h⟩)
 . rw[Qbh.irrefl] at h;cases h
 . rw[Xr] at h;cases h
theorem Qsh {a b c:Ev} (h1:Q5 a b=false) (h2:Q5 b c=false):Q5 a c=false:=Qbh.trans c b a h2 h1
theorem Qia {a b c:Ev} (h1:Q5 a b=true) (h2:Q5 c b=false):Q5 a c=true:=by
 cases h:Q5 a c
 . have:=Qsh h h2;rw[h1] at this;cases this
 . rfl
theorem Qsi {a b c:Ev} (h1:Q5 b a=false) (h2:Q5 b c=true):Q5 a c=true:=by
 cases h:Q5 a c
 . have:=Qsh h1 h;rw[h2] at this;cases this
 . rfl
theorem Quf {a b c:Ev} (h1:Qbf a b=true) (h2:Qbf b c=true):Qbf a c=true:=by
 rw[Qkl] at h1 h2 ⊢;rcases h1 with h1 | ⟨h1,f1⟩ <;> rcases h2 with h2 | ⟨h2,f2⟩
 . exact .inl (Qia h1 (Qbh.asymm _ _ h2))
 . exact .inl (Qia h1 h2)
 . exact .inl (Qsi h1 h2)
 . exact .inr ⟨Qsh h2 h1,Qbv f1 f2⟩
theorem Que {a b:Ev} (ha:X0 a=true) (hb:X0 b=true) (h1:Qbf a b=false) (h2:Qbf b a=false):a=b:=by
 rw[<- Zad,Qkl,not_or] at h1 h2;have l1:Q5 a b=false:=Su h1.1;have l2:Q5 b a=false:=Su h2.1;obtain⟨e1,e2,e3⟩:=Qhy l1 l2;refine Xft ha hb e2 e3 e1 (Qbw ?_ ?_)
 . cases h:bLt (Qkh a) (Qkh b)
   . rfl
   . exact absurd ⟨l2,h⟩ h1.2
 . cases h:bLt (Qkh b) (Qkh a)
   . rfl
   . exact absurd ⟨l1,h⟩ h2.2
def idE (e:Ev):Bj×Int:=(e.src,e.num)
theorem Qd8 {e x:Ev}:Qcr e x=true↔idE x=idE e:=by simp[Qcr,idE]
structure Qp2 (l z:List Ev):Prop where
 ids:z.Pairwise (fun a b=>idE a≠idE b)
 all:∀ y∈l,∃ x∈z,idE x=idE y
 mem:∀ x,x∈z↔x∈l/\∀ y∈l,idE y=idE x->Qbf y x=false
theorem Q0v {z:List Ev} (h:z.Pairwise (fun a b=>idE a≠idE b)) {x y:Ev} (hx:x∈z) (hy:y∈z) (he:idE x=idE y):x=y:=by
 induction z with
 | nil=>cases hx
 | cons u z ih =>
   rw[Z9] at h;rcases Zr.1 hx with h1 | h1 <;> rcases Zr.1 hy with h2 | h2
   . rw[h1,h2]
   . rw[h1] at he;exact absurd he (h.1 y h2)
   . rw[h2] at he;exact absurd he.symm (h.1 x h1)
   . exact ih h.2 h1 h2
theorem Q7q {z:List Ev} {k:Nat} {e:Ev} (hk:k<z.length) (he:idE z[k]=idE e) (h:z.Pairwise (fun a b=>idE a≠idE b)):(z.set k e).Pairwise (fun a b=>idE a≠idE b):=by
 have h1:(z.set k e).map idE=z.map idE:=by
  rw[List.map_set,<- he];apply Zb3;intro i;rw[List.getElem?_set]
  by_cases hi:k=i
  . subst hi;simp[hk]
  . simp[hi]
 have h2:(z.map idE).Pairwise (· ≠ ·):=by rw[Z7];exact h
 rw[<- h1,Z7] at h2;exact h2
theorem Qoh {z:List Ev} {k:Nat} {e:Ev} (hk:k<z.length) (he:idE z[k]=idE e) (h:z.Pairwise (fun a b=>idE a≠idE b)) (x:Ev):x∈z.set k e↔x=e\/(x∈z/\idE x≠idE e):=by
 constructor
 . intro hx;rcases List.mem_or_eq_of_mem_set hx with h1 | h1
   . by_cases hid:idE x=idE e
     . refine .inl (Q0v (Q7q hk he h) hx (List.mem_set hk e) hid)
     . exact .inr ⟨h1,hid⟩
   . exact .inl h1
 . rintro (rfl | ⟨hx,hid⟩)
   . exact List.mem_set hk x
   . obtain⟨i,hi,rfl⟩:=Za2 hx;have hne:k≠i:=by rintro rfl;exact hid he
     rw[List.mem_iff_getElem?];exact⟨i,by rw[List.getElem?_set_ne hne];exact Zd hi⟩
theorem Qp2.step {l z:List Ev} (h:Qp2 l z) {e:Ev} (hl:∀ x∈l,X0 x=true) (hm:X0 e=true):Qp2 (l ++ [e]) (Qa3 z e):=by
 have inl:∀ {x},x∈z->x∈l:=fun hx=>((h.mem _).1 hx).1
 unfold Qa3
 cases hf:z.findIdx? (Qcr e) with
 | none =>
   have hn:∀ x∈z,idE x≠idE e:=fun x hx=>(by have:=Zav.1 hf x hx;intro e';rw[Qd8.2 e'] at this;cases this)
   have hn':∀ y∈l,idE y≠idE e:=fun y hy e'=>(by obtain⟨x,hx,hid⟩:=h.all y hy;exact hn x hx (hid.trans e'))
   simp only;refine⟨?_,?_,fun x => ?_⟩
   . rw[Z4];refine⟨h.ids,by simp,fun a ha b hb => ?_⟩;rw[Zk.1 hb];exact hn a ha
   . intro y hy;rcases Zj.1 hy with hy | hy
     . obtain⟨x,hx,hid⟩:=h.all y hy;exact⟨x,by simp[hx],hid⟩
     . exact⟨e,by simp,by rw[Zk.1 hy]⟩
   . simp only[Zj,Zk];constructor
     . rintro (hx | rfl)
       . refine⟨.inl (inl hx),fun y hy hid => ?_⟩;rcases hy with hy | rfl
         . exact((h.mem x).1 hx).2 y hy hid
         . exact absurd hid.symm (hn x hx)
       . refine⟨.inr rfl,fun y hy hid => ?_⟩;rcases hy with hy | rfl
         . exact absurd hid (hn' y hy)
         . exact Qi9 _
     . rintro ⟨hx | rfl,hy⟩
       . exact .inl ((h.mem x).2 ⟨hx,fun y hyl=>hy y (.inl hyl)⟩)
       . exact .inr rfl
 | some k =>
   obtain⟨hk,hs,_⟩:=Zab.1 hf;have hid:=Qd8.1 hs;have hold:z[k]∈z:=Zx hk;have hmo:X0 z[k]=true:=hl _ (inl hold);simp only;rw[getD_lt hk]
   cases hb:Qbf e z[k] with
   | false =>
     simp only[cond_false];refine⟨h.ids,?_,fun x => ?_⟩
     . intro y hy;rcases Zj.1 hy with hy | hy
       . exact h.all y hy
       . rw[Zk.1 hy];exact⟨_,hold,hid⟩
     . simp only[Zj,Zk];constructor
       . intro hx;refine⟨.inl (inl hx),fun y hy he => ?_⟩;rcases hy with hy | rfl
         . exact((h.mem x).1 hx).2 y hy he
         . rw[Q0v h.ids hx hold (he.symm.trans hid.symm)];exact hb
       . rintro ⟨hx | rfl,hy⟩
         . exact(h.mem x).2 ⟨hx,fun y hyl=>hy y (.inl hyl)⟩
         . rw[Que hm hmo hb (hy _ (.inl (inl hold)) hid)];exact hold
   | true =>
     simp only[cond_true];refine⟨Q7q hk hid h.ids,?_,fun x => ?_⟩
     . intro y hy
       by_cases he:idE y=idE e
       . exact⟨e,List.mem_set hk e,he.symm⟩
       . rcases Zj.1 hy with hy | hy
         . obtain⟨x,hx,hxy⟩:=h.all y hy;exact⟨x,(Qoh hk hid h.ids x).2 (.inr ⟨hx,fun e'=>he (hxy.symm.trans e')⟩),hxy⟩
         . exact absurd (by rw[Zk.1 hy]) he
     . rw[Qoh hk hid h.ids x];simp only[Zj,Zk];constructor
       . rintro (rfl | ⟨hx,hne⟩)
         . refine⟨.inr rfl,fun y hy he => ?_⟩;rcases hy with hy | rfl
           . cases hc:Qbf y x
             . rfl
             . have h1:=Quf hc hb;rw[((h.mem _).1 hold).2 y hy (he.trans hid.symm)] at h1;cases h1
           . exact Qi9 _
         . refine⟨.inl (inl hx),fun y hy he => ?_⟩;rcases hy with hy | rfl
           . exact((h.mem x).1 hx).2 y hy he
           . exact absurd he.symm hne
       . rintro ⟨hx | rfl,hy⟩
         . have hz:=(h.mem x).2 ⟨hx,fun y hyl=>hy y (.inl hyl)⟩;refine .inr ⟨hz,fun he => ?_⟩;have h1:=hy e (.inr rfl) he.symm;rw[Q0v h.ids hz hold (he.trans hid.symm),hb] at h1;cases h1
         . exact .inl rfl
theorem Q8x {l2:List Ev}:∀ {l z:List Ev},Qp2 l z->(∀ x∈l,X0 x=true)->(∀ x∈l2,X0 x=true)->Qp2 (l++l2) (l2.foldl Qa3 z):=by
 induction l2 with
 | nil=>intro l z h _ _;simpa using h
 | cons e l2 ih =>
   intro l z h hl hl2
   have:=ih (h.step hl (hl2 e (by simp))) (fun x hx=>by
    rcases Zj.1 hx with hx | hx
    . exact hl x hx
    . rw[Zk.1 hx];exact hl2 e (by simp)) (fun x hx=>hl2 x (by simp[hx]))
   simpa using this
theorem Xf4 {l:List Ev} (h:∀ x∈l,X0 x=true):Qp2 l (Qet l):=by
 have:=Q8x (l2:=l) (l := []) (z := []) ⟨by simp,by simp,by simp⟩ (by simp) h;simpa [Qet] using this
theorem Q41 {z z':List Ev} (hp:z.Perm z') (hi:z.Pairwise (fun a b=>idE a≠idE b)) (hs:Srt Q5 z) (hs':Srt Q5 z'):z=z' :=
 Qk8 hp hs hs' fun x hx y hy h1 h2=>by
  obtain⟨_,e2,e3⟩:=Qhy h1 h2;exact Q0v hi hx hy (by unfold idE;rw[e2,e3])
theorem Q0w {z z':List Ev} (hp:z.Perm z') (hi:z'.Pairwise (fun a b=>idE a≠idE b)):z.Pairwise (fun a b=>idE a≠idE b) :=
 (hp.pairwise_iff (fun h e=>h e.symm)).2 hi
end Go.Proofs.YtpdonaienhociaaGreatDoor
namespace Go.Proofs.YtpdonaienhociaaGreatDoor
open Go.Se Go.RowKit
abbrev IdS:=Bj×Int
theorem Q2i (a b:Ev):Qbf a b=bif decide (Qjc a b=0) then bLt (Qkh a) (Qkh b) else decide (Qjc a b<0):=by
 rw[Qcg];unfold Qbf
 by_cases h0:Qjc a b=0
 . have hz:=(Qnl a b).1 h0;have h1:Q5 a b=false:=by rw[<- Qcg,h0];rfl
   have h2:Q5 b a=false:=by rw[<- Qcg,(Qnl b a).2 ⟨hz.1.symm,hz.2.1.symm,hz.2.2.symm⟩];rfl
   simp[h0,h1,h2]
 . simp only[h0,decide_false,cond_false];cases h1:Q5 a b
   . cases h2:Q5 b a
     . obtain hz:=Qhy h1 h2;exact absurd ((Qnl a b).2 hz) h0
     . rfl
   . rfl
def Qad (out:List Ev):List (IdS×Value):=out.map fun e=>(idE e,evV e)
theorem Q3r (out:List Ev) (e:Ev):Qe (Qad out) (idE e)=(out.find? (Qcr e)).map evV:=by
 induction out with
 | nil=>rfl
 | cons x out ih =>
   simp only[Qad,Zm,Qe,List.find?_cons]
   by_cases h:idE e=idE x
   . rw[if_pos h,Qd8.2 h.symm];rfl
   . rw[if_neg h];have:Qcr e x=false:=by rw[<- Zad,Qd8];exact fun h'=>h h'.symm
     rw[this];exact ih
theorem Qvg (e:Ev):∀ out:List Ev,Xc (Qad out) (idE e) (evV e)=Qad (match out.findIdx? (Qcr e) with | none=>out ++ [e] | some k=>out.set k e)
 | []=>rfl
 | x :: out=>by
   have ih:=Qvg e out;simp only[Qad,Zm,Xc,List.findIdx?_cons] at ih ⊢
   by_cases h:idE e=idE x
   . rw[if_pos h,Qd8.2 h.symm];simp[h]
   . rw[if_neg h];have:Qcr e x=false:=by rw[<- Zad,Qd8];exact fun h'=>h h'.symm
     rw[this,ih];cases out.findIdx? (Qcr e) <;> simp
theorem Q3s {out:List Ev} {e:Ev} :
 (out.find? (Qcr e)=none->Xc (Qad out) (idE e) (evV e)=Qad (Qa3 out e)) /\
 (∀ old,out.find? (Qcr e)=some old->Qbf e old=true->Xc (Qad out) (idE e) (evV e)=Qad (Qa3 out e)) /\
 (∀ old,out.find? (Qcr e)=some old->Qbf e old=false->Qad out=Qad (Qa3 out e)):=by
 have hf:∀ (l:List Ev),l.find? (Qcr e)=(l.findIdx? (Qcr e)).map fun k=>l.getD k e:=by
  intro l
  induction l with
  | nil=>rfl
  | cons x l ih =>
    rw[List.find?_cons,List.findIdx?_cons];cases h:Qcr e x
    . simp only[cond_false,ih];cases l.findIdx? (Qcr e) <;> simp
    . simp
 rw[Qvg,hf out];unfold Qa3
 cases hk:out.findIdx? (Qcr e) with
 | none=>simp
 | some k =>
   refine⟨by simp,fun old h1 h2 => ?_,fun old h1 h2 => ?_⟩
   . have h1:out.getD k e=old:=Su h1;simp only[h1,h2,cond_true]
   . have h1:out.getD k e=old:=Su h1;simp only[h1,h2,cond_false]
theorem Xcv (l:List Ev) (e:Ev):Qet (l ++ [e])=Qa3 (Qet l) e:=by simp[Qet]
def evZ:Ev:=⟨⟨#[]⟩,0,0,0,⟨#[]⟩,⟨#[]⟩,0,⟨#[]⟩⟩
def Xjm:Value->Ev
 | .agg cs=>match cs.toList with
   | [.string a,.int _ b,.int _ c,.int _ d,.string e,.string f,.int _ g,.string h]=>⟨a,b,c,d,e,f,g,h⟩
   | _=>evZ
 | _=>evZ
theorem Xb4 (e:Ev):Xjm (evV e)=e:=rfl
theorem Qqz {z out:List Ev} (h:(Qad z).Perm (Qad out)):z.Perm out:=by
 have:=h.map fun x=>Xjm x.2
 simpa [Qad,Xb4,Function.comp_def] using this
def Grow (S:Nat->Prop) (w:World) (k:Nat):Prop:=S k\/w.heap.size<=k
theorem Xx {S:Nat->Prop} {w w':World} {row:Option Nat} (hg:w.grownBy w' row) (hr:∀ k,row=some k->S k):Mod S w w' :=
 ⟨hg.os,hg.tape,hg.output,hg.size,fun k hk hs=>hg.block k hk (fun e=>hs (hr k e.symm))⟩
theorem Qj {S:Nat->Prop} {w w':World} {b:Nat} (ho:Only w w' b) (hb:S b):Mod S w w':=ho.mod.mono fun k _ e=>by rw[e];exact hb
theorem Qn {S:Nat->Prop} {w w1 w2:World} (h:Mod S w w1) (k:Mod (Grow S w) w1 w2):Mod S w w2 :=
 ⟨k.os.trans h.os,k.tape.trans h.tape,k.output.trans h.output,Zv h.size k.size,fun i hi hs =>
  (k.block i (Zal hi h.size) (fun hg=>hg.elim hs (fun hh=>Om))).trans (h.block i hi hs)⟩
theorem Qc {P:Program} {T:Tab} (hT:Qbe P T) {t:TypeId} {e:TyE} (ht:Qif T t=some e) {w:World} {R:Value->World->Prop} {b tb off:Nat} {l:List Value} {v:Value} {p:Addr} (h:At w b tb l) (hp:p=⟨b,off,none⟩) (hn:(Qg v).length=e.size) (hle:Nat.ble (off+e.size) l.length=true) (hone:∀ u∈Qg v,u.oneCell'=true)
 (hk:∀ w',At w' b tb (spl l off (Qg v))->Only w w' b->R undef w'):Qxc P (Instr.storeAt t (.pointer (some p)) v) w R:=by
 subst hp;exact Qh2 hT ht h hn (Zbt hle) hone hk
section
variable {α:Type} {enc:α->List Value} {sz:Nat} {te:TypeId} {w w1 w2 w3:World} {S S':Nat->Prop} {bm:Nat} {rows:Bj->List α} {L:List (Bj×(Option Addr×Nat))} {P:Program} {mt kt et:TypeId}
def toV (rows:Bj->List α) (L:List (Bj×(Option Addr×Nat))):List (Bj×Value):=L.map fun x=>(x.1,Value.slice x.2.1 (rows x.1).length x.2.2)
structure Qbm (enc:α->List Value) (sz:Nat) (te:TypeId) (w:World) (S:Nat->Prop) (bm:Nat) (rows:Bj->List α) (L:List (Bj×(Option Addr×Nat))):Prop where
 mine:S bm
 map:MapAt w bm Value.string (toV rows L)
 row:∀ x∈L,Own enc sz te 0 w x.2.1 x.2.2 (rows x.1)/\∀ a,x.2.1=some a->S a.block/\a.block≠bm
 ne:∀ x∈L,rows x.1 ≠ []
 apart:L.Pairwise (fun x y=>∀ a a',x.2.1=some a->y.2.1=some a'->a.block≠a'.block)
 all:∀ k,Qe L k=none->rows k = []
theorem Qbm.keys (h:Qbm enc sz te w S bm rows L):L.Pairwise (fun x y=>x.1≠y.1):=by
 have:=h.map.keys;unfold toV at this;rw[Z7] at this;exact this
theorem Q03 (k:Bj):∀ L:List (Bj×(Option Addr×Nat)),Qe (toV rows L) k=(Qe L k).map fun p=>Value.slice p.1 (rows k).length p.2
 | []=>rfl
 | x :: L=>by
   simp only[toV,Zm,Qe]
   by_cases e:k=x.1
   . subst e;simp
   . rw[if_neg e,if_neg e];exact Q03 k L
theorem Qbm.keep (h:Qbm enc sz te w S bm rows L) (hk:∀ k,k<w.heap.size->S k->w1.heap[k]? = w.heap[k]? /\ S' k):Qbm enc sz te w1 S' bm rows L where
 mine:=(hk bm h.map.lt h.mine).2
 map:=h.map.keep (hk bm h.map.lt h.mine).1
 row x hx:=by
  obtain⟨h1,h2⟩:=h.row x hx;exact⟨h1.keep fun a ha=>(hk a.block (h1.block ha).2 (h2 a ha).1).1,fun a ha=>⟨(hk a.block (h1.block ha).2 (h2 a ha).1).2,(h2 a ha).2⟩⟩
 ne:=h.ne
 apart:=h.apart
 all:=h.all
def rowAt (L:List (Bj×(Option Addr×Nat))) (k:Bj):Option Addr×Nat:=(Qe L k).getD (none,0)
theorem Qbm.own (h:Qbm enc sz te w S bm rows L) (k:Bj):Own enc sz te 0 w (rowAt L k).1 (rowAt L k).2 (rows k)/\∀ a,(rowAt L k).1=some a->S a.block/\a.block≠bm:=by
 unfold rowAt
 cases hk:Qe L k with
 | none=>rw[h.all k hk];exact⟨Own.nil,fun a ha=>by simp at ha⟩
 | some p =>
   have:=h.row _ (Qbi hk);exact this
theorem Qbm.look (h:Qbm enc sz te w S bm rows L) (ht:P.underlying mt=some (.map kt et)) (hkt:P.underlying kt=some .string) {e:TyE} (he:Xe P et=some e) (hz:e.zero = .slice none 0 0) (k:Bj) {cl:Cl} (hc:Kept cl w bm) :
 RdS P cl w (Instr.lookup mt (.map (some bm)) (.string k) false) (.slice (rowAt L k).1 (rows k).length (rowAt L k).2):=by
 have:=Xz ht (Qo hkt) he hc h.map k;rw[Q03,hz] at this;unfold rowAt
 cases hk:Qe L k with
 | none=>rw[hk] at this;rw[h.all k hk];exact this
 | some p=>rw[hk] at this;exact this
def Ql4 (rows:Bj->List α) (k:Bj) (r:List α) (x:Bj):List α:=if x=k then r else rows x
theorem Q1z {k:Bj} {p:Option Addr×Nat} {r:List α}:∀ {L:List (Bj×(Option Addr×Nat))},L.Pairwise (fun x y=>x.1≠y.1)->toV (Ql4 rows k r) (Xc L k p)=Xc (toV rows L) k (.slice p.1 r.length p.2)
 | [],_=>by simp[toV,Xc,Ql4]
 | x :: L,hp=>by
   rw[Z9] at hp;simp only[toV,Zm,Xc]
   by_cases e:k=x.1
   . subst e;simp only[if_true,Zm,Ql4];congr 1;apply Za7;intro y hy;simp only[if_neg (fun e:y.1=x.1=>hp.1 y hy e.symm)]
   . simp only[if_neg e,Zm,Ql4,if_neg (fun q:x.1=k=>e q.symm)];congr 1;exact Q1z hp.2
theorem Qz9 {β:Type} {R:Bj×β->Bj×β->Prop} {k:Bj} {p:β}:∀ {L:List (Bj×β)},L.Pairwise R->(∀ y∈L,y.1≠k->R (k,p) y)->(∀ y∈L,y.1≠k->R y (k,p))->L.Pairwise (fun x y=>x.1≠y.1)->(Xc L k p).Pairwise R
 | [],_,_,_,_=>by simp[Xc]
 | x :: L,hp,h1,h2,hk=>by
   rw[Z9] at hp hk;simp only[Xc]
   by_cases e:k=x.1
   . subst e;rw[if_pos rfl,Z9];exact⟨fun y hy=>h1 y (by simp[hy]) (fun q=>hk.1 y hy q.symm),hp.2⟩
   . rw[if_neg e,Z9];refine⟨fun y hy => ?_,Qz9 hp.2 (fun y hy=>h1 y (by simp[hy])) (fun y hy=>h2 y (by simp[hy])) hk.2⟩;rcases Qbp hy with rfl | hy
     . exact h2 x (by simp) (fun q=>e q.symm)
     . exact hp.1 y hy
theorem Qbm.push (h:Qbm enc sz te w S bm rows L) {k:Bj} {r:List α} (hr:r ≠ []) {A':Option Addr} {c':Nat} (hx:Ext w w1) (hg:w1.grownBy w2 ((rowAt L k).1.map (·.block))) (hA:A'=(rowAt L k).1\/A'.map (·.block)=(rowAt L k).1.map (·.block)\/A'.map (·.block)=some w1.heap.size)
 (hown:Own enc sz te 0 w2 A' c' r) (hm:MapAt w3 bm Value.string (Xc (toV rows L) k (.slice A' r.length c'))) (ho:Only w2 w3 bm):Qbm enc sz te w3 (Grow S w) bm (Ql4 rows k r) (Xc L k (A',c')):=by
 have hbm:=h.map.lt
 have hblk:∀ a,A'=some a->a.block≠bm/\Grow S w a.block/\((∃ a0,(rowAt L k).1=some a0/\a0.block=a.block)\/a.block=w1.heap.size):=by
  intro a ha;subst ha;have h2:=(h.own k).2;have hs:=hx.size;rcases hA with hA | hA | hA
  . obtain⟨q1,q2⟩:=h2 a hA.symm;exact⟨q2,.inl q1,.inl ⟨a,hA.symm,rfl⟩⟩
  . cases hr0:(rowAt L k).1 with
    | none=>rw[hr0] at hA;simp at hA
    | some a0 =>
      rw[hr0] at hA;obtain⟨q1,q2⟩:=h2 a0 hr0;have e:a.block=a0.block:=Su hA;rw[e];exact⟨q2,.inl q1,.inl ⟨a0,rfl,rfl⟩⟩
  . have e:a.block=w1.heap.size:=Su hA;rw[e];exact⟨Om,.inr hs,.inr rfl⟩
 have hoth:∀ x∈L,x.1≠k->Own enc sz te 0 w3 x.2.1 x.2.2 (rows x.1)/\(∀ a,x.2.1=some a->S a.block/\a.block≠bm)/\∀ a a',x.2.1=some a->A'=some a'->a.block≠a'.block:=by
  intro x hxL hne;obtain⟨h1,h2⟩:=h.row x hxL
  have hap:∀ a a0,x.2.1=some a->(rowAt L k).1=some a0->a.block≠a0.block:=by
   intro a a0 ha ha0;unfold rowAt at ha0
   cases hk:Qe L k with
   | none=>rw[hk] at ha0;simp at ha0
   | some p =>
     rw[hk] at ha0;have hin:=Qbi hk;have hpw:=h.apart
     have:∀ {L:List (Bj×(Option Addr×Nat))},L.Pairwise (fun x y=>∀ a a',x.2.1=some a->y.2.1=some a'->a.block≠a'.block)->x∈L->(k,p)∈L->a.block≠a0.block:=by
      intro L
      induction L with
      | nil=>intro _ h;simp at h
      | cons y L ih =>
        intro hp m1 m2;rw[Z9] at hp;rcases Zr.1 m1 with e1 | n1 <;> rcases Zr.1 m2 with e2 | n2
        . exact absurd (by rw[e1,<- e2]) hne
        . subst e1;exact hp.1 _ n2 a a0 ha (Su ha0)
        . subst e2;exact fun q=>hp.1 _ n1 a0 a (Su ha0) ha q.symm
        . exact ih hp.2 n1 n2
     exact this hpw hxL hin
  refine⟨h1.keep fun a ha => ?_,h2,fun a a' ha ha' => ?_⟩
  . have hlt:=(h1.block ha).2;have hs:=hx.size;rw[ho.block _ (h2 a ha).2,hg.block _ Om ?_,hx.block _ hlt];intro e
    cases hr0:(rowAt L k).1 with
    | none=>rw[hr0] at e;simp at e
    | some a0=>rw[hr0] at e;exact hap a a0 ha hr0 (Su e)
  . have hlt:=(h1.block ha).2;have hs:=hx.size;rcases (hblk a' ha').2.2 with⟨a0,q1,q2⟩ | q
    . rw[<- q2];exact hap a a0 ha q1
    . rw[q];omega
 refine⟨.inl h.mine,?_,?_,?_,?_,?_⟩
 . rw[Q1z h.keys];exact hm
 . intro x hx';rcases Qbp hx' with rfl | hxL
   . refine⟨?_,fun a ha=>⟨(hblk a ha).2.1,(hblk a ha).1⟩⟩;simp only[Ql4,if_true];exact hown.keep fun a ha=>ho.block _ (hblk a ha).1
   . by_cases e:x.1=k
     . have hin:∀ {L:List (Bj×(Option Addr×Nat))},L.Pairwise (fun x y=>x.1≠y.1)->x∈Xc L k (A',c')->x.1=k->x=(k,(A',c')):=(by intro L hp hm' he;have h1:=Qdk (Qaf hp) (k:=x.1) (v:=x.2) (Su hm');rw[he,Q9] at h1;have:(A',c')=x.2:=Su h1;rw[this,<- he]);have:=hin h.keys hx' e;subst this;refine⟨?_,fun a ha=>⟨(hblk a ha).2.1,(hblk a ha).1⟩⟩;simp only[Ql4,if_true];exact hown.keep fun a ha=>ho.block _ (hblk a ha).1
     . obtain⟨q1,q2,_⟩:=hoth x hxL e;simp only[Ql4,if_neg e];exact⟨q1,fun a ha=>⟨.inl (q2 a ha).1,(q2 a ha).2⟩⟩
 . intro x hx'
   by_cases e:x.1=k
   . simp only[Ql4,if_pos e];exact hr
   . rcases Qbp hx' with rfl | hxL
     . exact absurd rfl e
     . simp only[Ql4,if_neg e];exact h.ne x hxL
 . refine Qz9 h.apart (fun y hy hne a a' ha ha' => ?_) (fun y hy hne a a' ha ha' => ?_) h.keys
   . exact fun q=>(hoth y hy hne).2.2 a' a ha' ha q.symm
   . exact(hoth y hy hne).2.2 a a' ha ha'
 . intro k' hk';rw[Xn] at hk'
   by_cases e:k'=k
   . rw[if_pos e] at hk';cases hk'
   . rw[if_neg e] at hk';simp only[Ql4,if_neg e];exact h.all k' hk'
theorem Qbm.new {b:Nat} (hn:New w w1 b (.map #[] 0)) (hb:S b):Qbm enc sz te w1 S b (fun _ => []) [] :=
 ⟨hb,MapAt.new hn,by simp,by simp,by simp,fun _ _=>rfl⟩
end
theorem Qy6 {α:Type} {enc:α->List Value} {sz:Nat} {w:World} {A:Option Addr} {l:List α} (h:Sl enc sz w A l) (k:Nat):Sl enc sz w A (l.take k):=fun i x hi=>by
 have hlt:i<(l.take k).length:=(Zi.1 hi).1;rw[Zn] at hlt;rw[Zby] at hi;rw[if_pos Om] at hi;exact h i x hi
theorem Xge {α:Type} {enc:α->List Value} {sz:Nat} {w:World} {A:Option Addr} {l:List α} (h:Sl enc sz w A l) (k:Nat):Sl enc sz w (A.map (·.add (k*sz))) (l.drop k):=fun i x hi=>by
 rw[Zbz] at hi;obtain⟨a,rfl,hc⟩:=h (k+i) x hi;refine⟨a.add (k*sz),rfl,?_⟩;rw[Xf,<- Nat.add_mul];exact hc
theorem Qf0 {α:Type} {enc:α->List Value} {sz:Nat} {w:World} {A:Option Addr} {l:List α} (h:Sl enc sz w A l) (k c:Nat) (hc:l.length<=c):Sl enc sz w (if c=k then A else A.map (·.add (k*sz))) (l.drop k):=by
 split
 . rw[List.drop_eq_nil_of_le Om];exact Sl.nil
 . exact Xge h k
theorem Qte {α:Type} {enc:α->List Value} {sz:Nat} {w w1:World} {A:Option Addr} {l:List α} (h:Sl enc sz w A l) (hk:∀ a,A=some a->w1.heap[a.block]? = w.heap[a.block]?):Sl enc sz w1 A l:=fun i x hi=>by
 obtain⟨a,ha,hc⟩:=h i x hi;refine⟨a,ha,fun j v hj => ?_⟩;have:=hc j v hj;rw[World.cell?_of_block (w:=w) (by rw[add_block,add_block];exact hk a ha)];exact this
theorem Own.base {α:Type} {enc:α->List Value} {sz te:Nat} {base base':Nat} {w:World} {A:Option Addr} {c:Nat} {l:List α} (h:Own enc sz te base w A c l) (hb:base'<=base):Own enc sz te base' w A c l:=by
 refine⟨h.1,?_⟩;rcases h.2 with h0 | ⟨g,cap,cur,hv,hg,h1⟩
 . exact .inl h0
 . exact .inr ⟨g,cap,cur,hv,Om,h1⟩
structure Ql9 {α:Type} (P:Program) (t te:TypeId) (enc:α->List Value) (sz bytes:Nat):Prop where
 und:P.underlying t=some (.slice te)
 ty:∃ ety,Xe P te=some ety/\ety.size=sz/\(Qg ety.zero).length=sz
 by_:(P.info? te).map (·.bytes)=some bytes
 small:bytes<=1000
 pos:0<sz
 sz:∀ x,(enc x).length=sz
 one:∀ x,∀ u∈enc x,u.oneCell'=true
section
variable {α:Type} {P:Program} {t te:TypeId} {enc:α->List Value} {sz bytes:Nat}
theorem Qq (R0:Ql9 P t te enc sz bytes) {w:World} {A:Option Addr} {c base:Nat} {l:List α} {R:Value->World->Prop} {ty:TypeId} {n m:Nat} (hn:n=l.length) (hown:Own enc sz te base w A c l) {B:Option Addr} {cB:Nat} {news:List α} (hm:m=news.length) (hs:Sl enc sz w B news) (hl:l.length+news.length<100000000000) (hbase:base<=w.heap.size)
 (h:∀ A' c' w',Own enc sz te base w' A' c' (l++news)->w.grownBy w' (A.map (·.block))->(A'=A\/A'.map (·.block)=A.map (·.block)\/A'.map (·.block)=some w.heap.size)->R (.slice A' (l++news).length c') w') :
 Qkj P (Builtin.append_ #[t,t] ty [.slice A n c,.slice B m cB].toArray) w R:=by
 obtain⟨ety,h1,h2,h3⟩:=R0.ty;subst hn hm;have hb:(l.length+news.length)*bytes<=100000000000*1000:=Nat.mul_le_mul Om R0.small;exact Qd7 h1 R0.und R0.by_ h2 h3 R0.pos R0.sz R0.one hown hs Om Om hbase h
theorem Ql9.made (R0:Ql9 P t te enc sz bytes) {w w1:World} {b base:Nat} (h:New w w1 b (.cells ([]:List Value).toArray te)) (hb:base<=w.heap.size):Own enc sz te base w1 (some ⟨b,0,none⟩) 0 []:=Own.made h hb
theorem Ql9.new1 (R0:Ql9 P t te enc sz bytes) {w w1:World} {b:Nat} {x:α} (h:New w w1 b (.cells (enc x).toArray te)):Sl enc sz w1 (some ⟨b,0,none⟩) [x]:=by
 have h':New w w1 b (.cells ([x].flatMap enc).toArray te):=Su h;exact Qak R0.sz h'
theorem Ql9.stay (R0:Ql9 P t te enc sz bytes) {w w1:World} {A:Option Addr} {l:List α} (h:Sl enc sz w A l) (hk:∀ a,A=some a->a.block<w.heap.size->w1.heap[a.block]? = w.heap[a.block]?):Sl enc sz w1 A l:=fun i x hi=>by
 obtain⟨a,ha,hc⟩:=h i x hi;have h0:∃ v,(enc x)[0]? = some v:=(by have:=R0.sz x;have hp:=R0.pos;exact⟨_,Zd Om⟩);obtain⟨v,hv⟩:=h0;have hlt:=cell_lt (hc 0 v hv);rw[add_block,add_block] at hlt;refine⟨a,ha,fun j v hj => ?_⟩;rw[World.cell?_of_block (w:=w) (by rw[add_block,add_block];exact hk a ha hlt)];exact hc j v hj
theorem Xq {w:World} {A:Option Addr} {c base:Nat} {l:List α} (h:Own enc sz te base w A c l):∀ k,A.map (·.block)=some k->base<=k:=by
 intro k hk
 cases A with
 | none=>simp at hk
 | some a=>have:=h.block (a:=a) rfl;simp at hk;omega
end
theorem Qk2:Ql9 Tryz.prog 23 77 evC 8 96:=⟨Qw2,⟨_,ty77_ok,rfl,rfl⟩,by77,by decide,by decide,Qag,Qbg⟩
theorem X7:Ql9 Tryz.prog 36 9 Qab 1 16:=⟨Xir,⟨_,ty9_ok,rfl,rfl⟩,by9,by decide,by decide,Qw,Qtm⟩
