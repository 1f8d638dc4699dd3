import Derived.RangeFuncBox
import Derived.RangeFuncLeaves
import Derived.Shelf.Abstract
import Derived.WalkKit
import Derived.OwnWalkIn
import Derived.TacticsInMore
import Derived.LoopNIn
import Derived.LoopIn
import Derived.Sort.OwnSorted
import Derived.Test.YtpdonaienhociaaGreatDoorGI
set_option linter.all false
namespace Go.Proofs.YtpdonaienhociaaGreatDoor
open Go.Se Go.RowKit
theorem Q8d {κ:Type} {enc:κ->Value} {P:Program} {w:World} {b:Nat} {L:List (κ×Value)} {mt kt et ty:TypeId} (ht:P.underlying mt=some (.map kt et)) (hm:MapAt w b enc L) {R:Value->World->Prop}
 (h:∀ w',MapAt w' b enc ([]:List (κ×Value))->Only w w' b->R (.tuple #[]) w'):Qkj P (Builtin.clear_ #[mt] ty #[.map (some b)]) w R:=by
 obtain⟨E,c,hE,rfl⟩:=hm;refine⟨_,Go.ChangeMaps.setBlock w b (.map #[] c),?_,h _ ⟨[],c,⟨Qaa hE.block,by simp,by simp,by simp⟩,rfl⟩ (Qah w b _)⟩;have h1:=Qdd (P:=P) hE.block;have h2:=Qgj (P:=P) (.map #[] c) hE.block;simp[Builtin.clear_,run_underlying ht,h1,h2,Go.ChangeMaps.setBlock]
theorem Q62 (w:World) (bd bs:Nat) (Ld Ls:List (Bj×Value)) (hne:bd≠bs) (hd:MapAt w bd Value.string Ld) (hs:MapAt w bs Value.string Ls) :
 Cal Tryz.prog 373 [.map (some bd),.map (some bs)] w fun r w'=>r = .tuple #[]/\∃ L,MapAt w' bd Value.string L/\(∀ x,x∈L.map (·.1)↔x∈Ld.map (·.1)\/x∈Ls.map (·.1))/\L.length<=Ld.length+Ls.length/\Mod (fun k=>k=bd) w w':=by
 have hdlt:=hd.lt;refine Fi Tryz.func373 rfl _ rfl rfl (Hh ?_);refine map_range Qpf hs fun w1 hi1 hx1 => ?_
 generalize hr:w.heap.size=r at hi1 ⊢;refine Gg ?_
 refine Qh Qb (fun(q:List (Bj×Value)×List (Bj×Value)) w'=>Mod (fun k=>k=bd) w w'/\Iter w' r bs Value.string Ls q.1/\MapAt w' bd Value.string q.2/\(∀ x,x∈q.2.map (·.1)↔x∈Ld.map (·.1)\/x∈q.1.map (·.1))/\q.2.length<=Ld.length+q.1.length)
  (fun _ => [(0,.map (some bd)),(7,Pj r)]) (fun q=>Ls.length-q.1.length) ([],Ld) ⟨Mod.of_ext hx1,hi1,hd.ext hx1,by simp,by simp⟩ Rr ?_
 clear hi1 hx1;rintro ⟨vs,L⟩ w2 ⟨hM,hi2,hL,hmem,hlen⟩;simp only at hi2 hL hmem hlen;refine Gg ?_;refine Qe9 hi2 (fun hp => ?_) (fun x w3 hin hnew hlt hi3 ho3 hen => ?_)
 . have hvl:=hp.length_eq;refine Gg ?_;constructor
   . intro hh;cases hh
   intro _;refine Gg ?_;refine⟨rfl,L,hL,fun x => ?_,Om,hM⟩;rw[hmem x,(hp.map _).mem_iff]
 . have hM3:Mod (fun k=>k=bd) w w3:=Qn hM (Qj ho3 (.inr Om));have hL3:=hL.only ho3 Om;refine Gg ?_;constructor
   . intro _;refine Gg ?_;refine Qaw (hen w3 rfl rfl) ?_;refine Gg ?_;refine Qx Qpf (Qo Xb) hL3 x.1 x.2 fun w4 hL4 ho4 => ?_
     have hi4:Iter w4 r bs Value.string Ls (vs ++ [x]):=hi3.keep (ho4.block bs (Ne.symm hne)) (ho4.block r Om);have hal:=Qb3 x.1 x.2 L;refine Gg ?_;refine⟨(vs ++ [x],Xc L x.1 x.2),by simp;omega,⟨hM3.trans (Qj ho4 rfl),hi4,hL4,fun y => ?_,by simp;omega⟩,Rr⟩;simp only;rw[Qed,Zp,Zj,Zm,Zb8,Zk,<- or_assoc,<- hmem y];split
     . next hin2 =>
       constructor
       . exact .inl
       . rintro (h | h)
         . exact h
         . rw[h];exact hin2
     . rw[Zj,Zk]
   . intro hh;cases hh
abbrev SnH:=Bj×Int×Int×SV
def seC (x:SnH):List Value := [.string x.1,Vj x.2.1,Vj x.2.2.1,.slice x.2.2.2.1 x.2.2.2.2.1 x.2.2.2.2.2]
theorem Qhi (x:SnH):(seC x).length=4:=rfl
theorem Q9y (x:SnH):∀ u∈seC x,u.oneCell'=true:=by simp[seC,Value.oneCell']
theorem Xgb:Ql9 Tryz.prog 322 385 seC 4 56:=⟨by kernel_rfl,⟨_,ty385_ok,rfl,rfl⟩,by385,by decide,by decide,Qhi,Q9y⟩
theorem Q1h {α:Type} {enc:α->List Value} {sz:Nat} {te:TypeId} {base:Nat} {w:World} {A:Option Addr} {c:Nat} {l:List α} (h:Own enc sz te base w A c l) {a:Addr} (ha:A=some a):a.spot=none:=by
 rcases h.2 with⟨hv,_⟩ | ⟨g,cap,cur,hv,_⟩
 . injection hv with e _ _;rw[ha] at e;cases e
 . injection hv with e _ _;rw[ha] at e;injection e with e;rw[e]
theorem Q4t (w:World) (base:Nat) (A:Option Addr) (c:Nat) (T:List SnH) (b8 b9 bi:Nat) (I:List (Bj×Value)) (h8:At w b8 322 [.slice A T.length c]) (h9:At w b9 90 [.map (some bi)]) (hI:MapAt w bi Value.string I) (hown:Own seC 4 385 base w A c T)
 (hk:∀ x∈I,x.1.size<=1000000) (hl:I.length<=1000000000) (hT:T.length<1000000) :
 Cal Tryz.prog 370 [Pj b8,Pj b9] w fun r w'=>r = .tuple #[]/\(T = []->w'=w)/\∀ L d,T=L ++ [d]->∃ B cB,Own seC 4 385 base w' A c (L ++ [(d.1,d.2.1,d.2.2.1,(B,(Xi (I.map (·.1))).length,cB))])/\SlT w' B (Xi (I.map (·.1)))/\(∀ a,B=some a->w.heap.size<=a.block/\a.block<w'.heap.size)/\(∀ a,B=some a->a.spot=none/\(Xi (I.map (·.1))).length<=cB)/\Mod (fun k=>∃ a,A=some a/\k=a.block) w w':=by
 refine Fi Tryz.func370 rfl _ rfl rfl (Hh ?_);refine⟨_,h8.one0,Gg ?_⟩;constructor
 . intro hc;have hc:0<T.length:=Su hc;have hown':=hown;refine Gg ?_;refine Dr .ext [0,1,2,3,4,5,6,7] [8] (Hh ?_);refine⟨_,h8.one0,Gg ?_⟩;refine⟨((T.length-1:Nat):Int),wrap_eq Om ⟨Om,Om⟩,Gg ?_⟩;refine⟨_,h9.one0,Gg ?_⟩;have hxd:Ext w w.drew:=(Ext.refl w).drew;refine(Qks (some bi) w.drew).mono ?_;rintro _ w1 ⟨rfl,hc1,hx1⟩;refine⟨hx1,Gg ?_⟩;refine(Qhm hc1 (hI.ext (hxd.trans hx1)) hk hl).mono ?_;rintro _ w2 ⟨B,cB,rfl,ho2,hx2⟩;refine⟨hx2,?_⟩;have hx02:=hxd.trans (hx1.trans hx2);have hBsl:=ho2.sl Qw;have hBb:∀ a,B=some a->w.heap.size<=a.block/\a.block<w2.heap.size:=fun a ha=>(by have:=ho2.block ha;have:=hx1.size;exact⟨Zv (show w.heap.size<=w1.heap.size from hx1.size) (ho2.block ha).1,(ho2.block ha).2⟩)
   have hBs:∀ a,B=some a->a.spot=none/\(Xi (I.map (·.1))).length<=cB:=fun a ha=>⟨Q1h ho2 ha,ho2.le⟩
   generalize Xi (I.map (·.1))=K at hBsl hBs ⊢;clear ho2;have hown2:=hown.ext hx02;obtain⟨a,hAa,hca⟩:=(hown2.sl Qhi).get (k:=T.length-1) Om;subst hAa;refine Gg ?_;refine⟨a,Ix,Gg ?_⟩;have hxe:seC ((T[T.length-1]'Om).1,(T[T.length-1]'Om).2.1,(T[T.length-1]'Om).2.2.1,(B,K.length,cB))=spl (seC (T[T.length-1]'Om)) 3 (Qg (.slice B K.length cB)):=rfl;refine Qo9 Qb (e:=ty36) rfl Qhi rfl Oj (k:=T.length-1) (f:=3) Om (by decide) _ hxe (a:=a) (by rw[Xf];rfl) hown2 fun w3 hown3 ho3 => ?_
   refine Gg ?_;refine⟨rfl,fun h=>(by rw[h] at hc;simp at hc),fun L d hLd=>⟨B,cB,?_,?_,?_,hBs,?_⟩⟩
   . have e1:T[T.length-1]'Om=d:=by simp[hLd]
     rw[e1] at hown3;have e2:T.set (T.length-1) (d.1,d.2.1,d.2.2.1,(B,K.length,cB))=L ++ [(d.1,d.2.1,d.2.2.1,(B,K.length,cB))]:=(by rw[hLd];simp);rw[e2] at hown3;exact hown3
   . exact ho3.sl hBsl fun b hb e=>(by have h1:=(hBb b hb).1;have h2:=(hown.block rfl).2;omega)
   . intro b hb;rw[ho3.size];exact hBb b hb
   . exact(Mod.of_ext hx02).trans (Qj ho3 ⟨a,rfl,rfl⟩)
 . intro hc;have hc:T.length=0:=(by have:¬ (0:Int)<T.length:=Su hc;omega);have hT0:T = []:=Zao.1 hc;refine Gg ?_;exact⟨rfl,fun _=>rfl,fun L d h=>by rw[hT0] at h;simp at h⟩
def SnR (w:World) (n0:Nat) (R:Nat->Prop) (d:SnH) (q:Sn):Prop :=
 d.1=q.person/\d.2.1=q.from_/\d.2.2.1=q.to_/\d.2.2.2.2.1=q.items.length/\SlT w d.2.2.2.1 q.items/\(∀ a,d.2.2.2.1=some a->n0<=a.block/\a.block<w.heap.size/\¬ R a.block)/\∀ a,d.2.2.2.1=some a->a.spot=none/\q.items.length<=d.2.2.2.2.2
structure Qb1 (w:World) (n0:Nat) (R:Nat->Prop) (T:List SnH) (Q:List Sn):Prop where
 len:T.length=Q.length
 at_:∀ (i:Nat) (d:SnH) (q:Sn),T[i]? = some d->Q[i]? = some q->SnR w n0 R d q
theorem SnR.keep {w w1:World} {n0:Nat} {R R1:Nat->Prop} {d:SnH} {q:Sn} (h:SnR w n0 R d q) (hk:∀ k,n0<=k->k<w.heap.size->¬ R k->w1.heap[k]? = w.heap[k]? /\ ¬ R1 k) (hs:w.heap.size<=w1.heap.size):SnR w1 n0 R1 d q:=by
 obtain⟨h1,h2,h3,h4,h5,h6,h7⟩:=h;refine⟨h1,h2,h3,h4,Qa8 h5 fun a ha => ?_,fun a ha => ?_,h7⟩
 . obtain⟨q1,q2,q3⟩:=h6 a ha;exact(hk _ q1 q2 q3).1
 . obtain⟨q1,q2,q3⟩:=h6 a ha;exact⟨q1,Om,(hk _ q1 q2 q3).2⟩
theorem Qb1.keep {w w1:World} {n0:Nat} {R R1:Nat->Prop} {T:List SnH} {Q:List Sn} (h:Qb1 w n0 R T Q) (hk:∀ k,n0<=k->k<w.heap.size->¬ R k->w1.heap[k]? = w.heap[k]? /\ ¬ R1 k) (hs:w.heap.size<=w1.heap.size):Qb1 w1 n0 R1 T Q:=⟨h.len,fun i d q hd hq=>(h.at_ i d q hd hq).keep hk hs⟩
theorem Qb1.ext {w w1:World} {n0:Nat} {R:Nat->Prop} {T:List SnH} {Q:List Sn} (h:Qb1 w n0 R T Q) (hx:Ext w w1):Qb1 w1 n0 R T Q:=h.keep (fun k _ hk hr=>⟨hx.block k hk,hr⟩) hx.size
theorem Qb1.nil {w:World} {n0:Nat} {R:Nat->Prop}:Qb1 w n0 R [] []:=⟨rfl,by simp⟩
theorem Qb1.append {w:World} {n0:Nat} {R:Nat->Prop} {T U:List SnH} {Q P:List Sn} (h:Qb1 w n0 R T Q) (k:Qb1 w n0 R U P):Qb1 w n0 R (T++U) (Q++P):=by
 refine⟨by simp[h.len,k.len],fun i d q hd hq => ?_⟩;have hl:=h.len
 by_cases hi:i<T.length
 . rw[Zz hi] at hd;rw[Zz Om] at hq;exact h.at_ i d q hd hq
 . rw[Z5 Om] at hd hq;rw[<- hl] at hq;exact k.at_ _ d q hd hq
theorem Qb1.snoc {w:World} {n0:Nat} {R:Nat->Prop} {T:List SnH} {Q:List Sn} (h:Qb1 w n0 R T Q) {d:SnH} {q:Sn} (hd:SnR w n0 R d q):Qb1 w n0 R (T ++ [d]) (Q ++ [q]) :=
 h.append ⟨rfl,fun i d' q' h1 h2=>by
  cases i with
  | zero=>simp at h1 h2;subst h1;subst h2;exact hd
  | succ i=>simp at h1⟩
theorem Xfw {gap:Int} {G:List Grp} {t:Int} {its:List Bj} (h:∀ g,G.getLast? = some g->gap<t-g.2.1):Qc8 gap G t its=G ++ [(t,t,its)]:=by
 unfold Qc8
 cases hl:G.getLast? with
 | none=>rw[List.getLast?_eq_none_iff.1 hl];rfl
 | some g=>simp only;rw[if_pos (h g hl)]
theorem Xfx {gap:Int} {G0:List Grp} {g:Grp} {t:Int} {its:List Bj} (h:¬ gap<t-g.2.1):Qc8 gap (G0 ++ [g]) t its=G0 ++ [(g.1,t,g.2.2++its)]:=by
 unfold Qc8;simp[h]
theorem Xdo {k:Qer} {t:Int} (h:t∈k.map (·.1)):∃ v,Qe k t=some v:=by
 cases hl:Qe k t with
 | some v=>exact⟨v,rfl⟩
 | none =>
   have:=Qd6.1 hl;obtain⟨x,hx,rfl⟩:=Zh.1 h;exact absurd rfl (this x hx)
structure Xiv (k:Qer):Prop where
 tick:∀ x∈k,0<=x.1/\x.1<=1099511627776
 name:∀ x∈k,∀ y∈x.2,y.1.size<=1000
 num:k.length<1000000
 sum:(k.map fun x=>x.2.length).sum<1000000
def rowB (A:Option Addr) (k:Nat):Prop:=∃ a,A=some a/\k=a.block
def Qfd (k:Qer) (ts:List Int):Nat:=(ts.map fun t=>(Xt k t).length).sum
theorem Qzx {k:Qer}:∀ {ts:List Int},ts.Nodup->(∀ t∈ts,t∈k.map (·.1))->k.Pairwise (fun x y=>x.1≠y.1)->Qfd k ts<=(k.map fun x=>x.2.length).sum:=by
 intro ts hn hs hp;have hperm:∃ R,(k.map (·.1)).Perm (ts++R):=Qgm hn hs;obtain⟨R,hR⟩:=hperm;have h1:((k.map (·.1)).map fun t=>(Xt k t).length).sum=(k.map fun x=>x.2.length).sum:=(by rw[Zy];congr 1;apply Za7;intro x hx;simp only[Function.comp,Xt];rw[Qdk hp (show (x.1,x.2)∈k from hx)];simp);have h2:=(hR.map fun t=>(Xt k t).length).sum_nat;rw[Zp,Zbd,h1] at h2;unfold Qfd;omega
theorem Xhr (gap:Int) (k:Qer):∀ ts:List Int,∀ g∈Qgv gap k ts,g.2.1∈ts:=by
 refine Qv (by simp[Qgv]) fun l t ih g hg => ?_
 rw[Qhu] at hg;unfold Qc8 at hg;split at hg
 . next g0 h0 =>
   split at hg
   . rcases Zj.1 hg with hg | hg
     . exact Zj.2 (.inl (ih g hg))
     . simp at hg;rw[hg];simp
   . rcases Zj.1 hg with hg | hg
     . exact Zj.2 (.inl (ih g (List.dropLast_subset _ hg)))
     . simp at hg;rw[hg];simp
 . simp at hg;rw[hg];simp
def GInv (w:World) (n0:Nat) (A:Option Addr) (person:Bj) (T:List SnH) (I:List (Bj×Value)) (G:List Grp):Prop :=
 (G = []/\T = []/\I = [])\/∃ (L:List SnH) (G0:List Grp) (g:Grp),T=L ++ [(person,g.1,g.2.1,((none:Option Addr),0,0))]/\G=G0 ++ [g]/\Qb1 w n0 (rowB A) L (G0.map (Xbm person))/\∀ x,x∈I.map (·.1)↔x∈g.2.2
theorem GInv.keep {w w1:World} {n0:Nat} {A:Option Addr} {person:Bj} {T:List SnH} {I:List (Bj×Value)} {G:List Grp} (h:GInv w n0 A person T I G) (hk:∀ k,n0<=k->k<w.heap.size->¬ rowB A k->w1.heap[k]? = w.heap[k]?) (hs:w.heap.size<=w1.heap.size):GInv w1 n0 A person T I G:=by
 rcases h with h | ⟨L,G0,g,h1,h2,h3,h4⟩
 . exact .inl h
 . exact .inr ⟨L,G0,g,h1,h2,h3.keep (fun k a b c=>⟨hk k a b c,c⟩) hs,h4⟩
theorem Qix (w:World) (n0:Nat) (A:Option Addr) (c:Nat) (T:List SnH) (b8 b9 bi:Nat) (I:List (Bj×Value)) (person:Bj) (G:List Grp) (h8:At w b8 322 [.slice A T.length c]) (h9:At w b9 90 [.map (some bi)]) (hI:MapAt w bi Value.string I) (hown:Own seC 4 385 n0 w A c T)
 (hk:∀ x∈I,x.1.size<=1000000) (hl:I.length<=1000000000) (hT:T.length<1000000) (hn0:n0<=w.heap.size) (hG:GInv w n0 A person T I G) :
 Cal Tryz.prog 370 [Pj b8,Pj b9] w fun r w'=>r = .tuple #[]/\∃ T',T'.length=T.length/\Own seC 4 385 n0 w' A c T'/\Qb1 w' n0 (rowB A) T' (G.map (Xbm person))/\Mod (rowB A) w w':=by
 refine(Q4t w n0 A c T b8 b9 bi I h8 h9 hI hown hk hl hT).mono ?_;rintro r w' ⟨hr,h0,h1⟩;refine⟨hr,?_⟩;rcases hG with⟨rfl,rfl,rfl⟩ | ⟨L,G0,g,rfl,rfl,hS,hm⟩
 . have:=h0 rfl;subst this;exact⟨[],rfl,hown,Qb1.nil,Mod.refl _ _⟩
 . obtain⟨B,cB,hown',hsl,hB,hBs,hM⟩:=h1 L _ rfl;have hset:Xi (I.map (·.1))=Qcc g.2.2:=Qiz (Qam hI.keys) hm;rw[hset] at hown' hsl hBs;refine⟨_,by simp,hown',?_,hM⟩;rw[Zp];refine(hS.keep (fun k _ h2 h3=>⟨hM.block k h2 h3,h3⟩) hM.size).snoc ⟨rfl,rfl,rfl,rfl,hsl,fun a ha => ?_,hBs⟩;have h2:=hB a ha;refine⟨Om,h2.2,?_⟩;rintro ⟨a',ha',he⟩;have:=(hown.block ha').2;omega
theorem Q5f {k:Qer} (h:Xiv k) {t:Int} {x:Bj} (hx:x∈Xt k t):x.size<=1000:=by
 unfold Xt at hx
 cases hl:Qe k t with
 | none=>rw[hl] at hx;simp at hx
 | some v =>
   rw[hl] at hx;simp only[Zaj,Zh] at hx;obtain⟨y,hy,rfl⟩:=hx;exact h.name _ (Qbi hl) y hy
theorem Xdk {I:World->(Nat->Prop)->Nat->List (Bj×Bool)->Prop} {w:World} {S:Nat->Prop} {b:Nat} {m:Qer} (h:MapOf vi I w S b m):∃ L,MapAt w b vi L/\L.map (·.1)=m.map (·.1):=by
 obtain⟨L,col,hL⟩:=h;refine⟨_,hL.map,?_⟩;rw[<- hL.eq];simp
set_option maxHeartbeats 4000000 in
theorem Q9z (w:World) (S:Nat->Prop) (p:Nat) (gap:Int) (s:Ses) (h:Qz8 w S p gap s) (hgap:0<=gap/\gap<=1099511627776) (person:Bj) (htk:Xiv ((Qe s person).getD [])) :
 Cal Tryz.prog 337 [Pj p,.string person,Vj 1099511627776] w fun r w'=>∃ A c T,r = .slice A T.length c/\Own seC 4 385 w.heap.size w' A c T/\Qb1 w' w.heap.size (rowB A) T (Qf2 gap s person)/\Ext w w':=by
 obtain⟨bm,h⟩:=h;have hhead:=h.head;have hplt:=h.head.lt;unfold Qf2;refine Fi Tryz.func337 rfl _ rfl rfl (Hh ?_);refine⟨_,h.head.one rfl,Hh ?_⟩;rcases h.sums.look Qai Xdz (Qo Xb) (e:=ty303) ty303_ok rfl person with⟨hno,hrd⟩ | ⟨bk,v,Sk,hsome,hrd,hIv,hSk,_⟩
 . refine⟨_,hrd .same Qp,Hh ?_⟩;rw[hno];intro b8 w1 hn1;refine Hh ?_;intro b2 w2 hn2;refine Hh ?_;intro b9 w3 hn3;refine Hh ?_;have e1:=hn1.block;have e2:=hn2.block;have e3:=hn3.block;have s1:=hn1.size;have s2:=hn2.size;refine Qc Qb (e:=ty90) rfl hn3.At rfl rfl rfl Oj fun w4 h4 ho4 => ?_
   have h9:At w4 b9 90 [.map (some b2)]:=h4;have h8:At w4 b8 322 [.slice none ([]:List SnH).length 0]:=(ho4.block b8 Om).trans ((hn1.At.ext hn2.ext).ext hn3.ext);have hI:MapAt w4 b2 Value.string []:=((MapAt.new hn2).ext hn3.ext).only ho4 Om;have hx4:Ext w w4:=ho4.ext (hn1.ext.trans (hn2.ext.trans hn3.ext)) Om;clear ho4 h4;refine Gg ?_;refine(Qql none w4).mono ?_;rintro _ w5 ⟨rfl,hc5,hx5⟩;refine Hh ?_;refine(Qzd hc5).mono ?_;rintro _ w6 ⟨A6,c6,rfl,_,hx6⟩;refine Hh ?_;have hx:=hx5.trans hx6;replace h8:=h8.ext hx;replace h9:=h9.ext hx;replace hI:=hI.ext hx;replace hx4:=hx4.trans hx;refine Qh Qb (fun(_:Unit) w'=>w'=w6) (fun _ => [(25,Vj 0),(26,Vj 0),(8,Pj b8),(10,.func (.func 370) #[] #[Pj b8,Pj b9])]) (fun _=>0) () rfl Rr ?_;rintro _ w7 rfl;refine Hh ?_;constructor
   . intro hh;simp at hh
   intro _;refine Hh ?_;refine(Qix w7 w.heap.size none 0 [] b8 b9 b2 [] person [] h8 h9 hI Own.nil (by simp) (by simp) (by simp) hx4.size (.inl ⟨rfl,rfl,rfl⟩)).mono ?_;rintro _ w8 ⟨rfl,T',hT',hown,hS,hM⟩;have hT0:T' = []:=Su hT';subst hT0;have hx8:Ext w7 w8:=hM.ext fun k _ hk=>by obtain⟨a,ha,_⟩:=hk;cases ha
   refine Hh ?_;refine⟨_,(h8.ext hx8).one0,Hh ?_⟩;have hg0:Xhs gap [] = []:=by simp[Xhs,Qgv,Qo2]
   rw[show (none:Option Qer).getD [] = [] from rfl,hg0];exact⟨none,0,[],rfl,hown,Qb1.nil,hx4.trans hx8⟩
 . refine⟨_,hrd .same Qp,Hh ?_⟩;rw[hsome] at htk ⊢;simp only[Zaj] at htk ⊢;have hvk:v.Pairwise (fun x y=>x.1≠y.1):=(by obtain⟨L,col,hL⟩:=hIv;have:=hL.keys;rw[<- hL.eq,Z7];exact this);intro b8 w1 hn1;refine Hh ?_;intro b2 w2 hn2;refine Hh ?_;intro b9 w3 hn3;refine Hh ?_;have e1:=hn1.block;have e2:=hn2.block;have e3:=hn3.block;have s1:=hn1.size;have s2:=hn2.size;have s3:=hn3.size;refine Qc Qb (e:=ty90) rfl hn3.At rfl rfl rfl Oj fun w4 h4 ho4 => ?_
   have h9:At w4 b9 90 [.map (some b2)]:=h4;have h8:At w4 b8 322 [.slice none ([]:List SnH).length 0]:=(ho4.block b8 Om).trans ((hn1.At.ext hn2.ext).ext hn3.ext);have hI:MapAt w4 b2 Value.string []:=((MapAt.new hn2).ext hn3.ext).only ho4 Om;have hx4:Ext w w4:=ho4.ext (hn1.ext.trans (hn2.ext.trans hn3.ext)) Om;clear ho4 h4;refine Gg ?_;have hb84:=h8.lt;have hb24:=hI.lt;obtain⟨LK,hLK,hLKk⟩:=Xdk hIv;refine(Qql (some bk) w4).mono ?_;rintro _ w5 ⟨rfl,hc5,hx5⟩;refine Hh ?_
   refine(Qwh hc5 (hLK.ext (hx4.trans hx5)) (fun x hx=>by
    have:x.1∈v.map (·.1):=by rw[<- hLKk];exact Zh.2 ⟨x,hx,rfl⟩
    obtain⟨y,hy,he⟩:=Zh.1 this;have:=htk.tick y hy;omega) (by have:=congrArg List.length hLKk;simp at this;have:=htk.num;omega)).mono ?_
   rintro _ w6 ⟨A6,c6,rfl,ho6,hx6⟩;rw[hLKk] at ho6 ⊢;have hx:=hx5.trans hx6;replace h8:=h8.ext hx;replace h9:=h9.ext hx;replace hI:=hI.ext hx;replace hx4:=hx4.trans hx;have hb8:=h8.lt;have hb9:=h9.lt;have hb2:=hI.lt;have hts:=ho6.sl X4;have hA6:∀ a,A6=some a->a.block<w6.heap.size/\a.block≠b8/\a.block≠b2:=fun a ha=>(by have h1:=ho6.block ha;have h2:=hx5.size;exact⟨h1.2,Om,Om⟩)
   have s45:=hx5.size;have s56:=hx6.size;unfold Xhs;have hmem:∀ t∈Qew (v.map (·.1)),t∈v.map (·.1):=fun t ht=>Qo1.1 ht
   have hnod:(Qew (v.map (·.1))).Nodup:=(Qd9 _).nodup_iff.2 (by rw[Zae,Z7];exact hvk);have htl:(Qew (v.map (·.1))).length<1000000:=by rw[Qwd,Zf];exact htk.num
   generalize Qew (v.map (·.1))=ts at hts hmem hnod htl ⊢;have hsum:∀ j,Qfd v (ts.take j)<1000000:=fun j=>Zb0 (Qzx (hnod.sublist (Zcz _ _)) (fun t ht=>hmem t (Zbo ht)) hvk) htk.sum
   clear ho6 hc5 hLK hLKk;refine Hh ?_
   refine Qh Qb (fun(q:Nat×Option Addr×Nat×List SnH×List (Bj×Value)) w'=>q.1<=ts.length/\Mod (fun k=>k=b8\/k=b2) w6 w'/\At w' b8 322 [.slice q.2.1 q.2.2.2.1.length q.2.2.1]/\At w' b9 90 [.map (some b2)]/\MapAt w' b2 Value.string q.2.2.2.2/\Own seC 4 385 w6.heap.size w' q.2.1 q.2.2.1 q.2.2.2.1/\(∀ x∈q.2.2.2.2,x.1.size<=1000)/\q.2.2.2.2.length<=Qfd v (ts.take q.1)/\q.2.2.2.1.length<=q.1/\GInv w' w6.heap.size q.2.1 person q.2.2.2.1 q.2.2.2.2 (Qgv gap v (ts.take q.1)))
    (fun | (j,_,_,_,_) => [(0,Pj p),(1,.string person),(2,Vj 1099511627776),(7,.map (some bk)),(8,Pj b8),(9,Pj b9),(10,.func (.func 370) #[] #[Pj b8,Pj b9]),(24,.slice A6 ts.length c6),(25,Vj ts.length),(26,Vj j)]) (fun q=>ts.length-q.1) (0,none,0,[],[]) ⟨by simp,Mod.refl _ _,h8,h9,hI,Own.nil,by simp,by simp,by simp,.inl ⟨rfl,rfl,rfl⟩⟩ Rr ?_
   have hE:∀ {w':World},Mod (fun k=>k=b8\/k=b2) w6 w'->Ext w w':=fun hM=>(Qn (Mod.of_ext (S:=fun _=>False) hx4) (hM.mono fun k _ hk => .inr (by rcases hk with rfl | rfl <;> omega))).ext fun _ _ h=>h
   clear h8 h9 hI hx;rintro ⟨j,A,c,T,I⟩ w7 ⟨hj,hM7,h8,h9,hI,hown,hIk,hIl,hTl,hG⟩;simp only at hj h8 h9 hI hown hIk hIl hTl hG;have s7:=hM7.size;have hsm:=hsum j;refine Hh ?_;constructor
   . intro hlt;have hlt:j<ts.length:=Su hlt;obtain⟨a,hAa,hca⟩:=(Qa8 hts fun a ha=>hM7.block a.block (hA6 a ha).1 (fun hk=>by have:=hA6 a ha;omega)).get hlt;subst hAa;have htm:=hmem _ (Zx hlt);have hgs:Qgv gap v (ts.take (j+1))=Qc8 gap (Qgv gap v (ts.take j)) ts[j] (Xt v ts[j]):=by rw[Za hlt,Qhu]
     have hls:Qfd v (ts.take (j+1))=Qfd v (ts.take j)+(Xt v ts[j]).length:=(by unfold Qfd;rw[Za hlt,Zp,Zbd];simp);have hsm1:=hsum (j+1);obtain⟨y,hy,hye⟩:=Zh.1 htm;have htb:=htk.tick y hy;rw[hye] at htb;obtain⟨tv,htv⟩:=Xdo htm;generalize ts[j]=t at hca htm hgs hls htb htv;clear hye hy;generalize hGj:Qgv gap v (ts.take j)=G at hG hgs;refine Gg ?_;refine⟨a,Ix,Hh ?_⟩;refine⟨Vj t,Qs hca,Hh ?_⟩;constructor
     . intro hc;have hc:1099511627776<t:=Su hc;omega
     intro _;refine Hh ?_;have hb8':=h8.lt;have hb9':=h9.lt;have hb2':=hI.lt;have hrow8:∀ k,rowB A k->k≠b8/\k≠b9/\k≠b2:=fun k hk=>(by obtain⟨a',ha',rfl⟩:=hk;have:=(hown.block ha').1;omega)
     refine Xl Qb (ι:=Option Addr×Nat×List SnH×List (Bj×Value)) (fun _ => [(0,Pj p),(1,.string person),(2,Vj 1099511627776),(7,.map (some bk)),(8,Pj b8),(9,Pj b9),(10,.func (.func 370) #[] #[Pj b8,Pj b9]),(12,Vj t),(24,.slice (some a) ts.length c6),(25,Vj ts.length),(26,Vj j)])
      (fun q w'=>Mod (fun k=>k=b8\/k=b2) w6 w'/\At w' b8 322 [.slice q.1 q.2.2.1.length q.2.1]/\At w' b9 90 [.map (some b2)]/\MapAt w' b2 Value.string q.2.2.2/\Own seC 4 385 w6.heap.size w' q.1 q.2.1 q.2.2.1/\(∀ x∈q.2.2.2,x.1.size<=1000)/\q.2.2.2.length<=Qfd v (ts.take j)/\q.2.2.1.length<=j+1/\∃ L f0 t0 G0 its0,q.2.2.1=L ++ [(person,f0,t0,((none:Option Addr),0,0))]/\Qb1 w' w6.heap.size (rowB q.1) L (G0.map (Xbm person))/\(∀ x,x∈q.2.2.2.map (·.1)↔x∈its0)/\Qgv gap v (ts.take (j+1))=G0 ++ [(f0,t,its0++Xt v t)]) ?_ ?_
     . (conv=>whnf)
       refine⟨_,h8.one0,Hh ?_⟩
       have hl2:0<T.length->A=some (A.getD ⟨0,0,none⟩)/\w7.cell? (((A.getD ⟨0,0,none⟩).add ((T.length-1)*4)).add 2)=some (Vj ((G.getLast?.map (·.2.1)).getD 0)):=fun hT=>by
        rcases hG with⟨_,h0,_⟩ | ⟨L,G0,g,hTe,hGe,_,_⟩
        . rw[h0] at hT;simp at hT
        . obtain⟨a',ha',hc'⟩:=(hown.sl Qhi).get (k:=T.length-1) Om;have e1:T[T.length-1]'Om=(person,g.1,g.2.1,((none:Option Addr),0,0)):=by simp[hTe]
          rw[e1] at hc';rw[ha',hGe];simp only[Zaj,Zcw,List.getLast?_singleton,Option.some_or,Zch,true_and];exact hc' 2 _ rfl
       have hg2:0<=(G.getLast?.map (·.2.1)).getD 0/\(G.getLast?.map (·.2.1)).getD 0<=1099511627776:=by
        cases hgl:G.getLast? with
        | none=>simp
        | some g =>
          have hgm:=Xhr gap v (ts.take j) g (by rw[hGj];exact Zbn hgl);obtain⟨y,hy,hye⟩:=Zh.1 (hmem _ (Zbo hgm));have:=htk.tick y hy;simp only[Zch,Zaj];omega
       have hnew:(T.length=0\/gap<t-(G.getLast?.map (·.2.1)).getD 0)->Qc8 gap G t (Xt v t)=G ++ [(t,t,Xt v t)]:=fun hc=>Xfw fun g hgl=>by
        rw[hgl] at hc;simp only[Zch,Zaj] at hc;rcases hc with hc | hc
        . rcases hG with⟨h0,_⟩ | ⟨L,G0,g',hTe,_⟩
          . rw[h0] at hgl;simp at hgl
          . rw[hTe] at hc;simp at hc
        . exact hc
       have hold:¬ (T.length=0\/gap<t-(G.getLast?.map (·.2.1)).getD 0)->∃ (L:List SnH) (G0:List Grp) (g:Grp),T=L ++ [(person,g.1,g.2.1,((none:Option Addr),0,0))]/\Qb1 w7 w6.heap.size (rowB A) L (G0.map (Xbm person))/\(∀ x,x∈I.map (·.1)↔x∈g.2.2)/\Qc8 gap G t (Xt v t)=G0 ++ [(g.1,t,g.2.2++Xt v t)]:=fun hc=>by
        rcases hG with⟨_,h0,_⟩ | ⟨L,G0,g,hTe,hGe,hS,hm⟩
        . rw[h0] at hc;simp at hc
        . refine⟨L,G0,g,hTe,hS,hm,?_⟩;rw[hGe];refine Xfx fun hgt=>hc (.inr ?_)
          rw[hGe];simpa using hgt
       generalize A.getD ⟨0,0,none⟩=a0 at hl2;generalize (G.getLast?.map (·.2.1)).getD 0=g2 at hl2 hg2 hnew hold;have hhd7:=hhead.ext (hE hM7);refine Dr .same [0,1,2,3,4,5,6,7,8,9,10,11,12,13,14,15,16] [] (Hh ?_);refine⟨_,fun _=>h8.one0,Hh ?_⟩;refine⟨((T.length-1:Nat):Int),fun hg=>wrap_eq (by have:=of_decide_eq_false hg;omega) ⟨Om,Om⟩,Hh ?_⟩;refine⟨a0,fun hg=>⟨(hl2 (by have:=of_decide_eq_false hg;omega)).1,Om,(by have:=of_decide_eq_false hg;omega)⟩,Hh ?_⟩;refine⟨Vj g2,fun hg=>(hl2 (by have:=of_decide_eq_false hg;omega)).2,Hh ?_⟩;refine⟨t-g2,fun _=>wrap_eq rfl ⟨Om,Om⟩,Hh ?_⟩;refine⟨Vj gap,fun _=>hhd7.one rfl,Hh ?_⟩;have hxd:Ext w7 w7.drew:=(Ext.refl w7).drew;replace h8:=h8.ext hxd;replace h9:=h9.ext hxd;replace hI:=hI.ext hxd;replace hown:=hown.ext hxd;replace hM7:=hM7.trans (Mod.of_ext hxd);replace hG:=hG.keep (w1:=w7.drew) (fun k _ hk _=>hxd.block k hk) hxd.size;constructor
       . intro hc;have hc:T.length=0\/gap<t-g2:=Su hc;have hst:=hnew hc;rw[<- hgs] at hst;clear hold hnew hl2;generalize w7.drew=w8 at *;refine Hh ?_;refine(Qix w8 w6.heap.size A c T b8 b9 b2 I person G h8 h9 hI hown (fun x hx=>by have:=hIk x hx;omega) Om Om hM7.size hG).mono ?_;rintro _ w9 ⟨rfl,T',hT',hown',hS',hM9⟩;have s8:=hM7.size;have s9:=hM9.size;have h89:At w9 b8 322 [.slice A T'.length c]:=by rw[hT'];exact(hM9.block b8 h8.lt (fun hk=>(hrow8 _ hk).1 rfl)).trans h8
         have h99:At w9 b9 90 [.map (some b2)]:=(hM9.block b9 h9.lt (fun hk=>(hrow8 _ hk).2.1 rfl)).trans h9;have hI9:MapAt w9 b2 Value.string I:=hI.keep (hM9.block b2 hI.lt (fun hk=>(hrow8 _ hk).2.2 rfl))
         have hM69:Mod (fun k=>k=b8\/k=b2) w6 w9:=Qn hM7 (hM9.mono fun k _ hk => .inr (by
          obtain⟨a',ha',rfl⟩:=hk;exact(hown.block ha').1))
         clear h8 h9 hI hown hM7 hM9 hG;refine Hh ?_;refine⟨_,h99.one0,Hh ?_⟩;refine Q8d Qpf hI9 fun w10 hI10 ho10 => ?_
         have h810:At w10 b8 322 [.slice A T'.length c]:=(ho10.block b8 Om).trans h89;have h910:At w10 b9 90 [.map (some b2)]:=(ho10.block b9 Om).trans h99;have hown10:=hown'.keep (w':=w10) fun a' ha'=>ho10.block a'.block (fun e=>(hrow8 a'.block ⟨a',ha',rfl⟩).2.2 e)
         have hS10:Qb1 w10 w6.heap.size (rowB A) T' (G.map (Xbm person)):=hS'.keep (fun k hk1 _ hk3=>⟨ho10.block k Om,hk3⟩) (by rw[ho10.size];exact Zg _);have hM610:Mod (fun k=>k=b8\/k=b2) w6 w10:=hM69.trans (Qj ho10 (.inr rfl));have s10:=ho10.size;clear h89 h99 hI9 hown' hS' ho10 hM69;refine Hh ?_;refine⟨_,h810.one0,Hh ?_⟩;intro b11 w11 hn11;refine Hh ?_;have s11:=hn11.ext.size;refine Qq Xgb (l:=T') (news := [(person,t,t,((none:Option Addr),0,0))]) rfl (hown10.ext hn11.ext) rfl (Xgb.new1 (x:=(person,t,t,((none:Option Addr),0,0))) hn11) (by simp;omega) Om fun A12 c12 w12 hown12 hg12 hA12 => ?_
         have hAb:∀ k,A.map (·.block)=some k->w6.heap.size<=k:=Xq hown10;have h812:At w12 b8 322 [.slice A T'.length c]:=(hg12.block b8 Om (fun e=>by have:=hAb b8 e.symm;omega)).trans (h810.ext hn11.ext);have h912:At w12 b9 90 [.map (some b2)]:=(hg12.block b9 Om (fun e=>by have:=hAb b9 e.symm;omega)).trans (h910.ext hn11.ext);have hI12:MapAt w12 b2 Value.string ([]:List (Bj×Value)):=(hI10.ext hn11.ext).keep (hg12.block b2 Om (fun e=>by have:=hAb b2 e.symm;omega));have s12:=hg12.size;have hM612:Mod (fun k=>k=b8\/k=b2) w6 w12:=Qn hM610 ((Mod.of_ext hn11.ext).trans (Xx hg12 fun k hk => .inr (hAb k hk)))
         have hS12:Qb1 w12 w6.heap.size (rowB A12) T' (G.map (Xbm person)):=(hS10.ext hn11.ext).keep (fun k hk1 hk2 hk3=>by
          refine⟨hg12.block k hk2 (fun e => ?_),?_⟩
          . cases A with
            | none=>simp at e
            | some x=>simp at e;exact hk3 ⟨x,rfl,e⟩
          . rintro ⟨y,hy,rfl⟩;subst hy;rcases hA12 with h | h | h
            . exact hk3 ⟨y,h.symm,rfl⟩
            . cases A with
              | none=>simp at h
              | some x=>simp at h;exact hk3 ⟨x,rfl,h⟩
            . simp at h;omega) hg12.size
         generalize hT1:T' ++ [(person,t,t,((none:Option Addr),0,0))]=T1 at hown12 ⊢;refine Hh ?_;refine Qc Qb (e:=ty322) rfl h812 rfl rfl rfl Oj fun w13 h813 ho13 => ?_
         have hA13:∀ y,A12=some y->w6.heap.size<=y.block:=fun y hy=>(hown12.block hy).1
         refine Hh ?_;refine⟨(A12,c12,T1,[]),⟨hM612.trans (Qj ho13 (.inl rfl)),h813,(ho13.block b9 Om).trans h912,hI12.only ho13 Om,hown12.keep fun y hy=>ho13.block _ (by have:=hA13 y hy;omega),by simp,by simp,?_,T',t,t,G,[],hT1.symm,hS12.keep (fun k hk1 _ hk3=>⟨ho13.block k Om,hk3⟩) (by rw[ho13.size];exact Zg _),by simp,by rw[hst];simp⟩,Rr⟩;simp only;rw[<- hT1];simp;omega
       . intro hc;have hc:¬ (T.length=0\/gap<t-g2):=Su hc;obtain⟨L,G0,g,hTe,hS,hm,hst⟩:=hold hc;rw[<- hgs] at hst;refine Hh ?_;exact⟨(A,c,T,I),⟨hM7,h8,h9,hI,hown,hIk,hIl,Sj,L,g.1,g.2.1,G0,g.2.2,hTe,hS.ext hxd,hm,hst⟩,Rr⟩
     . clear hIl hTl hG h8 h9 hI hown hrow8 hM7 s7;rintro ⟨A1,c1,T1,I1⟩ w8 ⟨hM8,h88,h98,hI8,hown8,hIk8,hIl8,hTl8,L,f0,t0,G0,its0,hTe,hS8,hm8,hgs8⟩;simp only at h88 h98 hI8 hown8 hIk8 hIl8 hTl8 hTe hS8 hm8;have s8:=hM8.size;refine Hh ?_;refine⟨_,h98.one0,Hh ?_⟩;rcases (hIv.keep (S':=fun k=>Sk k/\k<w.heap.size) Qat fun k hk hs=>⟨(hE hM8).block k hk,hs,hk⟩).look Qat Q5m (Qkr Xhf) (e:=ty90) ty90_ok rfl t with⟨hno,hrd⟩ | ⟨bt,tv',St,hsome',hrd,hIt,hSt,_⟩
       . rw[htv] at hno;cases hno
       obtain rfl:tv=tv':=by rw[htv] at hsome';simpa using hsome'
       have hbt:bt<w.heap.size:=(hSt bt hIt.1).1.2;have htl:Xt v t=tv.map (·.1):=by unfold Xt;rw[htv];rfl
       refine⟨_,hrd .same Qp,Hh ?_⟩;refine(Q62 w8 b2 bt I1 (Xj Value.bool tv) (by have:=hx4.size;omega) hI8 hIt.2).mono ?_;rintro _ w9 ⟨rfl,L9,hL9,hm9,hl9,hM9⟩;have s9:=hM9.size;have h89:At w9 b8 322 [.slice A1 T1.length c1]:=(hM9.block b8 h88.lt Om).trans h88;have h99:At w9 b9 90 [.map (some b2)]:=(hM9.block b9 h98.lt Om).trans h98;have hown9:=hown8.keep (w':=w9) fun a' ha'=>hM9.block a'.block (hown8.block ha').2 (by have:=(hown8.block ha').1;omega)
       have hS9:=hS8.keep (w1:=w9) (R1:=rowB A1) (fun k hk1 hk2 hk3=>⟨hM9.block k hk2 Om,hk3⟩) hM9.size;have hM69:Mod (fun k=>k=b8\/k=b2) w6 w9:=hM8.trans (hM9.mono fun k _ hk => .inr hk);have hT1:0<T1.length:=by rw[hTe];simp
       obtain⟨a1,hA1,_⟩:=(hown9.sl Qhi).get (k:=T1.length-1) Om;subst hA1;refine Hh ?_;refine⟨_,h89.one0,Hh ?_⟩;refine⟨_,h89.one0,Hh ?_⟩;refine⟨((T1.length-1:Nat):Int),wrap_eq Om ⟨Om,Om⟩,Hh ?_⟩;refine⟨a1,Ix,Hh ?_⟩;have e1:T1[T1.length-1]'Om=(person,f0,t0,((none:Option Addr),0,0)):=by simp[hTe]
       have hxe:seC (person,f0,t,((none:Option Addr),0,0))=spl (seC (T1[T1.length-1]'Om)) 2 (Qg (Vj t)):=by rw[e1];rfl
       refine Qo9 Qb (e:=ty3) rfl Qhi rfl Oj (k:=T1.length-1) (f:=2) Om (by decide) _ hxe (a:=a1) (by rw[Xf];rfl) hown9 fun w10 hown10 ho10 => ?_
       have e2:T1.set (T1.length-1) (person,f0,t,((none:Option Addr),0,0))=L ++ [(person,f0,t,((none:Option Addr),0,0))]:=(by rw[hTe];simp);rw[e2] at hown10;have hTl:T1.length=(L ++ [(person,f0,t,((none:Option Addr),0,0))]).length:=by rw[hTe];simp
       have hbr:=(hown9.block rfl).1;rw[hTl] at h89;have hS10:=hS9.keep (w1:=w10) (R1:=rowB (some a1)) (fun k hk1 hk2 hk3=>⟨ho10.block k (fun e=>hk3 ⟨a1,rfl,e⟩),hk3⟩) (by rw[ho10.size];exact Zg _);have hl9':L9.length<=I1.length+tv.length:=by simpa [Xj] using hl9
       have htvl:(Xt v t).length=tv.length:=by rw[htl];simp
       refine Hh ?_;refine⟨_,wrap_succ Om,Hh ?_⟩;refine⟨(j+1,some a1,c1,L ++ [(person,f0,t,((none:Option Addr),0,0))],L9),Sj,⟨Sj,Qn hM69 (Qj ho10 (.inr hbr)),(ho10.block b8 Om).trans h89,(ho10.block b9 Om).trans h99,hL9.only ho10 Om,hown10,fun x hx => ?_,Sj,by simp only;rw[<- hTl];exact hTl8,.inr ⟨L,G0,(f0,t,its0++Xt v t),rfl,hgs8,hS10,fun x => ?_⟩⟩,Rr⟩
       . have hx1:x.1∈L9.map (·.1):=Zh.2 ⟨x,hx,rfl⟩;rcases (hm9 x.1).1 hx1 with h1 | h1
         . obtain⟨y,hy,hye⟩:=Zh.1 h1;rw[<- hye];exact hIk8 y hy
         . refine Q5f htk (t:=t) ?_;rw[htl];simpa [Xj] using h1
       . rw[hm9 x,hm8 x,Zj,htl];simp[Xj]
   . intro hge;have hge:ts.length<=j:=Su hge;rw[Zb hge] at hG;refine Hh ?_;refine(Qix w7 w6.heap.size A c T b8 b9 b2 I person _ h8 h9 hI hown (fun x hx=>by have:=hIk x hx;omega) Om Om s7 hG).mono ?_;rintro _ w8 ⟨rfl,T',hT',hown',hS',hM8⟩;have h88:At w8 b8 322 [.slice A T'.length c]:=(by rw[hT'];refine(hM8.block b8 h8.lt (fun hk => ?_)).trans h8;obtain⟨a',ha',he⟩:=hk;have:=(hown.block ha').1;omega)
     have hx8:Ext w w8:=(Qn (Mod.of_ext (S:=fun _=>False) (hE hM7)) (hM8.mono fun k _ hk => .inr (by
      obtain⟨a',ha',rfl⟩:=hk;have:=(hown.block ha').1;have:=(hE hM7).size;have:=hx4.size;omega))).ext fun _ _ h=>h
     refine Hh ?_;refine⟨_,h88.one0,Hh ?_⟩
     exact⟨A,c,T',rfl,Qg5 hown' hx4.size,⟨hS'.len,fun i d q hd hq=>by
      obtain⟨q1,q2,q3,q4,q5,q6,q7⟩:=hS'.at_ i d q hd hq
      exact⟨q1,q2,q3,q4,q5,fun a ha=>by
       obtain⟨z1,z2,z3⟩:=q6 a ha;exact⟨Zv hx4.size z1,z2,z3⟩,q7⟩⟩,hx8⟩
theorem Q4v (w:World) (S:Nat->Prop) (p:Nat) (gap:Int) (s:Ses) (h:Qz8 w S p gap s) (hgap:0<=gap/\gap<=1099511627776) (person:Bj) (htk:Xiv ((Qe s person).getD [])) :
 Cal Tryz.prog 282 [Pj p,.string person] w fun r w'=>∃ A c T,r = .slice A T.length c/\Own seC 4 385 w.heap.size w' A c T/\Qb1 w' w.heap.size (rowB A) T (Qf2 gap s person)/\Ext w w':=by
 refine Fi Tryz.func282 rfl _ rfl rfl (Hh ?_);refine(Q9z w S p gap s h hgap person htk).mono ?_;rintro _ w1 ⟨A,c,T,rfl,h1,h2,h3⟩;refine Gg ?_;exact⟨A,c,T,rfl,h1,h2,h3⟩
theorem Qz8.ext {w w1:World} {S:Nat->Prop} {p:Nat} {gap:Int} {s:Ses} (h:Qz8 w S p gap s) (hx:Ext w w1):Qz8 w1 S p gap s:=h.keep fun k hk hs=>⟨hx.block k hk,hs⟩
theorem Qwq {β:Type} {I:World->(Nat->Prop)->Nat->β->Prop} {w:World} {S:Nat->Prop} {b:Nat} {m:List (Bj×β)} (h:MapOf Value.string I w S b m):∃ L,MapAt w b Value.string L/\L.map (·.1)=m.map (·.1):=by
 obtain⟨L,col,hL⟩:=h;refine⟨_,hL.map,?_⟩;rw[<- hL.eq];simp
theorem Qb1.mono {w:World} {n0 n1:Nat} {R R1:Nat->Prop} {T:List SnH} {Q:List Sn} (h:Qb1 w n1 R T Q) (hn:n0<=n1) (hR:∀ k,n1<=k->k<w.heap.size->¬ R k->¬ R1 k):Qb1 w n0 R1 T Q:=⟨h.len,fun i d q hd hq=>by
 obtain⟨q1,q2,q3,q4,q5,q6,q7⟩:=h.at_ i d q hd hq
 exact⟨q1,q2,q3,q4,q5,fun a ha=>by
  obtain⟨z1,z2,z3⟩:=q6 a ha;exact⟨Om,z2,hR _ z1 z2 z3⟩,q7⟩⟩
structure Xi1 (gap:Int) (s:Ses):Prop where
 name:∀ x∈s,x.1.size<=1000
 tick:∀ person,Xiv ((Qe s person).getD [])
 num:s.length<1000000
 all:∀ l:List Bj,l.Sublist (Xi (s.map (·.1)))->(l.flatMap (Qf2 gap s)).length<1000000
set_option maxHeartbeats 1000000 in
theorem Q4s (w:World) (S:Nat->Prop) (p:Nat) (gap:Int) (s:Ses) (h:Qz8 w S p gap s) (hgap:0<=gap/\gap<=1099511627776) (hok:Xi1 gap s) :
 Cal Tryz.prog 204 [Pj p] w fun r w'=>∃ A c T,r = .slice A T.length c/\Own seC 4 385 w.heap.size w' A c T/\Qb1 w' w.heap.size (rowB A) T (Qj6 gap s)/\Ext w w':=by
 have hS:=h;obtain⟨bm,h⟩:=h;obtain⟨LK,hLK,hLKk⟩:=Qwq h.sums;have hall:=hok.all;have hnum:(Xi (s.map (·.1))).length<1000000:=by rw[Qcf,Zf];exact hok.num
 unfold Qj6;refine Fi Tryz.func204 rfl _ rfl rfl (Hh ?_);refine⟨_,h.head.one rfl,Gg ?_⟩;refine(Q3l (some bm) w).mono ?_;rintro _ w1 ⟨rfl,hc1,hx1⟩;refine Gg ?_
 refine(Qwj hc1 (hLK.ext hx1) (fun x hx=>by
  have:x.1∈s.map (·.1):=by rw[<- hLKk];exact Zh.2 ⟨x,hx,rfl⟩
  obtain⟨y,hy,he⟩:=Zh.1 this;have:=hok.name y hy;rw[<- he];omega) (by have:=congrArg List.length hLKk;simp at this;have:=hok.num;omega)).mono ?_
 rintro _ w2 ⟨A2,c2,rfl,ho2,hx2⟩;rw[hLKk] at ho2 ⊢;have hx02:=hx1.trans hx2;have hks:=ho2.sl Qw;generalize Xi (s.map (·.1))=ks at hks hall hnum ⊢;clear ho2 hc1 hLK hLKk;refine Gg ?_
 refine Qh Qb (fun(q:Nat×Option Addr×Nat×List SnH) w'=>q.1<=ks.length/\Ext w2 w'/\Own seC 4 385 w2.heap.size w' q.2.1 q.2.2.1 q.2.2.2/\Qb1 w' w2.heap.size (rowB q.2.1) q.2.2.2 ((ks.take q.1).flatMap (Qf2 gap s)))
  (fun | (k,A,c,T) => [(0,Pj p),(11,.slice A2 ks.length c2),(12,Vj ks.length),(13,Vj k),(3,.slice A T.length c)]) (fun q=>ks.length-q.1) (0,none,0,[]) ⟨by simp,Ext.refl _,Own.nil,Qb1.nil⟩ Rr ?_
 rintro ⟨k,A,c,T⟩ w3 ⟨hk,hx3,hown,hsn⟩;simp only at hk hown hsn;have hTl:=hall (ks.take k) (Zcz _ _);have hTl2:=hsn.len;refine Gg ?_;constructor
 . intro hlt;have hlt:k<ks.length:=Su hlt;obtain⟨a,hA,hc⟩:=(hks.ext hx3).get hlt;subst hA;have htk:(ks.take (k+1)).flatMap (Qf2 gap s)=(ks.take k).flatMap (Qf2 gap s)++Qf2 gap s ks[k]:=(by rw[Za hlt,Zbr];simp);have hTl1:=hall (ks.take (k+1)) (Zcz _ _);generalize ks[k]=person at hc htk;refine Gg ?_;refine⟨a,Ix,Gg ?_⟩;refine⟨.string person,Qs hc,Gg ?_⟩;refine(Q4v w3 S p gap s (hS.ext (hx02.trans hx3)) hgap person (hok.tick person)).mono ?_;rintro _ w4 ⟨A4,c4,T4,rfl,hown4,hsn4,hx4⟩;rw[htk] at hTl1;rw[Zo] at hTl1;have hl4:=hsn4.len;have s3:=hx3.size;have s4:=hx4.size;have hsnT:=hsn.ext hx4;have hownT:=hown.ext hx4;have hownA:=hown;generalize (ks.take k).flatMap (Qf2 gap s)=Q at htk hTl hTl1 hTl2 hsnT;generalize Qf2 gap s person=Q4 at htk hTl1 hl4 hsn4;clear hsn;refine Gg ?_;refine Qq Xgb (l:=T) (news:=T4) rfl hownT rfl (hown4.sl Qhi) Om Om fun A5 c5 w5 hown5 hg5 hA5 => ?_
   have hx5:=Qu (hx3.trans hx4) hg5 (Xq hownT)
   have hkey:∀ k',k'<w4.heap.size->¬ rowB A k'->w5.heap[k']? = w4.heap[k']? /\ ¬ rowB A5 k':=fun k' hk2 hk3=>by
    refine⟨hg5.block k' hk2 (fun e => ?_),?_⟩
    . cases A with
      | none=>simp at e
      | some x=>simp at e;exact hk3 ⟨x,rfl,e⟩
    . rintro ⟨y,hy,rfl⟩;subst hy;rcases hA5 with h | h | h
      . exact hk3 ⟨y,h.symm,rfl⟩
      . cases A with
        | none=>simp at h
        | some x=>simp at h;exact hk3 ⟨x,rfl,h⟩
      . simp at h;omega
   have h1:Qb1 w5 w2.heap.size (rowB A5) T Q:=hsnT.keep (fun k' _ hk2 hk3=>hkey k' hk2 hk3) hg5.size
   have h2:Qb1 w5 w2.heap.size (rowB A5) T4 Q4:=by
    refine((hsn4.mono (n0:=w3.heap.size) (R1:=rowB A) (Zg _) fun k' hk1 _ _ => ?_).keep (fun k' _ hk2 hk3=>hkey k' hk2 hk3) hg5.size).mono Om fun _ _ _ h=>h
    rintro ⟨x,hx,rfl⟩;have:=(hownA.block hx).2;omega
   have h12:=h1.append h2;generalize T++T4=T5 at hown5 h12 ⊢;refine Gg ?_;refine⟨_,wrap_succ Om,Gg ?_⟩;exact⟨(k+1,A5,c5,T5),Sj,⟨Sj,hx5,hown5,by simp only;rw[htk];exact h12⟩,Rr⟩
 . intro hge;have hge:ks.length<=k:=Su hge;rw[Zb hge] at hsn;refine Gg ?_;exact⟨A,c,T,rfl,Qg5 hown hx02.size,hsn.mono hx02.size fun _ _ _ h=>h,hx02.trans hx3⟩
end Go.Proofs.YtpdonaienhociaaGreatDoor
namespace Go.Proofs.YtpdonaienhociaaGreatDoor
open Go.RowKit Go.Shelf Go.Se
attribute [local go_sem] Oper.semAt_some
def Qtr (l:List Bj) (j:Nat):Bj:=l[j]?.getD ⟨#[]⟩
def Qph (l:List Bj) (k:Nat):List Bj:=(List.range k).map (Qtr l)
theorem Qre (l:List Bj) (k:Nat):Qph l (k+1)=Qph l k ++ [Qtr l k]:=by simp[Qph,Zc6]
theorem Qw3 (l:List Bj) (k:Nat):(Qph l k).length=k:=by simp[Qph]
theorem Xbd (l:List Bj):Qph l l.length=l:=by
 apply List.ext_getElem
 . simp[Qph]
 . intro i h1 h2;simp[Qph,Qtr,h2]
set_option maxRecDepth 100000 in
set_option maxHeartbeats 2000000 in
theorem values1_in (F:Fence) (n:Nat) (h7:F.fn 299) (hro:F.round=none) (hn:1<=n) (l Bs n₀ b off cap:Nat) (zs:List Bj) (hreach:zs.length*16<=140737488351232) (hb:b<n₀) (J Jx:List Bj->World->Prop)
 (hY:∀ pre x W,J pre W->pre.length<zs.length->YieldAt F (n-1) Tryz.prog l #[.string x] W fun e W' =>
  (e = .returned (.bool true)/\J (pre ++ [x]) W'/\Below n₀ W W')\/(e = .returned (.bool false)/\Jx (pre ++ [x]) W'))
 (W:World) (hBs:W.cell? ⟨Bs,0,none⟩=some (.slice (some ⟨b,off,none⟩) zs.length cap)) (hc:∀ j,j<zs.length->W.cell? ⟨b,off+j,none⟩=some (.string (Qtr zs j))) (h0:J [] W) :
 CallsIn F n Tryz.prog 299 #[.func (.yield l) #[] #[],Pj Bs] W fun e W'=>(∃ v,e = .returned v) /\
  ((∃ ys,ys=Qph zs zs.length/\J ys W')\/(∃ pre,(∃ k,k<=zs.length/\pre=Qph zs k)/\Jx pre W')):=by
 refine callsIn_of_wp Tryz.func299 rfl h7 ?_ hro;simp only[Tryz.ntmps299,Zbf,Z8,Zam,Nat.reduceAdd,Nat.reduceSub,Zcc,Zcd,Zc1,Zci,Zan,Zay]
 gi_wp2
 gi_loopw [7] (fun i wr=>∃ k:Nat,k<=zs.length/\i = Vj k/\J (Qph zs k) wr/\Below n₀ W wr)
  (fun i _=>zs.length-(intOf i).toNat)
 case atStart=>exact⟨0,Zu _,rfl,h0,Below.refl _ _⟩
 case round =>
  obtain⟨k,hk,rfl,hJs,hnx⟩:=hrel;have hcx:k<zs.length->wr.cell? ⟨b,off+k,none⟩=some (.string (Qtr zs k)):=fun h=>(hnx.cell (p:=⟨b,off+k,none⟩) hb).trans (hc k h)
  by_cases hlt:k<zs.length
  . obtain⟨fn,tmps,assign,body,hy,hR⟩:=hY _ (Qtr zs k) wr hJs (by rw[Qw3];exact hlt);have hcx':=hcx hlt
    gi_wp2
    refine hR.mono ?_;rintro e W3 (⟨rfl,hJ3,hk3⟩ | ⟨rfl,hJx3⟩)
    . gi_wp2
      go_roundw
      case rel=>exact⟨k+1,Om,by simp,by rw[Qre];exact hJ3,hnx.trans hk3⟩
      case measure=>simp[intOf];omega
    . gi_wp2
      refine bodyPost_ret (results_none rfl _ _ _) rfl ?_;exact⟨⟨_,rfl⟩,.inr ⟨_,⟨k+1,Om,(Qre _ _).symm⟩,hJx3⟩⟩
  . obtain rfl:k=zs.length:=Om
    gi_wp2
    go_end0
    exact⟨⟨_,rfl⟩,.inl ⟨_,rfl,hJs⟩⟩
set_option maxRecDepth 100000 in
set_option maxHeartbeats 1000000 in
theorem values1_nil_in (F:Fence) (n:Nat) (h7:F.fn 299) (hro:F.round=none) (l Bs:Nat) (a:Option Addr) (cap:Nat) (J:List Bj->World->Prop) (W:World) (hBs:W.cell? ⟨Bs,0,none⟩=some (.slice a 0 cap)) (h0:J [] W) :
 CallsIn F n Tryz.prog 299 #[.func (.yield l) #[] #[],Pj Bs] W fun e W'=>(∃ v,e = .returned v)/\J [] W':=by
 refine callsIn_of_wp Tryz.func299 rfl h7 ?_ hro;simp only[Tryz.ntmps299,Zbf,Z8,Zam,Nat.reduceAdd,Nat.reduceSub,Zcc,Zcd,Zc1,Zci,Zan,Zay]
 gi_wp2
 gi_loopw [7] (fun i wr=>i = Vj 0/\J [] wr) (fun _ _=>0)
 case atStart=>exact⟨rfl,h0⟩
 case round =>
  obtain⟨rfl,hJs⟩:=hrel
  gi_wp2
  go_end0
  exact⟨⟨_,rfl⟩,hJs⟩
theorem values_stops (F:Fence) (n:Nat) (h7:F.fn 299) (hro:F.round=none) (hn:1<=n) (Bs n₀:Nat) (A:Option Addr) (cap:Nat) (zs:List Bj) (hreach:zs.length*16<=140737488351232) (w:World) (hBs:Bs<w.heap.size) (hn₀:n₀<=w.heap.size)
 (hc:w.cell? ⟨Bs,0,none⟩=some (.slice A zs.length cap)) (hI:SlT w A zs) (hA:∀ a,A=some a->a.block<n₀/\a.spot=none) :
 SeqStopsK F n Tryz.prog 299 #[Pj Bs] (fun x:Bj => #[Value.string x]) (Below n₀) (fun ys=>ys=zs) (fun _=>True) zs.length w:=fun l J Jx W hW _ _ hY h0=>by
 have hc':=(hW.cell (p:=⟨Bs,0,none⟩) hBs).trans hc
 by_cases hz:zs = []
 . subst hz;exact(values1_nil_in F n h7 hro l Bs A cap J W hc' h0).mono fun e W' ⟨he,hj⟩=>⟨he,.inl ⟨_,rfl,hj⟩⟩
 . have hpos:0<zs.length:=Zac.2 hz;obtain⟨a,rfl,_⟩:=hI.get hpos;obtain⟨hab,hap⟩:=hA a rfl;obtain⟨ab,ao,ap⟩:=a;simp only at hab hap;subst hap
   have hcs:∀ j,j<zs.length->W.cell? ⟨ab,ao+j,none⟩=some (.string (Qtr zs j)):=fun j hj=>by
    obtain⟨a',ha',hca⟩:=hI.get hj;have ha':(⟨ab,ao,none⟩:Addr)=a':=Su ha';subst ha';have h1:=hca 0 (.string zs[j]) rfl;rw[show Qtr zs j=zs[j] by simp[Qtr,hj]];refine(hW.cell (p:=⟨ab,ao+j,none⟩) (Zal hab hn₀)).trans ?_
    have h2:((⟨ab,ao,none⟩:Addr).add (j*1)).add 0=⟨ab,ao+j,none⟩:=by
     rw[Xf];simp only[Addr.add];split
     . next hz=>simp at hz;rw[hz];rfl
     . simp
    rw[h2] at h1;exact h1
   refine(values1_in F n h7 hro hn l Bs n₀ ab ao cap zs hreach hab J Jx hY W hc' hcs h0).mono ?_;rintro e W' ⟨he,⟨ys,rfl,hj⟩ | ⟨pre,_,hj⟩⟩
   . exact⟨he,.inl ⟨_,Xbd zs,hj⟩⟩
   . exact⟨he,.inr ⟨_,trivial,hj⟩⟩
theorem Xfz:(Tryz.prog.info? 9).map (fun i=>(i.zero,i.size,i.bytes))=some (some (.string ⟨#[]⟩),1,16):=by kernel_rfl
set_option maxRecDepth 100000 in
set_option maxHeartbeats 2000000 in
theorem appendSeq_in (F:Fence) (n:Nat) (h3:F.fn 166) (h5:F.fn 299) (hro:F.round=none) (hn:3<=n) (Bs:Nat) (A:Option Addr) (cap:Nat) (zs:List Bj) (hlen:zs.length<=maxLen) (hbytes:zs.length*16<=140737488351232) (w:World) (hBs:Bs<w.heap.size)
 (hc:w.cell? ⟨Bs,0,none⟩=some (.slice A zs.length cap)) (hI:SlT w A zs) (hA:∀ a,A=some a->a.block<w.heap.size/\a.spot=none) :
 CallsIn F n Tryz.prog 166 #[.slice none 0 0,.func (.func 299) #[] #[Pj Bs]] w fun e W'=>∃ v,e = .returned v/\W'.ownsRow w.heap.size 9 1 v zs.length (zs.map Value.string)/\Below w.heap.size w W':=by
 have h1:1<=n:=Om;obtain⟨i0,hi,hz0,hz1,hz2⟩:=info_parts Xfz;refine callsIn_of_wp_marks Tryz.func166 rfl h3 ?_ hro;simp only[Tryz.ntmps166,Zbf,Z8,Zam,Nat.reduceAdd,Nat.reduceSub,Zcc,Zcd,Zc1,Zci,Zan,Zay]
 gi_wp2
 have bO:=Boxed.new w 36 (.slice none 0 0);have hB0:Below w.heap.size w (w.alloc (.cells #[.slice none 0 0] 36)):=(Below.refl _ w).alloc (Zg _) _
 refine wpIn_rangeFunc_ownG hro h1 (gf:=299) (lb := #[Pj Bs]) rfl h5 (enters_of Tryz.func299 Kr rfl)
  (values_stops F (n-1) h5 hro Om Bs w.heap.size A cap zs hbytes _ (by simp <;> omega) (by simp) ((hB0.cell (p:=⟨Bs,0,none⟩) hBs).trans hc) (hI.ext hB0) hA) belowK_t (belowK_b (by simp <;> omega)) (Below.refl _ _) (fun _=>rfl)
  (fun pre W=>(∃ v,Boxed W w.heap.size 36 v/\W.ownsRow w.heap.size 9 1 v pre.length (pre.map Value.string)/\True)/\Below w.heap.size w W)
  (fun _ _ _=>False)
  (OwnFrom.and (Own.from (holdsRow_own w.heap.size w.heap.size 36 9 1 (fun pre:List Bj=>pre.length) (fun pre=>pre.map Value.string) (fun _ _=>True)) _) (ownFrom_below (Zg _) (by simp <;> omega)))
  (fun _ _ _ _ _ hs _ _=>hs)
  ⟨⟨_,bO,World.ownsRow_nil _ _ _ _,trivial⟩,hB0⟩
  (fun x=>{ tmps := #[.slice none 0 0,.func (.func 299) #[] #[Pj Bs],Pj w.heap.size,undef,.slice none 0 0,.string x,.func (.func 299) #[] #[Pj Bs],.string x,undef,undef,undef,undef,undef],defers := [] }) ?assign ?body ?done ?stop
 case assign =>
  intro l x W K hK
  gi_wp2
  exact hK
 case body =>
  rintro l pre x W ⟨⟨v,hv,hrow,_⟩,hB⟩ hlt;have hc:=hv.cell
  gi_wp2_with (gi_at_builtin;refine wpListIn_append_own _ rfl _ _ 36 rfl w.heap.size 9 i0 (.string ⟨#[]⟩) 1 16 Tryz.underlying36 hi hz0 hz1 hz2 rfl (by decide) _ _ _ rfl (hrow.alloc _) ⟨W.heap.size,0,none⟩ 1 1 [.string x] rfl rfl (cell_one_new _ _ _) (by simp[Value.oneCell']) Om Om (by have:=hB.size;simp;omega) ?_;intro v' w1 hown' hgrow _;obtain⟨g',cap',rfl⟩:=ownsRow_succ hown';obtain⟨hv1,hv2,hr2,hk2,hb2⟩:=hv.appended (by decide) hrow hB.size (Zg _) hown' hgrow;have hc1:=hv1.cell;have hf1:=hv1.frozen)
  exact⟨hk2.from _,hb2,⟨_,hv2,Su hr2,trivial⟩,hB.trans hb2⟩
 case done =>
  rintro D ys W hD rfl ⟨⟨v,hv,hrow,_⟩,hB⟩ hK;have hc:=hv.cell
  gi_wp2
  refine⟨by simp,.inl ⟨_,_,rfl,run_takeDeferred hK,?_⟩⟩;exact⟨_,results_tmp rfl _ _ _,v,rfl,ownsRow_putObj hrow _ hK rfl,hB.trans (belowK_b (w:=w) (Zg _) W D _ _ (by simp at hD;omega) hK rfl rfl)⟩
 case stop =>
  rintro D c pre W _ _ h _;exact h.elim
end Go.Proofs.YtpdonaienhociaaGreatDoor
namespace Go.Proofs.YtpdonaienhociaaGreatDoor
open Go.Se Go.RowKit Go.Shelf Go.Maps Go.Sort
theorem Qhn (l:List Bj):l.flatMap Qab=(l.map fun x=>x.data.toList).map encStr:=by
 rw[show Qab=fun x => [Value.string x] from rfl,Qe8,Zy];rfl
theorem Q4z (l:List Bj):((l.map fun x=>x.data.toList).mergeSort fun x y=>decide (x<=y)).map encStr=(Xi l).flatMap Qab:=by
 have hz:((l.map fun x=>x.data.toList).mergeSort fun x y=>decide (x<=y)).map (fun x=>(⟨x.toArray⟩:Bj))=Xi l:=by
  apply Qct
  . have h1:=Zbs (l.map fun x=>x.data.toList) fun x y=>decide (x<=y)
    have h2:=h1.map (fun x=>(⟨x.toArray⟩:Bj));simpa [Zy,Function.comp_def] using h2
  . unfold Srt;rw[Z7];have:=Za8 (le:=fun x y:List UInt8=>decide (x<=y)) (fun a b c h1 h2=>by simp only[decide_eq_true_eq] at *;exact List.le_trans h1 h2) (fun a b=>by simp only[Zbi,decide_eq_true_eq];exact List.le_total a b) (l.map fun x=>x.data.toList);refine this.imp fun {a b} h => ?_
    simp only[decide_eq_true_eq] at h;unfold bLt;rw[ByteArray.toList_eq,ByteArray.toList_eq,bytesLess_eq];simpa using h
 rw[<- hz,show Qab=fun x => [Value.string x] from rfl,Qe8,Zy];rfl
theorem Q4x (l:List Bj) (A:Option Addr) (c base:Nat) (w:World) (hown:Own Qab 1 9 base w A c l) (hl:l.length<1000000) :
 Cal Tryz.prog 94 [.slice A l.length c] w fun r w'=>r = .tuple #[]/\Own Qab 1 9 base w' A c (Xi l)/\∀ w0,Ext w0 w->w0.heap.size<=base->Ext w0 w':=by
 by_cases h0:l = []
 . subst h0;refine Qa9 ⟨_,Tryz.func94,rfl,rfl⟩ (AnyM.slices_Sort_string_none Tryz.sort94 A c w) ?_;rintro w' rfl;rw[Qf5];exact⟨rfl,hown,fun w0 h _=>h⟩
 . have hpos:0<l.length:=Zac.2 h0;rcases hown.2 with⟨_,h1⟩ | ⟨g,cap,cur,hv,hb,hg,hc1,hc2,hc3,hc4⟩
   . omega
   injection hv with hA _ hcc;subst hA;subst hcc;have hsl:(l.map fun x=>x.data.toList).length=l.length:=Zf _;have hH:Holds encStr w g 0 (l.map fun x=>x.data.toList).toArray:=holds_of_block hg (by rw[hsl,<- Qhn,<- hc4,Zbh]);have hcall:=AnyM.slices_Sort_string Tryz.sort94 g 0 c (l.map fun x=>x.data.toList) w hH (lt_of_block hg) (by rw[hsl];omega);rw[hsl] at hcall;refine Qa9 ⟨_,Tryz.func94,rfl,rfl⟩ hcall ?_;rintro w' ⟨n,os,rfl⟩;refine⟨rfl,?_,fun w0 hx hb0 => ?_⟩
   . have hrow:=ownsRow_sorted (w:=w) (n:=n) (os:=os) (ss:=l.map fun x=>x.data.toList) (ts:=(l.map fun x=>x.data.toList).mergeSort fun x y=>decide (x<=y)) (by simp) hb hg (by rw[hsl];exact hc1) hc2 hc3;rw[hsl,Q4z] at hrow;obtain⟨A',c',he,ho⟩:=Qcq (enc:=Qab) (l:=Xi l) hrow (Qcf l).symm rfl;injection he with e1 _ e3;rw[e1,e3];exact ho
   . have hg2:=grownBy_sorted (w:=w) (g:=g) (n:=n) (os:=os) ((l.map fun x=>x.data.toList).mergeSort fun x y=>decide (x<=y)).toArray;exact Qu hx hg2 fun k hk=>by cases hk;omega
theorem Ql5 (A:Option Addr) (n c:Nat) (w:World):Cal Tryz.prog 222 [.slice A n c] w fun r w'=>∃ b,r = .func (.func 299) #[] #[Pj b]/\At w' b 36 [.slice A n c]/\Ext w w':=by
 refine Fi Tryz.func222 rfl _ rfl rfl (Hh ?_);intro b1 w1 hn1;refine Hh ?_;exact⟨b1,rfl,hn1.At,hn1.ext⟩
theorem Qrw (w:World) (b:Nat) (A:Option Addr) (c:Nat) (l:List Bj) (hb:At w b 36 [.slice A l.length c]) (hs:SlT w A l) (hA:∀ a,A=some a->a.block<w.heap.size/\a.spot=none) (hl:l.length<1000000) :
 Cal Tryz.prog 93 [.func (.func 299) #[] #[Pj b]] w fun r w'=>∃ A' c',r = .slice A' l.length c'/\Own Qab 1 9 w.heap.size w' A' c' l/\Ext w w':=by
 refine Fi Tryz.func93 rfl _ rfl rfl (Hh ?_);refine Cal.mono (R:=fun r w'=>∃ A' c',r = .slice A' l.length c'/\Own Qab 1 9 w.heap.size w' A' c' l/\Ext w w') ⟨⟨_,Tryz.func166,rfl,rfl⟩,(callsIn_wide.1 (appendSeq_in Fence.wide 5 trivial trivial rfl Om b A c l (by unfold maxLen;omega) Om w hb.lt hb.one0 hs hA)).mono ?_⟩ ?_
 . rintro e w' ⟨v,rfl,hrow,hbl⟩;obtain⟨A',c',rfl,ho⟩:=Qcq (enc:=Qab) (l:=l) hrow rfl (by rw[show Qab=fun x => [Value.string x] from rfl,Qe8]);exact⟨_,rfl,A',c',rfl,ho,hbl⟩
 . rintro _ w1 ⟨A',c',rfl,h1,h2⟩;refine Hh ?_;exact⟨A',c',rfl,h1,h2⟩
theorem Ql1 (w:World) (b:Nat) (A:Option Addr) (c:Nat) (l:List Bj) (hb:At w b 36 [.slice A l.length c]) (hs:SlT w A l) (hA:∀ a,A=some a->a.block<w.heap.size/\a.spot=none) (hl:l.length<1000000) :
 Cal Tryz.prog 38 [.func (.func 299) #[] #[Pj b]] w fun r w'=>∃ A' c',r = .slice A' l.length c'/\Own Qab 1 9 w.heap.size w' A' c' (Xi l)/\Ext w w':=by
 refine Fi Tryz.func38 rfl _ rfl rfl (Hh ?_);refine(Qrw w b A c l hb hs hA hl).mono ?_;rintro _ w1 ⟨A',c',rfl,h1,h2⟩;refine Hh ?_;refine(Q4x l A' c' w.heap.size w1 h1 hl).mono ?_;rintro _ w2 ⟨rfl,h3,h4⟩;refine Hh ?_;exact⟨A',c',rfl,h3,h4 w h2 (Zg _)⟩
theorem Qrx {zs:List (List UInt8)} (h:zs.Nodup):Lib.compact zs=zs:=by
 refine Lib.compact_all zs fun j hj => ?_
 unfold Lib.keeps;rw[decide_eq_true_eq]
 by_cases h0:j=0
 . exact .inl h0
 . right
   rw[getElem!_pos zs.toArray j (Su hj),getElem!_pos zs.toArray (j-1) (by simp;omega)];simp only[List.getElem_toArray];intro he;have:=(List.getElem_inj h).1 he;omega
theorem Qxi {l:List Bj} (h:l.Nodup):(l.map fun x=>x.data.toList).Nodup:=by
 rw[Zae] at h ⊢;rw[Z7];refine h.imp fun hab e=>hab ?_
 rename_i a b;have:=congrArg List.toArray e;simp at this;cases a;cases b;simpa using this
theorem Q2x (l:List Bj) (hn:l.Nodup) (A:Option Addr) (c base:Nat) (w:World) (hown:Own Qab 1 9 base w A c l) (hl:l.length<1000000) :
 Cal Tryz.prog 221 [.slice A l.length c] w fun r w'=>r = .slice A l.length c/\Own Qab 1 9 base w' A c l/\∀ w0,Ext w0 w->w0.heap.size<=base->Ext w0 w':=by
 by_cases h0:l = []
 . subst h0;refine Qa9 ⟨_,Tryz.func221,rfl,rfl⟩ (Tryz.slices_Compact_string_empty A c w) ?_;rintro w' rfl;exact⟨rfl,hown,fun w0 h _=>h⟩
 . have hpos:0<l.length:=Zac.2 h0;rcases hown.2 with⟨_,h1⟩ | ⟨g,cap,cur,hv,hb,hg,hc1,hc2,hc3,hc4⟩
   . omega
   injection hv with hA _ hcc;subst hA;subst hcc;have hsl:(l.map fun x=>x.data.toList).length=l.length:=Zf _;have hH:Holds encStr w g 0 (l.map fun x=>x.data.toList).toArray:=holds_of_block hg (by rw[hsl,<- Qhn,<- hc4,Zbh]);have hcall:=Tryz.slices_Compact_string g 0 c (l.map fun x=>x.data.toList) w hH (by rw[hsl];omega) (by rw[hsl];exact hc1);rw[Qrx (Qxi hn),hsl,Nat.sub_self,List.replicate_zero,Zw] at hcall;refine Qa9 ⟨_,Tryz.func221,rfl,rfl⟩ hcall ?_;rintro w' ⟨q,rfl⟩;have hgr:putRow encStr (Sort.ahead w q) g 0 (l.map fun x=>x.data.toList).toArray=grow (putRow encStr (Sort.ahead w q) g 0 (l.map fun x=>x.data.toList).toArray) #[]:=by rw[grow_empty]
   rw[hgr];refine⟨rfl,?_,fun w0 hx hb0 => ?_⟩
   . have hrow:=ownsRow_sorted (w:=w) (n:=q) (os := #[]) (ss:=l.map fun x=>x.data.toList) (ts:=l.map fun x=>x.data.toList) rfl hb hg (by rw[hsl];exact hc1) hc2 hc3;rw[hsl,<- Qhn] at hrow;obtain⟨A',c',he,ho⟩:=Qcq (enc:=Qab) (l:=l) hrow rfl rfl;cases he;exact ho
   . have hg2:=grownBy_sorted (w:=w) (g:=g) (n:=q) (os := #[]) (l.map fun x=>x.data.toList).toArray;exact Qu hx hg2 fun k hk=>by cases hk;omega
theorem Q4y (l:List Bj):Xi (Qcc l)=Qcc l:=(Qct (Za1 _) (Qf6 _)).symm
end Go.Proofs.YtpdonaienhociaaGreatDoor
namespace Go.Proofs.YtpdonaienhociaaGreatDoor
open Go.Se Go.RowKit
theorem Qz2:Tryz.prog.underlying 153=some (.map 9 3):=by kernel_rfl
theorem Qw1:Tryz.prog.underlying 393=some (.map 9 153):=by kernel_rfl
theorem Qk6 {w:World} {b:Nat} {m:List (Bj×Int)} (h:MapAt w b Value.string (Xj vi m)) (a:Bj) {cl:Cl} (hk:Kept cl w b):RdS Tryz.prog cl w (Instr.lookup 153 (.map (some b)) (.string a) false) (vi ((Qe m a).getD 0)):=by
 have:=Xz Qz2 (Qo Xb) (e:=ty3) ty3_ok (cl:=cl) hk h a;rw[show (Qe (Xj vi m) a).getD ty3.zero=vi ((Qe m a).getD 0) from Xo vi _ _ 0] at this;exact this
theorem Qy5 (w:World) (S:Nat->Prop) (t:Nat) (sg:List (Bj×Int)) (ct:Qw9) (b1 b2:Nat) (h:Q56 w S t sg ct b1 b2) (a:Bj) (hN:0<=(Qe sg a).getD 0/\(Qe sg a).getD 0<1000000000) :
 Cal Tryz.prog 286 [Pj t,.string a,Vj 1] w fun r w'=>r = .tuple #[]/\Q56 w' S t (Xc sg a ((Qe sg a).getD 0+1)) ct b1 b2/\Mod S w w':=by
 refine Fi Tryz.func286 rfl _ rfl rfl (Hh ?_);refine⟨.map (some b1),h.head.one rfl,Hh ?_⟩;refine⟨_,Qk6 h.sg a Qp,Hh ?_⟩;refine⟨(Qe sg a).getD 0+1,wrap_eq rfl ⟨Om,Om⟩,Hh ?_⟩;refine Qx Qz2 (Qo Xb) h.sg a (vi ((Qe sg a).getD 0+1)) fun w2 hm2 ho2 => ?_
 rw[Xa] at hm2;have hbt:b1≠t:=h.mine.2.2;have hh2:=ho2.at_ h.head (Ne.symm hbt);refine Hh ?_;refine⟨.map (some b1),hh2.one rfl,Hh ?_⟩;refine⟨_,Qk6 hm2 a Qp,?_⟩;rw[Q9];refine Hh ?_;constructor
 . intro hc;exfalso;simp at hc;omega
 intro _;refine Hh ?_;exact⟨rfl,⟨h.mine,hh2,hm2,h.ct.keep Qaz fun k hk hs=>⟨ho2.block k hs.2.2,hs⟩⟩,Qj ho2 h.mine.2.1⟩
theorem Xcl {κ:Type} {enc:κ->Value} {P:Program} {w:World} {b:Nat} {L:List (κ×Value)} {mt kt et:TypeId} (ht:P.underlying mt=some (.map kt et)) (hm:MapAt w b enc L):RdS P .same w (Builtin.len_ #[mt] 0 #[.map (some b)]) (Vj (L.length:Int)):=Q8e ht Qp hm
theorem Q82 (w:World) (S:Nat->Prop) (t:Nat) (sg:List (Bj×Int)) (ct:Qw9) (b1 b2:Nat) (h:Q56 w S t sg ct b1 b2) (a x:Bj) (hN:0<=(Qe ((Qe ct a).getD []) x).getD 0/\(Qe ((Qe ct a).getD []) x).getD 0<1000000000) :
 Cal Tryz.prog 287 [Pj t,.string a,.string x,Vj 1] w fun r w'=>r = .tuple #[]/\Q56 w' (Grow S w) t sg (Xc ct a (Xc ((Qe ct a).getD []) x ((Qe ((Qe ct a).getD []) x).getD 0+1))) b1 b2/\Mod S w w':=by
 have htlt:=h.head.lt;have hb1lt:=h.sg.lt;refine Fi Tryz.func287 rfl _ rfl rfl (Hh ?_)
 refine Xl Qb (ι:=Qw9) (fun _ => [(0,Pj t),(1,.string a),(2,.string x),(3,Vj 1)])
  (fun s1 w'=>(∃ m1,Qe s1 a=some m1/\m1=(Qe ct a).getD [])/\(∀ v,Xc s1 a v=Xc ct a v)/\MapOf Value.string Xe1 w' (fun k=>Grow S w k/\k≠t/\k≠b1) b2 s1/\At w' t 395 [.map (some b1),.map (some b2)]/\MapAt w' b1 Value.string (Xj vi sg)/\Mod S w w') ?_ ?_
 . (conv=>whnf)
   refine⟨.map (some b2),h.head.one rfl,Hh ?_⟩;rcases h.ct.look Qaz Qw1 (Qo Xb) (e:=ty153) ty153_ok rfl a with⟨hno,hrd⟩ | ⟨b,v,Sk,hsome,hrd,hIv,hSk,_⟩
   . refine⟨_,hrd .same Qp,Hh ?_⟩;refine⟨_,Qau Qz2 none _ _,Hh ?_⟩;constructor
     . intro _;refine Hh ?_;refine⟨.map (some b2),h.head.one rfl,Hh ?_⟩;intro b3 w1 hn1;refine Hh ?_;have e1:=hn1.block;refine h.ct.insert Qaz Qw1 (Qo Xb) a hno hn1.ext (v := []) ⟨Om,MapAt.new hn1⟩ fun w2 hm2 ho2 => ?_
       refine Hh ?_;have hbp:=h.ct.lt.2.2;refine⟨Xc ct a [],⟨⟨[],Q9 _ _ _,by rw[hno];rfl⟩,fun v=>Qdf a [] v ct,?_,?_,?_,?_⟩,Rr⟩
       . refine hm2.keep Qaz fun k _ hk2=>⟨rfl,?_⟩
         rcases hk2 with hk2 | hk2
         . exact⟨.inl hk2.1,hk2.2⟩
         . exact⟨.inr hk2,Om,Om⟩
       . exact ho2.at_ (h.head.ext hn1.ext) (Ne.symm hbp.1)
       . exact(h.sg.ext hn1.ext).only ho2 (Ne.symm hbp.2)
       . exact(Mod.of_ext hn1.ext).trans (Qj ho2 h.ct.lt.2.1)
     . intro q;cases q
   . refine⟨_,hrd .same Qp,Hh ?_⟩;refine⟨_,Qau Qz2 (some b) _ _,Hh ?_⟩;constructor
     . intro q;cases q
     . intro _;refine Hh ?_;refine⟨ct,⟨⟨v,hsome,by rw[hsome];rfl⟩,fun v=>rfl,h.ct.keep Qaz fun k _ hk2=>⟨rfl,.inl hk2.1,hk2.2⟩,h.head,h.sg,Mod.refl _ _⟩,Rr⟩
 rintro s1 w1 ⟨⟨m1,hm1,hm1e⟩,hset,hs1,hp1,hsg1,hmod1⟩;refine Hh ?_;refine⟨.map (some b2),hp1.one rfl,Hh ?_⟩;rcases hs1.look Qaz Qw1 (Qo Xb) (e:=ty153) ty153_ok rfl a with⟨hno,hrd⟩ | ⟨b,v,Sk,hsome,hrd,hIv,hSk,hback⟩
 . rw[hm1] at hno;cases hno
 obtain rfl:m1=v:=by rw[hm1] at hsome;simpa using hsome
 rw[<- hm1e] at hN ⊢;refine⟨_,hrd .same Qp,Gg ?_⟩;refine⟨_,Qk6 hIv.2 x Qp,Hh ?_⟩;refine⟨(Qe m1 x).getD 0+1,wrap_eq rfl ⟨Om,Om⟩,Hh ?_⟩;refine Qx Qz2 (Qo Xb) hIv.2 x (vi ((Qe m1 x).getD 0+1)) fun w2 hm2 ho2 => ?_
 rw[Xa] at hm2;refine Hh ?_;refine⟨_,Qk6 hm2 x Qp,?_⟩;rw[Q9];refine Hh ?_;constructor
 . intro hc;exfalso;simp at hc;omega
 intro _;refine Hh ?_;refine⟨_,Xcl Qz2 hm2,?_⟩
 have hne:0<(Xj vi (Xc m1 x ((Qe m1 x).getD 0+1))).length:=by
  have:Qe (Xc m1 x ((Qe m1 x).getD 0+1)) x=some ((Qe m1 x).getD 0+1):=Q9 _ _ _
  cases hq:Xc m1 x ((Qe m1 x).getD 0+1) with
  | nil=>rw[hq] at this;cases this
  | cons y l=>simp[Xj]
 generalize (Xj vi (Xc m1 x ((Qe m1 x).getD 0+1))).length=n at hne ⊢;refine Hh ?_;constructor
 . intro hc;exfalso;simp at hc;omega
 intro _;refine Hh ?_;have hbS:=hSk b hIv.1;have hfin:=hback w2 (Xc m1 x ((Qe m1 x).getD 0+1)) ⟨.inl hIv.1,hm2⟩ (Qj ho2 hIv.1);rw[hset] at hfin;have hp1lt:=hp1.lt;have hs1lt:=hsg1.lt;refine⟨rfl,⟨⟨.inl h.mine.1,.inl h.mine.2.1,h.mine.2.2⟩,ho2.at_ hp1 (fun q=>hbS.1.2.1 q.symm),hsg1.only ho2 (fun q=>hbS.1.2.2 q.symm),?_⟩,Qn hmod1 (Qj ho2 hbS.1.1)⟩;refine hfin.keep Qaz fun k _ hk2=>⟨rfl,?_⟩
 rcases hk2 with hk2 | hk2
 . exact hk2
 . exact⟨.inr (by have:=hmod1.size;omega),Om,Om⟩
theorem Qy4 (Ss:List Sn) (s:Sn) (a:Bj):(Qa0 (Ss ++ [s]) a:Int)=Qa0 Ss a+if a∈s.items then 1 else 0:=by
 unfold Qa0 hasB;rw[Zq,Zo]
 by_cases h:a∈s.items <;> simp[h]
theorem Q81 (Ss:List Sn) (s:Sn) (a b:Bj):(Qdt (Ss ++ [s]) a b:Int)=Qdt Ss a b+if a∈s.items/\b∈s.items then 1 else 0:=by
 unfold Qdt hasB;rw[Zq,Zo]
 by_cases h:a∈s.items <;> by_cases h2:b∈s.items <;> simp[h,h2]
theorem Qjt {l:List Bj} {k:Nat} (hk:k<l.length) (x:Bj):x∈l.take (k+1)↔x∈l.take k\/x=l[k]:=by
 rw[Za hk,Zj,Zk]
theorem Qlo {l:List Bj} (hn:l.Nodup) {k:Nat} (hk:k<l.length):l[k]∉l.take k:=by
 intro h;obtain⟨i,hi,he⟩:=Za2 h;rw[Zn] at hi;rw[List.getElem_take] at he;have:=(List.getElem_inj hn).1 he;omega
theorem grow_grow {S:Nat->Prop} {w w1:World} (h:w.heap.size<=w1.heap.size) (k:Nat) (hk:Grow (Grow S w) w1 k):Grow S w k:=by
 rcases hk with hk | hk
 . exact hk
 . exact .inr Om
theorem Qu7 {m:List (Bj×Int)} (a x:Bj) (n:Int):(Qe (Xc m a n) x).getD 0=if x=a then n else(Qe m x).getD 0:=by
 rw[Xn];split <;> simp
theorem Q3f {ct:Qw9} (a b x y:Bj) (n:Int):(Qe ((Qe (Xc ct a (Xc ((Qe ct a).getD []) b n)) x).getD []) y).getD 0=if x=a/\y=b then n else(Qe ((Qe ct x).getD []) y).getD 0:=by
 rw[Xn]
 by_cases h:x=a
 . rw[if_pos h];simp only[Zaj];rw[Qu7,h]
   by_cases h2:y=b <;> simp[h2]
 . rw[if_neg h,if_neg (fun hc=>h hc.1)]
set_option maxHeartbeats 1000000 in
theorem Q59 (w:World) (S:Nat->Prop) (t:Nat) (Ss:List Sn) (h:TabAt w S t Ss) (hlen:Ss.length<1000000) (s:Sn) (hn:s.items.Nodup) (hl:s.items.length<1000000) (A:Option Addr) (c:Nat) (hs:SlT w A s.items) (hA:∀ a,A=some a->¬ S a.block/\a.block<w.heap.size) :
 Cal Tryz.prog 334 [Pj t,.slice A s.items.length c,Vj 1] w fun r w'=>r = .tuple #[]/\TabAt w' (Grow S w) t (Ss ++ [s])/\Mod S w w':=by
 obtain⟨sg,ct,b1,b2,hL,hI⟩:=h;have hsgb:∀ a,0<=(Qe sg a).getD 0/\(Qe sg a).getD 0<1000000:=fun a=>by rw[hI.sg a];have:=Qhk Ss a;omega
 have hctb:∀ a b,0<=(Qe ((Qe ct a).getD []) b).getD 0/\(Qe ((Qe ct a).getD []) b).getD 0<1000000:=fun a b=>(by rw[hI.ct a b];have:=Qys Ss a b;split <;> omega)
 have hsx:∀ {w':World},Mod S w w'->SlT w' A s.items:=fun hm=>Qa8 hs fun a ha=>hm.block a.block (hA a ha).2 (hA a ha).1
 have hfin:∀ (sg':List (Bj×Int)) (ct':Qw9),(∀ a,(Qe sg' a).getD 0=(Qe sg a).getD 0+if a∈s.items then 1 else 0)->(∀ a b,(Qe ((Qe ct' a).getD []) b).getD 0=(Qe ((Qe ct a).getD []) b).getD 0+if a∈s.items/\b∈s.items/\a≠b then 1 else 0)->Q5t sg' ct'->TabIs sg' ct' (Ss ++ [s]):=by
  intro sg' ct' h1 h2 h3;refine⟨h3,fun a=>by rw[h1,hI.sg,Qy4],fun a b => ?_⟩;rw[h2,hI.ct,Q81]
  by_cases hab:a=b
  . rw[if_pos hab,if_pos hab,if_neg (fun hc=>hc.2.2 hab)];rfl
  . rw[if_neg hab,if_neg hab];simp[hab]
 generalize s.items=l at *;refine Fi Tryz.func334 rfl _ rfl rfl (Hh ?_)
 refine Qh Qb (fun(q:Nat×List (Bj×Int)×Qw9) w'=>q.1<=l.length/\Q56 w' (Grow S w) t q.2.1 q.2.2 b1 b2/\(∀ a,(Qe q.2.1 a).getD 0=(Qe sg a).getD 0+if a∈l.take q.1 then 1 else 0)/\(∀ a b,(Qe ((Qe q.2.2 a).getD []) b).getD 0=(Qe ((Qe ct a).getD []) b).getD 0+if a∈l.take q.1/\b∈l/\a≠b then 1 else 0)/\Q5t q.2.1 q.2.2/\Mod S w w')
  (fun | (k,_,_) => [(0,Pj t),(1,.slice A l.length c),(2,Vj 1),(10,.slice A l.length c),(11,Vj l.length),(12,Vj k)]) (fun q=>l.length-q.1) (0,sg,ct) ⟨by simp,hL.keep fun k _ hk=>⟨rfl,.inl hk⟩,by simp,by simp,hI.pos,Mod.refl _ _⟩ Rr ?_
 clear hL;rintro ⟨k,sg1,ct1⟩ w1 ⟨hk,hL1,hsg1,hct1,hP1,hM1⟩;simp only at hk hL1 hsg1 hct1 hP1;refine Hh ?_;constructor
 . intro hlt;have hlt:k<l.length:=Su hlt;obtain⟨a,hAa,hc⟩:=(hsx hM1).get hlt;subst hAa;have hmk:=fun x=>Qjt hlt x
   have hnk:=Qlo hn hlt;have hmem:l[k]∈l:=Zx hlt;generalize l[k]=y at hc hmk hnk hmem;refine Hh ?_;refine⟨a,Ix,Hh ?_⟩;refine⟨.string y,Qs hc,Hh ?_⟩;refine(Qy5 w1 _ t sg1 ct1 b1 b2 hL1 y (by rw[hsg1];have:=hsgb y;split <;> omega)).mono ?_;rintro _ w2 ⟨rfl,hL2,hM2⟩;have hM2:Mod S w w2:=Qn hM1 hM2
   have hsg2:∀ x,(Qe (Xc sg1 y ((Qe sg1 y).getD 0+1)) x).getD 0=(Qe sg x).getD 0+if x∈l.take (k+1) then 1 else 0:=by
    intro x;rw[Qu7]
    by_cases hx:x=y
    . subst hx;rw[if_pos rfl,hsg1,if_neg hnk,if_pos ((hmk _).2 (.inr rfl))];omega
    . rw[if_neg hx,hsg1];have:x∈l.take (k+1)↔x∈l.take k:=(hmk x).trans ⟨fun h=>h.resolve_right hx,.inl⟩
      by_cases hxk:x∈l.take k
      . rw[if_pos hxk,if_pos (this.2 hxk)]
      . rw[if_neg hxk,if_neg (fun h=>hxk (this.1 h))]
   have hP2:Q5t (Xc sg1 y ((Qe sg1 y).getD 0+1)) ct1:=hP1.sg_set (by rw[hsg1];have:=hsgb y;split <;> omega);generalize Xc sg1 y ((Qe sg1 y).getD 0+1)=sg2 at hL2 hsg2 hP2;clear hsg1;refine Hh ?_
   refine Qh Qb (fun(q:Nat×Qw9) w'=>q.1<=l.length/\Q56 w' (Grow S w) t sg2 q.2 b1 b2/\(∀ a b,(Qe ((Qe q.2 a).getD []) b).getD 0=(Qe ((Qe ct a).getD []) b).getD 0+if(a∈l.take k/\b∈l\/a=y/\b∈l.take q.1)/\a≠b then 1 else 0)/\Q5t sg2 q.2/\Mod S w w')
    (fun | (j,_) => [(0,Pj t),(1,.slice (some a) l.length c),(2,Vj 1),(10,.slice (some a) l.length c),(11,Vj l.length),(12,Vj k),(7,.string y),(20,.slice (some a) l.length c),(21,Vj l.length),(22,Vj j)]) (fun q=>l.length-q.1) (0,ct1) ⟨by simp,hL2,fun x z=>by rw[hct1];simp[and_assoc],hP2,hM2⟩ Rr ?_
   clear hL2 hM2 hct1 hL1 hM1 hP1 hP2;rintro ⟨j,ct3⟩ w3 ⟨hj,hL3,hct3,hP3,hM3⟩;simp only at hj hL3 hct3 hP3;refine Hh ?_;constructor
   . intro hlt2;have hlt2:j<l.length:=Su hlt2;obtain⟨a2,hAa2,hc2⟩:=(hsx hM3).get hlt2;have hmj:=fun x=>Qjt hlt2 x
     have hnj:=Qlo hn hlt2;obtain rfl:a=a2:=Su hAa2;generalize l[j]=z at hc2 hmj hnj;refine Gg ?_;refine⟨a,Ix,Hh ?_⟩;refine⟨.string z,Qs hc2,Hh ?_⟩;constructor
     . intro hyz;have hyz:y≠z:=Su hyz;refine Hh ?_;refine(Q82 w3 _ t sg2 ct3 b1 b2 hL3 y z (by rw[hct3];have:=hctb y z;split <;> omega)).mono ?_;rintro _ w4 ⟨rfl,hL4,hM4⟩;have hM4:Mod S w w4:=Qn hM3 hM4;have hL4:=hL4.keep (w1:=w4) (S':=Grow S w) fun k _ hk=>⟨rfl,grow_grow hM3.size k hk⟩
       have hct4:∀ x u,(Qe ((Qe (Xc ct3 y (Xc ((Qe ct3 y).getD []) z ((Qe ((Qe ct3 y).getD []) z).getD 0+1))) x).getD []) u).getD 0=(Qe ((Qe ct x).getD []) u).getD 0+if(x∈l.take k/\u∈l\/x=y/\u∈l.take (j+1))/\x≠u then 1 else 0:=by
        intro x u;rw[Q3f]
        by_cases hxu:x=y/\u=z
        . obtain⟨rfl,rfl⟩:=hxu
          rw[if_pos ⟨rfl,rfl⟩,hct3,if_neg (fun hc=>by
           rcases hc.1 with hc | hc
           . exact hnk hc.1
           . exact hnj hc.2),if_pos ⟨.inr ⟨rfl,(hmj _).2 (.inr rfl)⟩,hyz⟩]
          omega
        . rw[if_neg hxu,hct3]
          have:((x∈l.take k/\u∈l\/x=y/\u∈l.take (j+1))/\x≠u)↔((x∈l.take k/\u∈l\/x=y/\u∈l.take j)/\x≠u):=by
           rw[hmj u];constructor
           . rintro ⟨h1 | ⟨h1,h2 | h2⟩,h3⟩
             . exact⟨.inl h1,h3⟩
             . exact⟨.inr ⟨h1,h2⟩,h3⟩
             . exact absurd ⟨h1,h2⟩ hxu
           . rintro ⟨h1 | ⟨h1,h2⟩,h3⟩
             . exact⟨.inl h1,h3⟩
             . exact⟨.inr ⟨h1,.inl h2⟩,h3⟩
          by_cases hc:(x∈l.take k/\u∈l\/x=y/\u∈l.take j)/\x≠u
          . rw[if_pos hc,if_pos (this.2 hc)]
          . rw[if_neg hc,if_neg (fun h=>hc (this.1 h))]
       have hP4:Q5t sg2 (Xc ct3 y (Xc ((Qe ct3 y).getD []) z ((Qe ((Qe ct3 y).getD []) z).getD 0+1))):=hP3.ct_set (by rw[hct3];have:=hctb y z;split <;> omega);generalize Xc ct3 y (Xc ((Qe ct3 y).getD []) z ((Qe ((Qe ct3 y).getD []) z).getD 0+1))=ct4 at hL4 hct4 hP4;refine Hh ?_;refine⟨_,wrap_succ Om,Hh ?_⟩;exact⟨(j+1,ct4),Sj,⟨Sj,hL4,hct4,hP4,hM4⟩,Rr⟩
     . intro hyz;have hyz:y=z:=Su hyz;subst hyz;refine Hh ?_;refine⟨_,wrap_succ Om,Hh ?_⟩;refine⟨(j+1,ct3),Sj,⟨Sj,hL3,fun x u => ?_,hP3,hM3⟩,Rr⟩;simp only;rw[hct3]
       have:((x∈l.take k/\u∈l\/x=y/\u∈l.take (j+1))/\x≠u)↔((x∈l.take k/\u∈l\/x=y/\u∈l.take j)/\x≠u):=by
        rw[hmj u];constructor
        . rintro ⟨h1 | ⟨h1,h2 | h2⟩,h3⟩
          . exact⟨.inl h1,h3⟩
          . exact⟨.inr ⟨h1,h2⟩,h3⟩
          . exact absurd (h1.trans h2.symm) h3
        . rintro ⟨h1 | ⟨h1,h2⟩,h3⟩
          . exact⟨.inl h1,h3⟩
          . exact⟨.inr ⟨h1,.inl h2⟩,h3⟩
       by_cases hc:(x∈l.take k/\u∈l\/x=y/\u∈l.take j)/\x≠u
       . rw[if_pos hc,if_pos (this.2 hc)]
       . rw[if_neg hc,if_neg (fun h=>hc (this.1 h))]
   . intro hge2;have hge2:l.length<=j:=Su hge2;rw[Zb hge2] at hct3;refine Hh ?_;refine⟨_,wrap_succ Om,Hh ?_⟩;refine⟨(k+1,sg2,ct3),Sj,⟨Sj,hL3,hsg2,fun x u => ?_,hP3,hM3⟩,Rr⟩;simp only;rw[hct3]
     have:(x∈l.take (k+1)/\u∈l/\x≠u)↔((x∈l.take k/\u∈l\/x=y/\u∈l)/\x≠u):=by
      rw[hmk x];constructor
      . rintro ⟨h1 | h1,h2,h3⟩
        . exact⟨.inl ⟨h1,h2⟩,h3⟩
        . exact⟨.inr ⟨h1,h2⟩,h3⟩
      . rintro ⟨⟨h1,h2⟩ | ⟨h1,h2⟩,h3⟩
        . exact⟨.inl h1,h2,h3⟩
        . exact⟨.inr h1,h2,h3⟩
     by_cases hc:(x∈l.take k/\u∈l\/x=y/\u∈l)/\x≠u
     . rw[if_pos hc,if_pos (this.2 hc)]
     . rw[if_neg hc,if_neg (fun h=>hc (this.1 h))]
 . intro hge;have hge:l.length<=k:=Su hge;rw[Zb hge] at hsg1 hct1;refine Hh ?_;exact⟨rfl,⟨sg1,ct1,b1,b2,hL1,hfin sg1 ct1 hsg1 hct1 hP1⟩,hM1⟩
theorem Q6o (w:World) (p t:Nat) (hp:At w p 392 [Pj t,.bool false]) :
 Cal Tryz.prog 285 [Pj p] w fun r w'=>r = Pj t/\Ext w w':=by
 refine Fi Tryz.func285 rfl _ rfl rfl (Hh ?_)
 repeat(refine Sg ?_;(conv=>whnf))
 refine⟨_,hp.one rfl,Gg ?_⟩;refine⟨fun h=>(by cases h),fun _ => ?_⟩;refine Gg ?_;refine⟨_,hp.one rfl,Gg ?_⟩;exact⟨rfl,Ext.refl _⟩
theorem Qzu (w:World) (d:SnH) (q:Sn) (n0:Nat) (R:Nat->Prop) (hd:SnR w n0 R d q) (X:List Bj) (hit:q.items=Qcc X) (hl:q.items.length<1000000) :
 Cal Tryz.prog 335 [.agg (seC d).toArray] w fun r w'=>∃ A c,r = .slice A q.items.length c/\SlT w' A q.items/\(∀ a,A=some a->w.heap.size<=a.block/\a.block<w'.heap.size)/\Ext w w':=by
 obtain⟨_,_,_,h4,h5,h6,h7⟩:=hd;obtain⟨d1,d2,d3,dA,dn,dc⟩:=d;simp only at h4 h5 h6 h7;subst h4;have hs:Xi q.items=q.items:=by rw[hit,Q4y]
 have hnd:q.items.Nodup:=by rw[hit];exact Qcs X
 refine Fi Tryz.func335 rfl _ rfl rfl (Hh ?_);intro b1 w1 hn1;refine Gg ?_;have h1:At w1 b1 385 (seC (d1,d2,d3,dA,q.items.length,dc)):=hn1.At;refine⟨_,h1.one rfl,Gg ?_⟩;refine(Ql5 dA q.items.length dc w1).mono ?_;rintro _ w2 ⟨b2,rfl,h2,hx2⟩;refine Gg ?_;have hx:=hn1.ext.trans hx2;refine(Ql1 w2 b2 dA dc q.items h2 (h5.ext hx) (fun a ha=>⟨Zal (h6 a ha).2.1 hx.size,(h7 a ha).1⟩) hl).mono ?_;rintro _ w3 ⟨A3,c3,rfl,ho3,hx3⟩;rw[hs] at ho3;refine Gg ?_;refine(Q2x q.items hnd A3 c3 w2.heap.size w3 ho3 hl).mono ?_;rintro _ w4 ⟨rfl,ho4,hx4⟩;refine Gg ?_;have hxf:Ext w w4:=hx4 w (hx.trans hx3) hx.size;exact⟨A3,c3,rfl,ho4.sl Qw,fun a ha=>⟨Zv hx.size (ho4.block ha).1,(ho4.block ha).2⟩,hxf⟩
theorem Q8z (w:World) (p t:Nat) (S:Nat->Prop) (Ss:List Sn) (hp:At w p 392 [Pj t,.bool false]) (hT:TabAt w S t Ss) (hS:∀ k,S k->k≠p/\k<w.heap.size) (hlen:Ss.length<1000000) (d:SnH) (q:Sn) (n0:Nat) (R:Nat->Prop) (hd:SnR w n0 R d q) (X:List Bj) (hit:q.items=Qcc X) (hl:q.items.length<1000000) :
 Cal Tryz.prog 280 [Pj p,.agg (seC d).toArray] w fun r w'=>r = .tuple #[]/\At w' p 392 [Pj t,.bool false]/\TabAt w' (Grow S w) t (Ss ++ [q])/\Mod S w w':=by
 refine Fi Tryz.func280 rfl _ rfl rfl (Hh ?_);intro b1 w1 hn1;refine Hh ?_;have e1:=hn1.block;have h1:At w1 b1 385 (seC d):=hn1.At;refine Dr .ext [0,2,1] [3,4] (Hh ?_);refine⟨seC d,⟨rfl,h1.all⟩,Hh ?_⟩;have hxd:Ext w w1.drew:=hn1.ext.drew;refine(Q6o w1.drew p t (hp.ext hxd)).mono ?_;rintro _ w2 ⟨rfl,hx2⟩;refine⟨hx2,Hh ?_⟩;have hx02:=hxd.trans hx2;refine(Qzu w2 d q n0 R (hd.keep (fun k _ hk hr=>⟨hx02.block k hk,hr⟩) hx02.size) X hit hl).mono ?_;rintro _ w3 ⟨A3,c3,rfl,hs3,hA3,hx3⟩;have hx03:=hx02.trans hx3;refine Hh ?_;refine(Q59 w3 S t Ss (hT.ext hx03) hlen q (by rw[hit];exact Qcs X) hl A3 c3 hs3 (fun a ha=>⟨fun hk=>by have:=(hS _ hk).2;have:=(hA3 a ha).1;have:=hx02.size;omega,(hA3 a ha).2⟩)).mono ?_;rintro _ w4 ⟨rfl,hT4,hM4⟩;refine Hh ?_;refine⟨rfl,(hp.ext hx03).mod hM4 (fun hk=>(hS p hk).1 rfl),hT4.keep fun k _ hk=>⟨rfl,?_⟩,(Mod.of_ext hx03).trans hM4⟩;rcases hk with hk | hk
 . exact .inl hk
 . exact .inr (by have:=hx03.size;omega)
def Q55 (Q:List Sn):Prop:=∀ q∈Q,∃ X,q.items=Qcc X/\q.items.length<1000000
set_option maxHeartbeats 1000000 in
theorem Qvv (w:World) (A:Option Addr) (c:Nat) (T:List SnH) (Q:List Sn) (n0:Nat) (R:Nat->Prop) (hs:Sl seC 4 w A T) (hok:Qb1 w n0 R T Q) (hQ:Q55 Q) (hl:Q.length<1000000) :
 Cal Tryz.prog 203 [.slice A T.length c] w fun r w'=>∃ p t,r = Pj p/\w.heap.size<=p/\At w' p 392 [Pj t,.bool false]/\TabAt w' (fun k=>w.heap.size<=k/\k≠p/\k<w'.heap.size) t Q/\Ext w w':=by
 have hlen:=hok.len;refine Fi Tryz.func203 rfl _ rfl rfl (Hh ?_);refine Cal.mono (R:=fun r w'=>∃ p t b1 b2,r = Pj p/\w.heap.size<=p/\At w' p 392 [Pj t,.bool false]/\Q56 w' (fun k=>w.heap.size<=k/\k≠p/\k<w'.heap.size) t [] [] b1 b2/\Ext w w') ?_ ?_
 . refine Fi Tryz.func205 rfl _ rfl rfl (Hh ?_);refine Cal.mono (R:=fun r w'=>∃ t b1 b2,r = Pj t/\w.heap.size<=t/\w.heap.size<=b1/\w.heap.size<=b2/\b1≠t/\b2≠t/\b2≠b1/\At w' t 395 [.map (some b1),.map (some b2)]/\MapAt w' b1 Value.string []/\MapAt w' b2 Value.string []/\Ext w w') ?_ ?_
   . refine Fi Tryz.func283 rfl _ rfl rfl (Hh ?_);intro b1 w1 hn1;refine Hh ?_;intro b2 w2 hn2;refine Hh ?_;intro b3 w3 hn3;refine Hh ?_;have e1:=hn1.block;have e2:=hn2.block;have e3:=hn3.block;have s1:=hn1.size;have s2:=hn2.size;exact⟨b3,b1,b2,rfl,Om,Om,Om,Om,Om,Om,hn3.At,((MapAt.new hn1).ext hn2.ext).ext hn3.ext,(MapAt.new hn2).ext hn3.ext,(hn1.ext.trans hn2.ext).trans hn3.ext⟩
   . rintro _ w1 ⟨t,b1,b2,rfl,ht,hb1,hb2,h1t,h2t,h21,hat,hm1,hm2,hx1⟩;refine Hh ?_;intro b3 w3 hn3;refine Hh ?_;have e3:=hn3.block;have s3:=hn3.ext.size;have hx3:=hx1.trans hn3.ext;have hl1:=(hat.ext hn3.ext).lt;have hl2:=(hm1.ext hn3.ext).lt;have hl3:=(hm2.ext hn3.ext).lt;have hl4:=hat.lt;have hl5:=hm1.lt;have hl6:=hm2.lt;refine⟨b3,t,b1,b2,rfl,by have:=hx1.size;omega,hn3.At,⟨⟨⟨ht,Om,hl1⟩,⟨hb1,Om,hl2⟩,h1t⟩,hat.ext hn3.ext,hm1.ext hn3.ext,?_⟩,hx3⟩;exact⟨[],fun _=>none,⟨⟨hb2,Om,hl3⟩,h2t,h21⟩,hm2.ext hn3.ext,rfl,by simp⟩
 . rintro _ w1 ⟨p,t,b1,b2,rfl,hp,hpat,hTL,hx1⟩;have hT0:TabAt w1 (fun k=>w.heap.size<=k/\k≠p/\k<w1.heap.size) t []:=⟨[],[],b1,b2,hTL,⟨fun _ h=>(by cases h),fun _ h=>(by cases h)⟩,fun a=>by simp[Qe,Qa0],fun a b=>by simp[Qe,Qdt]⟩;clear hTL;refine Hh ?_
   refine Qh Qb (fun(k:Nat) w'=>k<=T.length/\Ext w w'/\At w' p 392 [Pj t,.bool false]/\TabAt w' (fun k=>w.heap.size<=k/\k≠p/\k<w'.heap.size) t (Q.take k))
    (fun k => [(3,Pj p),(7,.slice A T.length c),(8,Vj T.length),(9,Vj (k:Nat))]) (fun k=>T.length-k) 0 ⟨Zu _,hx1,hpat,hT0⟩ Rr ?_
   clear hx1 hpat hT0;rintro k w2 ⟨hk,hx2,hpat,hT2⟩;refine Hh ?_;constructor
   . intro hlt;have hlt:k<T.length:=Su hlt;obtain⟨a,hA,hc⟩:=(hs.ext hx2).get hlt;subst hA;have hd:=(hok.ext hx2).at_ k T[k] (Q[k]'Om) (Zd _) (Zd _);obtain⟨X,hX,hXl⟩:=hQ _ (Zx (show k<Q.length by omega));have htk:Q.take (k+1)=Q.take k ++ [Q[k]'Om]:=Za Om;have htl:(Q.take k).length<1000000:=by rw[Zn];omega
     generalize Q[k]'Om=q at hd hX hXl htk;generalize T[k]=d at hc hd;generalize Q.take k=Qk at htk hT2 htl;refine Hh ?_;refine⟨a,Ix,Hh ?_⟩;refine⟨seC d,⟨rfl,hc⟩,Hh ?_⟩;intro b3 w3 hn3;refine Hh ?_;refine Qc Qb (e:=ty385) rfl hn3.At rfl rfl rfl (Q9y d) fun w4 h4 ho4 => ?_
     have h4:At w4 b3 385 (seC d):=h4;have e3:=hn3.block;have hx24:Ext w2 w4:=ho4.ext hn3.ext Om;clear ho4;refine Hh ?_;refine⟨seC d,⟨rfl,h4.all⟩,Hh ?_⟩;have s2:=hx2.size;have s4:=hx24.size;refine(Q8z w4 p t (fun k=>w.heap.size<=k/\k≠p/\k<w2.heap.size) Qk (hpat.ext hx24) (hT2.ext hx24) (fun k hk=>⟨hk.2.1,Om⟩) htl d q n0 R (hd.keep (fun k _ hk hr=>⟨hx24.block k hk,hr⟩) hx24.size) X hX hXl).mono ?_;rintro _ w5 ⟨rfl,hp5,hT5,hM5⟩;have s5:=hM5.size;have hp4:=(hpat.ext hx24).lt;have hx5:Ext w w5:=(Qn (Mod.of_ext (S:=fun _=>False) (hx2.trans hx24)) (hM5.mono fun k _ hk => .inr hk.1)).ext fun _ _ h=>h
     refine Hh ?_;refine⟨_,wrap_succ Om,Hh ?_⟩;refine⟨k+1,Om,⟨Om,hx5,hp5,?_⟩,Rr⟩;rw[htk];refine hT5.keep fun k hk hs=>⟨rfl,?_⟩
     rcases hs with hs | hs
     . exact⟨hs.1,hs.2.1,hk⟩
     . exact⟨Om,Om,hk⟩
   . intro hge;have hge:T.length<=k:=Su hge;rw[Zb Om] at hT2;refine Hh ?_;exact⟨p,t,rfl,hp,hpat,hT2,hx2⟩
structure Xi2 (c:Cfg) (z:List Ev):Prop where
 ses:Xi1 (Q7d c.gap) (Qic (z.filter wpB))
 sets:Q55 (Qg0 c z)
 len:(Qg0 c z).length<1000
theorem Q7e (g:Int):0<=Q7d g/\Q7d g<=1099511627776:=by unfold Q7d;omega
set_option maxHeartbeats 1000000 in
theorem Qi2 {w:World} {T:Nat->Prop} {p:Nat} {c:Cfg} {z:List Ev} (h:WT w T p c z) (hok:Xi2 c z) :
 Cal Tryz.prog 141 [Pj p] w fun r w'=>∃ pp T',r = Pj pp/\WT w' T' p c z/\(∀ k,T' k->T k\/w.heap.size<=k)/\Mod T w w'/\w.heap.size<=pp/\¬ T' pp/\Qbu w' (fun k=>k=pp\/T' k) pp (Qg0 c z):=by
 obtain⟨v,T0,hQ,hT0,hTl,hPr⟩:=h;refine Fi Tryz.func141 rfl _ rfl rfl (Hh ?_)
 refine Xl Qb (ι:=Nat×Nat×Bool) (fun _ => [(0,Pj p)])
  (fun q w'=>∃ T1:Nat->Prop,WQ w' T0 p c z (Pj q.1)/\T1 q.1/\¬ T0 q.1/\At w' q.1 392 [Pj q.2.1,.bool q.2.2]/\TabAt w' (fun k=>T1 k/\k≠q.1/\¬ T0 k) q.2.1 (Qg0 c z)/\(∀ k,T0 k->T1 k)/\(∀ k,T1 k->k<w'.heap.size)/\(∀ k,T1 k->T k\/w.heap.size<=k)/\Mod T w w') ?_ ?_
 . obtain⟨col,q,A,n,cap,any,last,hL⟩:=hQ.at_;have hs:=hL.cts.ses;rw[(Qc0 c.width z).2.2] at hs;refine Hh ?_;refine⟨_,hL.head.one rfl,Hh ?_⟩;rcases hPr with rfl | ⟨o,t,sh,rfl,hTo,hTo0,hoat,hTab⟩
   . refine⟨_,Qcd Xgu _ _ _,Hh ?_⟩;constructor
     . intro _;refine Hh ?_;refine⟨_,hL.head.one rfl,Hh ?_⟩;refine(Q4s w _ q.ps _ _ hs (Q7e _) hok.ses).mono ?_;rintro _ w1 ⟨A1,c1,T1,rfl,hown1,hsn1,hx1⟩;refine Hh ?_;refine(Qvv w1 A1 c1 T1 (Qg0 c z) w.heap.size _ (hown1.sl Qhi) hsn1 hok.sets (by have:=hok.len;omega)).mono ?_;rintro _ w2 ⟨o,t,rfl,hog,hoat,hTab,hx2⟩;refine Hh ?_;have hx02:=hx1.trans hx2;have hL2:=hL.keep fun k hk=>hx02.block k hk
       refine Qc Qb (e:=ty95) rfl hL2.head rfl rfl rfl Oj fun w3 h3 ho3 => ?_
       have hL3:=hL2.set (v1 := Pj o) ho3 h3;have s1:=hx1.size;have s2:=hx2.size;have s3:=ho3.size;have hpl:=hL.head.lt;have hol:=hoat.lt;refine Hh ?_;refine⟨(o,t,false),⟨fun k=>T0 k\/(w.heap.size<=k/\k<w3.heap.size),⟨⟨col,q,A,n,cap,any,last,hL3⟩,hQ.may,hQ.rise,hQ.len⟩,.inr ⟨Om,Om⟩,fun hk=>by have:=hQ.lt _ hk;omega,(ho3.block o Om).trans hoat,hTab.keep fun k hk hs=>⟨ho3.block k Om,.inr ⟨Om,Om⟩,hs.2.1,fun hk0=>by have:=hQ.lt _ hk0;omega⟩,fun k hk => .inl hk,fun k hk => ?_,fun k hk => ?_,(Mod.of_ext hx02).trans (Qj ho3 (hT0 p hQ.tp))⟩,Rr⟩
       . rcases hk with hk | hk
         . have:=hQ.lt _ hk;omega
         . exact hk.2
       . rcases hk with hk | hk
         . exact .inl (hT0 k hk)
         . exact .inr hk.1
     . intro hh;cases hh
   . refine⟨_,Qcd Xgu _ _ _,Hh ?_⟩;constructor
     . intro hh;cases hh
     . intro _;refine Hh ?_;exact⟨(o,t,sh),⟨T,hQ,hTo,hTo0,hoat,hTab,hT0,hTl,fun k hk => .inl hk,Mod.refl _ _⟩,Rr⟩
 rintro ⟨o,t,sh⟩ w1 ⟨T1,hQ1,hTo,hTo0,hoat,hTab,hT01,hTl1,hTn,hM1⟩;simp only at hQ1 hTo hTo0 hoat hTab;have s1:=hM1.size;refine Hh ?_;refine(Qs2 w1).mono ?_;rintro _ w2 ⟨a,ta,c1,c2,rfl,hag,htag,haat,htaat,hn1,hn2,hx2⟩;refine Hh ?_;have hQ2:=hQ1.ext hx2;obtain⟨col,q,A,n,cap,any,last,hL⟩:=hQ2.at_;refine⟨_,hL.head.one rfl,Hh ?_⟩;have hol:=hTl1 o hTo;refine(Qym w2 a o ta t c1 c2 false sh Om haat htaat hn1 (hoat.ext hx2)).mono ?_;rintro _ w3 ⟨rfl,ha3,ho3,hM3⟩;refine Hh ?_
 have hTaw:∀ k,T1 k->k≠o->w3.heap[k]? = w1.heap[k]? := fun k hk hko=>by
  have hk1:=hTl1 k hk;have hs2:=hx2.size;refine(hM3.block k Om ?_).trans (hx2.block k hk1);rintro (e | e)
  . omega
  . exact hko e
 have hTab3:TabAt w3 (fun k=>T1 k/\k≠o/\¬ T0 k) t (Qg0 c z):=hTab.keep fun k _ hk=>⟨hTaw k hk.1 hk.2.1,hk⟩
 have s3:=hM3.size;have s2:=hx2.size;refine⟨a,T1,rfl,⟨_,T0,hQ1.keep fun k hk=>hTaw k (hT01 k hk) (fun e=>hTo0 (e ▸ hk)),hT01,fun k hk=>by have:=hTl1 k hk;omega,.inr ⟨o,t,true,rfl,hTo,hTo0,ho3,hTab3⟩⟩,hTn,?_,Om,fun hk=>by have:=hTl1 a hk;omega,t,true,ha3,hTab3.keep fun k _ hk=>⟨rfl,.inr hk.1,fun e=>by have:=hTl1 k hk.1;omega⟩,.inl rfl⟩;refine Qn hM1 ((Mod.of_ext hx2).trans (hM3.mono fun k _ hk => ?_));rcases hk with rfl | rfl
 . exact .inr Om
 . exact hTn _ hTo
theorem Qy3 {w:World} (a:Bj) {cl:Cl}:RdS Tryz.prog cl w (Instr.lookup 153 (.map none) (.string a) false) (vi 0):=fun w' _=>by
 obtain⟨z,hz,hz0⟩:∃ z,(zeroValue 3).run Tryz.prog w' = .ok z w'/\z=vi 0:=⟨_,Tryz.zeroValue3 w',rfl⟩;have:=Qmf Qz2 (Qo Xb) hz a false;rw[hz0] at this;exact this
theorem Qlq (w:World) (S:Nat->Prop) (p:Nat) (Ss:List Sn) (h:Qbu w S p Ss) (a:Bj) :
 Cal Tryz.prog 211 [Pj p,.string a] w fun r w'=>r = Vj (Qa0 Ss a:Nat)/\w'=w:=by
 obtain⟨t,sh,hp,⟨sg,ct,b1,b2,hL,hI⟩,_⟩:=h;refine Fi Tryz.func211 rfl _ rfl rfl (Hh ?_);refine⟨_,hp.one rfl,Hh ?_⟩;refine⟨_,hL.head.one rfl,Hh ?_⟩;refine⟨_,Qk6 hL.sg a Qp,?_⟩;rw[hI.sg a];refine Hh ?_;exact⟨rfl,rfl⟩
theorem Qoo (w:World) (S:Nat->Prop) (p:Nat) (Ss:List Sn) (h:Qbu w S p Ss) (a b:Bj) (hab:a≠b) :
 Cal Tryz.prog 212 [Pj p,.string a,.string b] w fun r w'=>r = Vj (Qdt Ss a b:Nat)/\w'=w:=by
 obtain⟨t,sh,hp,⟨sg,ct,b1,b2,hL,hI⟩,_⟩:=h;have hv:=hI.ct a b;rw[if_neg hab] at hv;refine Fi Tryz.func212 rfl _ rfl rfl (Hh ?_);constructor
 . intro hc;have hc:a=b:=Su hc;exact absurd hc hab
 intro _;refine Hh ?_;refine⟨_,hp.one rfl,Hh ?_⟩;refine⟨_,hL.head.one rfl,Hh ?_⟩;rcases hL.ct.look Qaz Qw1 (Qo Xb) (e:=ty153) ty153_ok rfl a with⟨hno,hrd⟩ | ⟨bt,m,Sk,hsome,hrd,hIv,_,_⟩
 . rw[hno] at hv;refine⟨_,hrd .same Qp,Hh ?_⟩;refine⟨_,Qy3 b,Hh ?_⟩;exact⟨by rw[<- hv];rfl,rfl⟩
 . rw[hsome] at hv;refine⟨_,hrd .same Qp,Hh ?_⟩;refine⟨_,Qk6 hIv.2 b Qp,?_⟩;rw[show (Qe m b).getD 0=(Qdt Ss a b:Int) from hv];refine Hh ?_;exact⟨rfl,rfl⟩
theorem Qoe (w:World) (S:Nat->Prop) (p:Nat) (Ss:List Sn) (h:Qbu w S p Ss) (a b:Bj) (hl:Ss.length<1000) :
 Cal Tryz.prog 144 [Pj p,.string a,.string b] w fun r w'=>r=Qmt (Qgw Ss a b)/\Ext w w':=by
 have ha:=Qhk Ss a;have hb:=Qhk Ss b;have hp:=Qys Ss a b;unfold Qgw;refine Fi Tryz.func144 rfl _ rfl rfl (Hh ?_);intro b1 w1 hn1;refine Hh ?_;have h1:=hn1.At;refine(Qlq w1 S p Ss (h.ext hn1.ext) a).mono ?_;rintro _ _ ⟨rfl,rfl⟩;refine Hh ?_;refine(Qlq _ S p Ss (h.ext hn1.ext) b).mono ?_;rintro _ w1' ⟨rfl,hw1⟩;subst hw1;generalize hx:Qa0 Ss a=x at ha ⊢;generalize hy:Qa0 Ss b=y at hb ⊢;have e1:=hn1.block;refine Gg ?_;constructor
 . intro hc;have hc:x=0\/y=0:=Su hc;rw[if_pos hc];refine Hh ?_;refine Qc Qb (e:=ty242) rfl h1 rfl rfl rfl Oj fun w2 h2 ho2 => ?_
   refine Hh ?_;refine⟨_,⟨rfl,h2.all⟩,Hh ?_⟩;exact⟨rfl,ho2.ext hn1.ext Om⟩
 intro hc;have hc:¬ (x=0\/y=0):=Su hc;rw[if_neg hc];refine Hh ?_;constructor
 . intro he;have he:a=b:=Su he;rw[if_pos he];refine Hh ?_;refine Qc Qb (e:=ty242) rfl h1 rfl rfl rfl Oj fun w2 h2 ho2 => ?_
   refine Hh ?_;refine⟨_,⟨rfl,h2.all⟩,Hh ?_⟩;exact⟨rfl,ho2.ext hn1.ext Om⟩
 intro he;have he:¬ a=b:=Su he;rw[if_neg he];refine Hh ?_;refine(Qoo _ S p Ss (h.ext hn1.ext) a b he).mono ?_;rintro _ w2 ⟨rfl,hw2⟩;subst hw2;generalize Qdt Ss a b=n at hp ⊢;have m1:(n:Int)*n<=1000*1000:=Zbw Om Om Om Om;have m2:(x:Int)*y<=1000*1000:=Zbw Om Om Om Om;have m3:0<=(n:Int)*n:=Zcv Om Om;have m4:0<=(x:Int)*y:=Zcv Om Om;have q1:(n:Int)*n=IntKind.i64.wrap ((n:Int)*n):=wrap_eq rfl ⟨Om,Om⟩;have q2:(x:Int)*y=IntKind.i64.wrap ((x:Int)*y):=wrap_eq rfl ⟨Om,Om⟩;refine Hh ?_;refine⟨_,q1,Hh ?_⟩;refine⟨_,q2,Hh ?_⟩;refine Qc Qb (e:=ty242) rfl h1 rfl rfl rfl Oj fun w3 h3 ho3 => ?_
 refine Hh ?_;refine⟨_,⟨rfl,h3.all⟩,Hh ?_⟩;exact⟨rfl,ho3.ext hn1.ext Om⟩
theorem Q0m {a b:Int×Int}:0<Qpj a b↔Qv2 b a=true:=by
 unfold Qpj Qv2;rw[decide_eq_true_eq];split
 . omega
 split
 . omega
 . omega
set_option maxHeartbeats 1000000 in
theorem Q8q {w:World} {T:Nat->Prop} {p:Nat} {c:Cfg} {z:List Ev} (h:WT w T p c z) (hok:Xi2 c z) (person item:Bj) (now:Int) :
 Cal Tryz.prog 172 [Pj p,.string person,.string item,Vj now] w fun r w'=>r = Vj (Xi8 c z person item)/\Mod T w w'/\∃ T',WT w' T' p c z/\∀ k,T' k->T k\/w.heap.size<=k:=by
 have hlen:=hok.len;have hN:((Qg0 c z).length:Int)*(Qg0 c z).length<=1000000:=(by have:((Qg0 c z).length:Int)*(Qg0 c z).length<=1000*1000:=Zbw Om Om Om Om;omega);refine Fi Tryz.func172 rfl _ rfl rfl (Hh ?_);refine(Qi2 h hok).mono ?_;rintro _ w1 ⟨pp,T',rfl,hW1,hT1,hM1,hpp,hppT,hP1⟩;refine Hh ?_;intro b2 w2 hn2;refine Hh ?_;have e2:=hn2.block;refine Qc Qb (e:=ty242) rfl hn2.At rfl rfl rfl Oj fun w3 h3 ho3 => ?_
 have hx3:Ext w1 w3:=ho3.ext hn2.ext Om;have h3:At w3 b2 242 (Qlv (0,1)):=h3;clear ho3;refine Hh ?_;have hW3:=hW1.ext hx3;have hP3:=hP1.ext hx3;have hz:(Qao z).length<1000000:=(by obtain⟨_,_,hQ,_⟩:=hW1;have h2:=Zc peB z;have:=hQ.len;unfold Qao;omega);obtain⟨v,T0,hQ3,_⟩:=id hW3;refine(X6 hQ3).mono ?_;rintro _ w4 ⟨pw,S4,rfl,hcr,hx4⟩;refine Hh ?_;have he:=(Qbz c.width z).2
 refine(Qg7 w4 S4 pw _ _ hcr person (by
  have:(evs (Qi c.width z).rs).length=(Qao z).length:=by rw[he]
  simp[evs] at this;omega)).mono ?_
 rintro _ w5 ⟨A5,c5,rfl,ho5,hx5⟩;rw[he] at ho5 ⊢;have hhl:(hist (Qao z) person).length<1000000:=Zb0 (Zc _ _) hz;unfold Xi8;rw[show Qej z person=hist (Qao z) person from rfl];have hsl:=ho5.sl Qag;have hA5:∀ a,A5=some a->a.block≠b2:=fun a ha=>(by have h1:=(ho5.block ha).1;have h2:=h3.lt;have h3:=hx4.size;omega)
 generalize hist (Qao z) person=hs at hsl hhl ⊢;have hx15:=hx3.trans (hx4.trans hx5);have h5:=h3.ext (hx4.trans hx5);have s15:=hx15.size;have hb2:=h3.lt;generalize Qg0 c z=Ss at hlen hN hP1 hP3;refine Hh ?_
 refine Qh Qb (fun(q:Nat×(Int×Int)) w'=>q.1<=hs.length/\Mod (fun k=>k=b2) w5 w'/\At w' b2 242 (Qlv q.2)/\q.2=Qmb Ss item (hs.take q.1))
  (fun | (k,_) => [(2,.string item),(9,Pj pp),(10,Pj b2),(22,.slice A5 hs.length c5),(23,Vj hs.length),(24,Vj k)]) (fun q=>hs.length-q.1) (0,(0,1)) ⟨by simp,Mod.refl _ _,h5,rfl⟩ Rr ?_
 clear h5;have hPk:∀ {w':World},Mod (fun k=>k=b2) w5 w'->Qbu w' (fun k=>k=pp\/T' k) pp Ss:=fun hM=>hP1.keep fun k hk hs'=>⟨(hM.block k Om Om).trans (hx15.block k hk),hs'⟩
 rintro ⟨k,best⟩ w6 ⟨hk,hM6,h6,hbest⟩;simp only at hk h6 hbest;have hbo:Qki 1000000 best:=by rw[hbest];exact Xe7 hN Om item _
 refine Hh ?_;constructor
 . intro hlt;have hlt:k<hs.length:=Su hlt;obtain⟨a,hA,hc⟩:=(Qa8 hsl fun a ha=>hM6.block a.block (by have:=(ho5.block ha).2;omega) (hA5 a ha)).get hlt;subst hA;have htk:Qmb Ss item (hs.take (k+1))=Qez Ss item best hs[k]:=by rw[Za hlt,Qp7,hbest]
   generalize hs[k]=e at hc htk;refine Gg ?_;refine⟨a,Ix,Gg ?_⟩;refine⟨evC e,⟨rfl,hc⟩,Gg ?_⟩;intro b7 w7 hn7;refine Gg ?_;have e7:=hn7.block;refine Qc Qb (e:=ty77) rfl hn7.At rfl rfl rfl (Qbg e) fun w8 h8 ho8 => ?_
   have h8:At w8 b7 77 (evC e):=h8;have hx68:Ext w6 w8:=ho8.ext hn7.ext Om;clear ho8;refine Gg ?_;refine⟨evC e,⟨rfl,h8.all⟩,Gg ?_⟩;refine(Qcu e w8).mono ?_;rintro _ w9 ⟨rfl,hx9⟩;have h9:=h8.ext hx9;have hx69:=hx68.trans hx9;refine Gg ?_;refine⟨.string e.item,fun _=>h9.one rfl,Gg ?_⟩;constructor
   . intro hc1;have hc1:Qy e<=0\/e.item=item:=Su hc1;have hst:Qez Ss item best e=best:=by unfold Qez;rw[if_pos hc1]
     refine Gg ?_;refine⟨_,wrap_succ Om,Gg ?_⟩;exact⟨(k+1,best),Sj,⟨Sj,hM6.trans (Mod.of_ext hx69),h6.ext hx69,by rw[htk,hst]⟩,Rr⟩
   intro hc1;have hc1:¬ (Qy e<=0\/e.item=item):=Su hc1;refine Gg ?_;refine⟨.string e.item,h9.one rfl,Gg ?_⟩;have hM9:=hM6.trans (Mod.of_ext hx69);refine(Qoe w9 _ pp Ss (hPk hM9) item e.item hlen).mono ?_;rintro _ w10 ⟨rfl,hx10⟩;have hlo:=Qyh hN Om item e.item;have hst:Qez Ss item best e=if Qv2 best (Qgw Ss item e.item)=true then Qgw Ss item e.item else best:=by unfold Qez;rw[if_neg hc1]
   rw[hst] at htk;generalize Qgw Ss item e.item=lk at hlo htk ⊢;refine Gg ?_;intro b11 w11 hn11;refine Gg ?_;have e11:=hn11.block;refine Qc Qb (e:=ty242) rfl hn11.At rfl rfl rfl (Qj2 lk) fun w12 h12 ho12 => ?_
   have h12:At w12 b11 242 (Qlv lk):=h12;have hx912:Ext w9 w12:=ho12.ext (hx10.trans hn11.ext) (by have:=hx10.size;omega);clear ho12;have h612:=h6.ext (hx69.trans hx912);have hM12:=hM9.trans (Mod.of_ext hx912);refine Gg ?_;refine⟨Qlv lk,⟨rfl,h12.all⟩,Gg ?_⟩;refine⟨Qlv best,⟨rfl,h612.all⟩,Gg ?_⟩;refine(Qd2 Om lk best hlo hbo w12).mono ?_;rintro _ w13 ⟨rfl,hg13⟩;have hcp:=Q0m (a:=lk) (b:=best);generalize Qpj lk best=cr at hcp ⊢;have h613:=h612.ext hg13.ext;have h1213:=h12.ext hg13.ext;have hM13:=hM12.trans (Mod.of_ext hg13.ext);refine Gg ?_;constructor
   . intro hc2;have hc2:0<cr:=Su hc2;rw[if_pos (hcp.1 hc2)] at htk;refine Gg ?_;refine⟨Qlv lk,⟨rfl,h1213.all⟩,Gg ?_⟩;refine Qc Qb (e:=ty242) rfl h613 rfl rfl rfl (Qj2 lk) fun w14 h14 ho14 => ?_
     have h14:At w14 b2 242 (Qlv lk):=h14;refine Gg ?_;refine⟨_,wrap_succ Om,Gg ?_⟩;exact⟨(k+1,lk),Sj,⟨Sj,hM13.trans (Qj ho14 rfl),h14,htk.symm⟩,Rr⟩
   . intro hc2;have hc2:¬ 0<cr:=Su hc2;rw[if_neg (fun h=>hc2 (hcp.2 h))] at htk;refine Gg ?_;refine⟨_,wrap_succ Om,Gg ?_⟩;exact⟨(k+1,best),Sj,⟨Sj,hM13,h613,htk.symm⟩,Rr⟩
 . intro hge;have hge:hs.length<=k:=Su hge;rw[Zb hge] at hbest;rw[<- hbest];refine Hh ?_;refine⟨Vj best.1,h6.one rfl,Hh ?_⟩;refine⟨Vj best.2,h6.one rfl,Hh ?_⟩;refine(Qq6 (N:=1000000) Om 1048576 ⟨Om,Om⟩ best hbo w6).mono ?_;rintro _ w7 ⟨rfl,hx7⟩;refine Hh ?_;have hWf:∀ k,T' k->w7.heap[k]? = w1.heap[k]? := fun k hk=>(by have hkl:=hW1.lt k hk;have s6:=hM6.size;exact(hx7.block k Om).trans ((hM6.block k Om Om).trans (hx15.block k hkl)))
   refine⟨rfl,?_,T',hW1.keep hWf,hT1⟩;refine Qn hM1 ((Mod.of_ext hx15).trans (Mod.trans ?_ (Mod.of_ext hx7)));exact hM6.mono fun k _ hk => .inr (by have:=hM1.size;omega)
