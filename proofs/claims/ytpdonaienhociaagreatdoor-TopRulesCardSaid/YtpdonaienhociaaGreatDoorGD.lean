import Derived.Test.YtpdonaienhociaaGreatDoorGC
set_option linter.all false
namespace Go.Proofs.YtpdonaienhociaaGreatDoor
open Go.Se Go.RowKit
theorem Qv {α:Type} {P:List α->Prop} (h0:P []) (h1:∀ l a,P l->P (l ++ [a])) (l:List α):P l:=by
 have:∀ r:List α,P r.reverse:=by
  intro r
  induction r with
  | nil=>exact h0
  | cons a r ih=>rw[List.reverse_cons];exact h1 _ _ ih
 have h:=this l.reverse
 rwa [List.reverse_reverse] at h
def Xe0:Ev:=⟨⟨#[]⟩,0,0,0,⟨#[]⟩,⟨#[]⟩,0,⟨#[]⟩⟩
def Qes (l:List Ev):Ev:=l.getLast?.getD Xe0
structure It where
 name:Bj
 maker:Bj
 tags:Bj
 stock:Int
 price:Int
 born:Int
 listed:Bool
deriving DecidableEq
def itC (i:It):List Value := [.string i.name,.string i.maker,.string i.tags,Vj i.stock,Vj i.price,Vj i.born,.bool i.listed]
def Qbt:It:=⟨⟨#[]⟩,⟨#[]⟩,⟨#[]⟩,0,0,0,false⟩
structure St where
 at_:Int
 born:Bool
 item:It
deriving DecidableEq
def stC (s:St):List Value := [Vj s.at_,.bool s.born,.string s.item.name,.string s.item.maker,.string s.item.tags,Vj s.item.stock,Vj s.item.price,Vj s.item.born,.bool s.item.listed]
theorem Qo8 (s:St):(stC s).length=9:=rfl
theorem Qzj (s:St):∀ u∈stC s,u.oneCell'=true:=by simp[stC,Value.oneCell']
def Qid (name:Bj):St:=⟨0,false,{ Qbt with name:=name }⟩
def Qb8 (s:St) (e:Ev):St :=
 if e.kind=11 then⟨e.at_,true,{ s.item with listed:=true,maker:=Qcm e.text,tags:=Qa7 e.text,price:=e.val,born:=if s.born then s.item.born else e.at_ }⟩
 else if e.kind=12 then⟨e.at_,s.born,{ s.item with stock:=e.val }⟩
 else⟨e.at_,s.born,{ s.item with listed:=false }⟩
def Qfb (row:List St) (e:Ev):St:=Qb8 (row.getLast?.getD (Qid e.item)) e
def Qff (rows:Bj->List St) (e:Ev):Bj->List St:=Ql4 rows e.item (rows e.item ++ [Qfb (rows e.item) e])
def Qz (cs:List Ev):Bj->List St:=cs.foldl Qff (fun _ => [])
theorem Qba (cs:List Ev) (e:Ev):Qz (cs ++ [e])=Qff (Qz cs) e:=by unfold Qz;rw[Zt];rfl
theorem Qf8 (s:St) (e:Ev):(Qb8 s e).at_=e.at_:=by unfold Qb8;split <;> (try split) <;> rfl
def Rise (l:List Ev):Prop:=l.Pairwise (fun a b=>Q5 a b=true)
theorem Qyf {a b:Ev} (h:Q5 a b=true):a.at_<=b.at_:=by rw[Qe5] at h;omega
theorem Q3v {a b c:Ev} (h:Q5 a b=true) (k:Q5 b c=true):Q5 a c=true:=by
 cases hc:Q5 a c with
 | true=>rfl
 | false =>
   have h1:=Qbh.asymm _ _ h;have:=Qbh.trans c a b hc h1;rw[k] at this;cases this
theorem Q9i {l:List Ev} {e:Ev} (h:Rise l) (hl:l = []\/Q5 (Qes l) e=true):Rise (l ++ [e]):=by
 unfold Rise at *;rw[Z4];refine⟨h,by simp,fun a ha b hb => ?_⟩;simp at hb;subst hb;rcases hl with rfl | hl
 . simp at ha
 . rcases Zbj l with rfl | ⟨l',z,hz⟩
   . simp at ha
   . have hz':l=l' ++ [z]:=Su hz;subst hz';have hlz:Qes (l' ++ [z])=z:=by simp[Qes]
     rw[hlz] at hl;rcases Zj.1 ha with ha | ha
     . exact Q3v ((Z4.1 h).2.2 a ha z (by simp)) hl
     . simp at ha;subst ha;exact hl
theorem Q9h {l:List Ev} {e:Ev} (h:Rise (l ++ [e])):l = []\/Q5 (Qes l) e=true:=by
 rcases Zbj l with rfl | ⟨l',z,hz⟩
 . exact .inl rfl
 . have hz':l=l' ++ [z]:=Su hz;subst hz';have hlz:Qes (l' ++ [z])=z:=by simp[Qes]
   rw[hlz];exact .inr ((Z4.1 h).2.2 z (by simp) e (by simp))
theorem Qlf:∀ (cs:List Ev),Rise cs->∀ name,(Qz cs name).Pairwise (fun a b=>a.at_<=b.at_)/\∀ s∈Qz cs name,∃ e∈cs,s.at_=e.at_/\e.item=name:=by
 refine Qv ?_ ?_
 . intro _ name;simp[Qz]
 . intro cs e ih h name;have h1:Rise cs:=(Z4.1 h).1;have h2:=(Z4.1 h).2.2;rw[Qba];unfold Qff Ql4
   by_cases hn:name=e.item
   . rw[if_pos hn];subst hn;obtain⟨p1,p2⟩:=ih h1 e.item;refine⟨Z4.2 ⟨p1,by simp,fun a ha b hb => ?_⟩,fun s hs => ?_⟩
     . simp at hb;subst hb;obtain⟨e',he',h3,_⟩:=p2 a ha;unfold Qfb;rw[Qf8,h3];exact Qyf (h2 e' he' e (by simp))
     . rcases Zj.1 hs with hs | hs
       . obtain⟨e',he',h3,h4⟩:=p2 s hs;exact⟨e',by simp[he'],h3,h4⟩
       . simp at hs;subst hs;exact⟨e,by simp,Qf8 _ _,rfl⟩
   . rw[if_neg hn];obtain⟨p1,p2⟩:=ih h1 name;exact⟨p1,fun s hs=>by obtain⟨e',he',h3⟩:=p2 s hs;exact⟨e',by simp[he'],h3⟩⟩
def stN (row:List St) (t:Int):Nat:=(row.takeWhile (fun s=>decide (s.at_<=t))).length
def Xw (cs:List Ev) (name:Bj) (t:Int):It×Bool:=match (Qz cs name)[stN (Qz cs name) t-1]? with
 | some s=>if stN (Qz cs name) t=0 then(Qbt,false) else(s.item,true)
 | none=>(Qbt,false)
theorem Q44 {row:List St} {t:Int} (hp:row.Pairwise (fun a b=>a.at_<=b.at_)) {k:Nat} (hk:k<=row.length) (h1:k=0\/∃ s,row[k-1]? = some s/\s.at_<=t) (h2:k=row.length\/∃ s,row[k]? = some s/\t<s.at_):stN row t=k:=by
 unfold stN
 have hall:∀ s∈row.take k,decide (s.at_<=t)=true:=by
  intro s hs;obtain⟨i,hi,rfl⟩:=Za2 hs;simp at hi;simp only[List.getElem_take,decide_eq_true_eq];rcases h1 with rfl | ⟨s',hs',hle⟩
  . omega
  . have hlt:k-1<row.length:=(Zi.1 hs').1;rw[Zd hlt] at hs';have hs'':row[k-1]=s':=Su hs'
    by_cases e:i=k-1
    . subst e;rw[hs''];exact hle
    . have:=Zau.1 hp i (k-1) Om hlt Om;rw[hs''] at this;omega
 have hdr:(row.drop k).takeWhile (fun s=>decide (s.at_<=t)) = []:=by
  rcases h2 with rfl | ⟨s,hs,hlt⟩
  . simp
  . have hk2:k<row.length:=(Zi.1 hs).1;rw[Zak hk2,List.takeWhile_cons];have:row[k]=s:=by rw[Zd hk2] at hs;simpa using hs
    rw[this,if_neg (by simp;omega)]
 conv=>lhs;rw[<- Zah k row]
 rw[Zce hall,hdr];simp[hk]
theorem Qy1 (g:FuncId) (caps:List Value) (hcap:caps ≠ []) (n:Nat) (q:Nat->Bool) (w:World) (hn:n<1000000000000)
 (hf:∀ i,i<n->∀ w1,Ext w w1->Cal Tryz.prog g (Vj (i:Nat) :: caps) w1 fun r w2=>r = .bool (q i)/\Ext w1 w2) :
 Cal Tryz.prog 52 [Vj n,.func (.func g) #[] caps.toArray] w fun r w'=>∃ k:Nat,r = Vj (k:Nat)/\k<=n/\(k=0\/q (k-1)=false)/\(k=n\/q k=true)/\Ext w w':=by
 obtain⟨c0,cr,rfl⟩:=Zcl hcap;refine Fi Tryz.func52 rfl _ rfl rfl (Hh ?_)
 refine Qh Qb (fun(p:Nat×Nat) w'=>p.1<=p.2/\p.2<=n/\(p.1=0\/q (p.1-1)=false)/\(p.2=n\/q p.2=true)/\Ext w w')
  (fun | (i,j) => [(1,.func (.func g) #[] (c0 :: cr).toArray),(5,Vj (i:Nat)),(6,Vj (j:Nat))]) (fun p=>p.2-p.1) (0,n) ⟨by simp,by simp,.inl rfl,.inl rfl,Ext.refl _⟩ Rr ?_
 rintro ⟨i,j⟩ w1 ⟨hij,hjn,hi,hj,hx1⟩;simp only at hij hjn hi hj;refine Hh ?_;constructor
 . intro hlt;have hlt:i<j:=Su hlt;obtain⟨h,hh⟩:∃ h,h=(i+j)/2:=⟨_,rfl⟩;refine Hh ?_;refine⟨((i+j:Nat):Int),Qa5 Om,Hh ?_⟩;refine⟨((i+j:Nat):Int),Qrh Om,Hh ?_⟩;refine⟨(h:Int),by rw[hh];exact Qkp _,Hh ?_⟩;refine⟨(h:Int),Qrg Om,Hh ?_⟩;refine(hf h Om w1 hx1).mono ?_;rintro _ w2 ⟨rfl,hx2⟩;refine Hh ?_;constructor
   . intro hc;have hc:q h=false:=Su hc;refine Hh ?_;refine⟨_,wrap_succ Om,Hh ?_⟩;exact⟨(h+1,j),Sj,⟨Sj,hjn,.inr (Su hc),hj,hx1.trans hx2⟩,Rr⟩
   . intro hc;have hc:q h=true:=Su hc;refine Hh ?_;exact⟨(i,h),Sj,⟨Sj,Sj,hi,.inr hc,hx1.trans hx2⟩,Rr⟩
 . intro hge;have hge:j<=i:=Su hge;obtain rfl:i=j:=Om;refine Hh ?_;exact⟨i,rfl,hjn,hi,hj,hx1⟩
def Xhl (cs:List Ev) (bm:Nat):List Value := .bool (!cs.isEmpty) :: (evC (Qes cs) ++ [.map (some bm)])
structure Xjr (w:World) (S:Nat->Prop) (p:Nat) (cs:List Ev) (bm:Nat) (L:List (Bj×(Option Addr×Nat))):Prop where
 mine:S p
 rise:Rise cs
 head:At w p 138 (Xhl cs bm)
 rows:Qbm stC 9 141 w (fun k=>S k/\k≠p) bm (Qz cs) L
def Qgb (w:World) (S:Nat->Prop) (p:Nat) (cs:List Ev):Prop:=∃ bm L,Xjr w S p cs bm L
theorem Qgb.keep {w w1:World} {S S':Nat->Prop} {p:Nat} {cs:List Ev} (h:Qgb w S p cs) (hk:∀ k,k<w.heap.size->S k->w1.heap[k]? = w.heap[k]? /\ S' k):Qgb w1 S' p cs:=by
 obtain⟨bm,L,h⟩:=h;refine⟨bm,L,(hk p h.head.lt h.mine).2,h.rise,(hk p h.head.lt h.mine).1.trans h.head,h.rows.keep fun k hk1 hk2 => ?_⟩;obtain⟨q1,q2⟩:=hk k hk1 hk2.1;exact⟨q1,q2,hk2.2⟩
theorem Qgb.ext {w w1:World} {S:Nat->Prop} {p:Nat} {cs:List Ev} (h:Qgb w S p cs) (hx:Ext w w1):Qgb w1 S p cs:=h.keep fun k hk hs=>⟨hx.block k hk,hs⟩
theorem Qwz:Tryz.prog.underlying 136=some (.map 9 135):=by kernel_rfl
theorem Xb:Tryz.prog.underlying 9=some .string:=by kernel_rfl
theorem Qnj (w:World):Cal Tryz.prog 102 [] w fun r w'=>∃ p,r = Pj p/\Qgb w' (fun k=>w.heap.size<=k) p []/\Ext w w':=by
 refine Fi Tryz.func102 rfl _ rfl rfl (Hh ?_);intro b1 w1 hn1;refine Hh ?_;intro b2 w2 hn2;refine Hh ?_;refine⟨b2,rfl,⟨b1,[],?_,List.Pairwise.nil,hn2.At,?_⟩,hn1.ext.trans hn2.ext⟩
 . rw[hn2.block];exact hn1.ext.size
 . have h1:=hn1.block;have h2:=hn2.block;have h3:=hn1.size;exact(Qbm.new (S:=fun k=>w.heap.size<=k/\k≠b2) hn1 ⟨Om,Om⟩).keep fun k hk hs=>⟨hn2.ext.block k hk,hs⟩
theorem Qxj (row:List St) (A:Option Addr) (c b5 b8:Nat) (t:Int) (i:Nat) (hi:i<row.length) (w:World) (h5:At w b5 3 [Vj t]) (h8:At w b8 135 [.slice A row.length c]) (hs:Sl stC 9 w A row) :
 Cal Tryz.prog 53 [Vj (i:Nat),Pj b8,Pj b5] w fun r w'=>r = .bool (decide (t<(row[i]).at_))/\Ext w w':=by
 refine Fi Tryz.func53 rfl _ rfl rfl (Hh ?_);refine Dr .same [0,1,2,3,4,5,6,7] [] (Hh ?_);obtain⟨a,rfl,hc⟩:=hs.get hi;refine⟨_,h8.one0,Hh ?_⟩;refine⟨a,Ix,Hh ?_⟩;refine⟨_,cells_at hc (k:=0) rfl,Hh ?_⟩;refine⟨_,h5.one0,Hh ?_⟩;exact⟨rfl,(Ext.refl _).drew⟩
theorem Q7 (w:World) (S:Nat->Prop) (p:Nat) (cs:List Ev) (h:Qgb w S p cs) (name:Bj) (t:Int) (hl:(Qz cs name).length<1000000000000) :
 Cal Tryz.prog 14 [Pj p,.string name,Vj t] w fun r w'=>r = .tuple #[.agg (itC (Xw cs name t).1).toArray,.bool (Xw cs name t).2]/\Ext w w':=by
 obtain⟨bm,L,h⟩:=h;have hrise:=(Qlf cs h.rise name).1;refine Fi Tryz.func14 rfl _ rfl rfl (Hh ?_);intro b1 w1 hn1;refine Hh ?_;intro b2 w2 hn2;have hx2:=hn1.ext.trans hn2.ext;have hp:=h.head.ext hx2;have hr:=h.rows.keep (w1:=w2) (S':=fun k=>S k/\k≠p) fun k hk hs=>⟨hx2.block k hk,hs⟩
 refine Hh ?_;refine⟨.map (some bm),hp.one rfl,Hh ?_⟩;refine⟨_,hr.look Qwz Xb (e:=ty135) ty135_ok rfl name Qp,Hh ?_⟩;have hown:=(hr.own name).1;generalize hrow:Qz cs name=row at *;generalize (rowAt L name).1=A at *;generalize (rowAt L name).2=c at *;intro b3 w3 hn3;refine Hh ?_;refine Qc Qb (e:=ty135) rfl hn3.At rfl rfl rfl Oj fun w4 h4 ho4 => ?_
 have hb2:b2<w3.heap.size:=by have:=hn2.At.lt;have:=hn3.ext.size;omega
 have hne23:b2≠b3:=by have:=hn2.At.lt;rw[hn3.block];omega
 have hb1:b1<w2.heap.size:=by have:=hn1.At.lt;have:=hn2.ext.size;omega
 have hne13:b1≠b3:=by rw[hn3.block];omega
 have hx4:Ext w2 w4:=ho4.ext hn3.ext (by rw[hn3.block];exact Zg _);have h41:At w4 b1 3 [Vj t]:=(hn1.At.ext hn2.ext).ext hx4;have h42:At w4 b2 59 (itC Qbt):=(hn2.At (t:=59) (l:=itC Qbt)).ext hx4;have h43:At w4 b3 135 [.slice A row.length c]:=h4;have hs4:Sl stC 9 w4 A row:=(hown.ext hx4).sl Qo8;clear h4;refine Hh ?_;refine⟨_,h43.one0,Hh ?_⟩;refine(Qy1 53 [Pj b3,Pj b1] (by simp) row.length (fun i=>decide (t<(row.getD i ⟨0,false,Qbt⟩).at_)) w4 hl ?_).mono ?_
 . intro i hi w5 hx5;refine(Qxj row A c b1 b3 t i hi w5 (h41.ext hx5) (h43.ext hx5) (hs4.ext hx5)).mono ?_;rintro r w6 ⟨rfl,hx6⟩;exact⟨by rw[Zbm,Zd hi];rfl,hx6⟩
 rintro _ w5 ⟨k,rfl,hkn,hk1,hk2,hx5⟩
 have hkk:stN row t=k:=by
  refine Q44 hrise hkn ?_ ?_
  . rcases hk1 with h0 | h0
    . exact .inl h0
    . by_cases hz:k=0
      . exact .inl hz
      . refine .inr ⟨row[k-1]'Om,Zd _,?_⟩;rw[Zbm,Zd Om] at h0;simp at h0;exact h0
  . rcases hk2 with h0 | h0
    . exact .inl h0
    . by_cases hz:k=row.length
      . exact .inl hz
      . refine .inr ⟨row[k]'Om,Zd _,?_⟩;rw[Zbm,Zd Om] at h0;simp at h0;exact h0
 have hcat:Xw cs name t=match row[k-1]? with | some s=>if k=0 then(Qbt,false) else(s.item,true) | none=>(Qbt,false):=(by unfold Xw;rw[hrow,hkk])
 refine Hh ?_;constructor
 . intro h0;have h0:k=0:=by simp at h0;omega
   have hcat0:Xw cs name t=(Qbt,false):=(by rw[hcat];cases row[k-1]? <;> simp[h0]);refine Hh ?_;refine Qc Qb (e:=ty59) rfl (h42.ext hx5) rfl rfl rfl Oj fun w6 h6 ho6 => ?_
   refine Hh ?_;refine⟨itC Qbt,⟨rfl,h6.all⟩,Hh ?_⟩;refine⟨by rw[hcat0],ho6.ext (hx2.trans (hx4.trans hx5)) ?_⟩;rw[hn2.block];exact hn1.ext.size
 . intro h0;have h0:0<k:=by simp at h0;omega
   have hlt:k-1<row.length:=Om;have hcat1:Xw cs name t=((row[k-1]).item,true):=(by rw[hcat,Zd hlt];simp;omega);obtain⟨a,hA,hc⟩:=(hs4.ext hx5).get hlt;subst hA;refine Hh ?_;refine⟨_,(h43.ext hx5).one0,Hh ?_⟩;refine⟨((k-1:Nat):Int),wrap_eq Om ⟨Om,Om⟩,Hh ?_⟩;refine⟨a,Ix,Hh ?_⟩;refine⟨itC (row[k-1]).item,⟨rfl,?_⟩,?_⟩
   . intro j v hj;rw[Xf]
     have:=hc (2+j) v (by
      show (stC row[k-1])[2+j]? = some v
      rw[<- hj,Zc4];rfl)
     exact this
   refine Hh ?_;refine Qc Qb (e:=ty59) rfl (h42.ext hx5) rfl rfl rfl (by simp[Qg,itC,Value.oneCell']) fun w6 h6 ho6 => ?_
   refine Hh ?_;refine⟨itC (row[k-1]).item,⟨rfl,h6.all⟩,Hh ?_⟩;refine⟨by rw[hcat1],ho6.ext (hx2.trans (hx4.trans hx5)) ?_⟩;rw[hn2.block];exact hn1.ext.size
theorem Q0k {a b:Int}:Qcy a b=1↔b<a:=by unfold Qcy;split <;> (try split) <;> omega
theorem Xb3 {a b:Bj}:Qch a b=1↔bLt b a=true:=by
 unfold Qch;split
 . rename_i h;rw[Qdg h];simp
 . split
   . rename_i h;simp[h]
   . rename_i h;simp[h]
theorem Q0h {a b:Ev} (h:Q5 b a=true):Qjc a b=1:=by
 rw[Qe5] at h;unfold Qjc;rcases h with h | ⟨h1,h | ⟨h2,h3⟩⟩
 . have:Qcy a.at_ b.at_=1:=Q0k.2 h;rw[this];simp
 . have e1:Qcy a.at_ b.at_=0:=Qef.2 h1.symm;have e2:Qch a.src b.src=1:=Xb3.2 h;rw[e1,e2];simp
 . have e1:Qcy a.at_ b.at_=0:=Qef.2 h1.symm;have e2:Qch a.src b.src=0:=Qbx.2 h2.symm;have e3:Qcy a.num b.num=1:=Q0k.2 h3;rw[e1,e2,e3];simp
theorem At.sub {w:World} {b t:Nat} {pre cs post:List Value} (h:At w b t (pre++(cs++post))):Xp w ((⟨b,0,none⟩:Addr).add pre.length) cs:=fun j v hj=>by
 have hlt:j<cs.length:=(Zi.1 hj).1;rw[Xf,Q8,h.cell,Z5 Om,show pre.length+j-pre.length=j by omega,Zz hlt,hj]
theorem Qoa (cs:List Ev) (e:Ev):Qes (cs ++ [e])=e:=by simp[Qes]
theorem Q24 (cs:List Ev) (e:Ev):(cs ++ [e]).isEmpty=false:=by cases cs <;> rfl
theorem Xiu:Tryz.prog.underlying 135=some (.slice 141):=by kernel_rfl
set_option maxHeartbeats 2000000 in
theorem Qjb (w:World) (S:Nat->Prop) (p:Nat) (cs:List Ev) (h:Qgb w S p cs) (hg:Gl w) (hS:∀ k,S k->10<=k) (e:Ev) (hm:X0 e=true) (hk:e.kind=11\/e.kind=12\/e.kind=13) (ht:e.text.size<1000000) (hl:cs = []\/Q5 (Qes cs) e=true) (hlen:(Qz cs e.item).length<1000000) :
 Cal Tryz.prog 116 [Pj p,evV e] w fun r w'=>r = .bool true/\Qgb w' (Grow S w) p (cs ++ [e])/\Mod S w w':=by
 obtain⟨bm,L,h⟩:=h;have hplt:=h.head.lt;refine Fi Tryz.func116 rfl _ rfl rfl (Hh ?_);intro b1 w1 hn1;have hb1:=hn1.At;have hb1p:b1≠p:=by rw[hn1.block];omega
 have hb1l:w.heap.size<=b1:=by rw[hn1.block];exact Zg _
 refine Hh ?_;refine⟨evC e,⟨rfl,hb1.all⟩,Hh ?_⟩;refine(Qjs e w1 (hg.ext hn1.ext) Om).mono ?_;rintro _ w2 ⟨rfl,hx2⟩;have hb2:=hb1.ext hx2;have hxx2:=hn1.ext.trans hx2;refine Hh ?_;refine⟨_,fun _=>hb2.one rfl,Hh ?_⟩;refine⟨_,fun _ _=>hb2.one rfl,Hh ?_⟩;refine⟨_,fun _ _=>hb2.one rfl,Hh ?_⟩;have hcond:((!X0 e)||(((!decide (e.kind=11))&&(!decide (e.kind=12)))&&(!decide (e.kind=13))))=false:=(by rw[hm];rcases hk with hk | hk | hk <;> simp[hk]);constructor
 . intro hc;have hc:=hcond.symm.trans hc;cases hc
 intro _;clear hcond;refine Hh ?_;refine Dr .same [0,1,2,3,4,5,6,7,8,9] [10,11,12] (Hh ?_);have hb3:At w2.drew b1 _ _:=hb2;have hx3:Ext w w2.drew:=hxx2.drew;generalize w2.drew=w3 at hb3 hx3 ⊢;have hp3:=h.head.ext hx3;refine⟨_,hp3.one0,Hh ?_⟩;refine⟨evC e,fun _=>⟨rfl,hb3.all⟩,Hh ?_⟩;refine⟨evC (Qes cs),fun _=>⟨rfl,At.sub (pre := [.bool (!cs.isEmpty)]) hp3⟩,Hh ?_⟩;refine⟨Unit,fun _ => Vj (Qjc e (Qes cs)),fun _ w'=>Ext w3 w',(),fun _=>(Qbb e (Qes cs) w3).mono (fun r w' h=>⟨(),h.1,h.2⟩),fun _ w4 h4 => ?_⟩
 have hx34:Ext w3 w4:=by
  rcases h4 with⟨_,h⟩ | ⟨_,h⟩
  . exact h
  . rw[h];exact Ext.refl _
 clear h4
 have hcond:((!cs.isEmpty)&&(!decide (Qjc e (Qes cs)=1)))=false:=by
  rcases hl with rfl | hl
  . rfl
  . rw[Q0h hl];simp
 refine Hh ?_;constructor
 . intro hc;have hc:=hcond.symm.trans hc;cases hc
 intro _;clear hcond;have hx4:=hx3.trans hx34;have hb4:=hb3.ext hx34;have hp4:=h.head.ext hx4;refine Hh ?_;refine Qdi (.mods (fun k=>k=p)) [(0,true),(1,false),(2,false),(3,true),(4,true)] [5,6,7] [8] [5,8] Qb mixed Kr (by first | (intro h;cases h;done) | (intro _;rfl)) (Hh ?_);replace hb4:At w4.drew b1 _ _:=hb4;replace hp4:At w4.drew p _ _:=hp4;replace hx4:Ext w w4.drew:=hx4.drew;generalize w4.drew=w5 at hb4 hp4 hx4 ⊢;refine⟨evC e,⟨rfl,hb4.all,hb1p⟩,Hh ?_⟩;refine Qc Qb (e:=ty4) rfl hp4 rfl rfl rfl Oj fun w6 h6 ho6 => ?_
 refine⟨Qj ho6 rfl,Hh ?_⟩;refine Qc Qb (e:=ty77) rfl h6 rfl rfl rfl (Qbg e) fun w7 h7 ho7 => ?_
 have hp7:At w7 p 138 (Xhl (cs ++ [e]) bm):=(by unfold Xhl;rw[Qoa,Q24];exact h7);have hb7:=ho7.at_ (ho6.at_ hb4 hb1p) hb1p;have hm7:Mod S w w7:=(Mod.of_ext hx4).trans ((Qj ho6 h.mine).trans (Qj ho7 h.mine));have hrows:Qbm stC 9 141 w7 (fun k=>S k/\k≠p) bm (Qz cs) L:=h.rows.keep fun k hk1 hk2=>(by refine⟨?_,hk2⟩;rw[ho7.block k hk2.2,ho6.block k hk2.2,hx4.block k hk1])
 clear h7 ho7 h6 ho6 hp4 hb4 hx4 hx34 hx3 hb3 hp3 hb2 hxx2 hx2;refine Hh ?_;refine Dr .same [0,1,2,3,4,5,6,7] [] (Hh ?_);replace hp7:At w7.drew p _ _:=hp7;replace hb7:At w7.drew b1 _ _:=hb7;replace hm7:Mod S w w7.drew:=hm7.trans (Mod.drew _);replace hrows:Qbm stC 9 141 w7.drew (fun k=>S k/\k≠p) bm (Qz cs) L:=hrows.keep fun k _ hk2=>⟨rfl,hk2⟩
 generalize w7.drew=w8 at hp7 hb7 hm7 hrows ⊢;refine⟨.map (some bm),hp7.one rfl,Hh ?_⟩;refine⟨_,hb7.one rfl,Hh ?_⟩;refine⟨_,hrows.look Qwz Xb (e:=ty135) ty135_ok rfl e.item Qp,Hh ?_⟩;refine⟨_,hb7.one rfl,Hh ?_⟩;intro b6 w9 hn9;refine Hh ?_;refine Qc Qb (e:=ty141) rfl hn9.At rfl rfl rfl (Qzj (Qid e.item)) fun w10 h10 ho10 => ?_
 have hb6:w8.heap.size=b6:=hn9.block.symm;have hs8:=hm7.size;have h10':At w10 b6 141 (stC (Qid e.item)):=h10;have hx10:Ext w8 w10:=ho10.ext hn9.ext Om;clear h10;have hrl:=hrows.own e.item;generalize hrow:Qz cs e.item=row at *;generalize hA:(rowAt L e.item).1=A at *;generalize hC:(rowAt L e.item).2=c at *;refine Hh ?_
 -- the last state
 refine Xl Qb (ι:=Unit) (fun _ => [(0,Pj p),(3,Pj b1),(5,.slice A row.length c),(6,Pj b6)])
  (fun _ w'=>Ext w8 w'/\At w' b6 141 (stC (row.getLast?.getD (Qid e.item)))) ?_ ?_
 . (conv=>whnf)
   constructor
   . intro hpos;have hpos:0<row.length:=by simp at hpos;omega
     obtain⟨a,hA',hc⟩:=((hrl.1.ext hx10).sl Qo8).get (k:=row.length-1) Om;subst hA';have hlast:row.getLast?.getD (Qid e.item)=row[row.length-1]:=(by rw[List.getLast?_eq_getElem?,Zd Om];rfl);refine Hh ?_;refine⟨((row.length-1:Nat):Int),wrap_eq Om ⟨Om,Om⟩,Hh ?_⟩;refine⟨a,Ix,Hh ?_⟩;refine⟨stC row[row.length-1],⟨rfl,hc⟩,Hh ?_⟩;refine Qc Qb (e:=ty141) rfl h10' rfl rfl rfl (Qzj _) fun w11 h11 ho11 => ?_
     refine Hh ?_;refine⟨(),⟨ho11.ext hx10 Om,?_⟩,Rr⟩;rw[hlast];exact h11
   . intro hpos;have hpos:row = []:=(by rw[<- Zao];simp at hpos;simpa using hpos);refine Hh ?_;refine⟨(),⟨hx10,?_⟩,Rr⟩;rw[hpos];exact h10'
 rintro _ w11 ⟨hx11,h11⟩;generalize hs0:row.getLast?.getD (Qid e.item)=s0 at *;clear h10' ho10 hx10 hn9 hn1;have hb11:=hb7.ext hx11;refine Hh ?_;refine⟨_,hb11.one rfl,Hh ?_⟩;refine Qc Qb (e:=ty3) rfl h11 rfl rfl rfl Oj fun w12 h12 ho12 => ?_
 have hx12:=ho12.ext hx11 Om;have hb12:=hb7.ext hx12;have hne:b1≠b6:=by have:=hb7.lt;omega
 have h12':At w12 b6 141 (stC { s0 with at_:=e.at_ }):=h12;clear h12 h11 ho12;refine Hh ?_
 refine Xl Qb (ι:=Unit) (fun _ => [(0,Pj p),(3,Pj b1),(5,.slice A row.length c),(6,Pj b6)])
  (fun _ w'=>Ext w8 w'/\At w' b6 141 (stC (Qb8 s0 e))) ?_ ?_
 . (conv=>whnf)
   refine⟨_,hb12.one rfl,Hh ?_⟩;refine⟨fun k1 => ?_,fun k1 => ?_⟩
   . have k1:e.kind=11:=Su k1;refine Hh ?_;refine Qc Qb (e:=ty4) rfl h12' rfl rfl rfl Oj fun w13 h13 ho13 => ?_
     have hx13:=ho13.ext hx12 Om;have hb13:=hb7.ext hx13;refine Hh ?_;refine⟨_,hb13.one rfl,Hh ?_⟩;refine(Qmn e.text w13 (((hg.mod hm7 hS)).ext hx13) Om).mono ?_;rintro _ w14 ⟨rfl,hx14'⟩;have hx14:=hx13.trans hx14';have h14:=h13.ext hx14';refine Hh ?_;refine Qc Qb (e:=ty9) rfl h14 rfl rfl rfl Oj fun w15 h15 ho15 => ?_
     have hx15:=ho15.ext hx14 Om;refine Hh ?_;refine Qc Qb (e:=ty9) rfl h15 rfl rfl rfl Oj fun w16 h16 ho16 => ?_
     have hx16:=ho16.ext hx15 Om;have hb16:=hb7.ext hx16;refine Hh ?_;refine⟨_,hb16.one rfl,Hh ?_⟩;refine Qc Qb (e:=ty3) rfl h16 rfl rfl rfl Oj fun w17 h17 ho17 => ?_
     have hx17:=ho17.ext hx16 Om;have hb17:=hb7.ext hx17;have h17':At w17 b6 141 (stC ⟨e.at_,s0.born,{ s0.item with listed:=true,maker:=Qcm e.text,tags:=Qa7 e.text,price:=e.val }⟩):=h17;clear h17 h16 h15 h14 h13;refine Hh ?_;refine⟨.bool s0.born,h17'.one rfl,Hh ?_⟩;constructor
     . intro hb;have hb:s0.born=false:=Su hb;refine Hh ?_;refine Qdi (.mods (fun k=>k=b6)) [(0,false),(1,false),(2,true)] [3,4,5] [6] [3,6] Qb mixed Kr (by first | (intro h;cases h;done) | (intro _;rfl)) (Hh ?_);refine⟨_,⟨hb17.one rfl,by rw[add_block];exact hne⟩,Hh ?_⟩;refine Qc Qb (e:=ty4) (w:=w17.drew) rfl h17' rfl rfl rfl Oj fun w18 h18 ho18 => ?_
       refine⟨Qj ho18 rfl,Hh ?_⟩;refine Qc Qb (e:=ty3) rfl h18 rfl rfl rfl Oj fun w19 h19 ho19 => ?_
       refine Hh ?_;refine⟨(),⟨ho19.ext (ho18.ext hx17.drew Om) Om,?_⟩,Rr⟩;unfold Qb8;rw[if_pos k1,hb];exact h19
     . intro hb;have hb:s0.born=true:=Su hb;refine Hh ?_;refine⟨(),⟨hx17,?_⟩,Rr⟩;unfold Qb8;rw[if_pos k1,hb];rw[hb] at h17';exact h17'
   have k1:¬ e.kind=11:=Su k1;refine Hh ?_;refine⟨fun k2 => ?_,fun k2 => ?_⟩
   . have k2:e.kind=12:=Su k2;refine Hh ?_;refine⟨_,hb12.one rfl,Hh ?_⟩;refine Qc Qb (e:=ty3) rfl h12' rfl rfl rfl Oj fun w13 h13 ho13 => ?_
     refine Hh ?_;refine⟨(),⟨ho13.ext hx12 Om,?_⟩,Rr⟩;unfold Qb8;rw[if_neg k1,if_pos k2];exact h13
   have k2:¬ e.kind=12:=Su k2;refine Hh ?_;refine⟨fun k3 => ?_,fun k3 => ?_⟩
   . (conv=>whnf)
     refine Qc Qb (e:=ty4) rfl h12' rfl rfl rfl Oj fun w13 h13 ho13 => ?_
     refine Hh ?_;refine⟨(),⟨ho13.ext hx12 Om,?_⟩,Rr⟩;unfold Qb8;rw[if_neg k1,if_neg k2];exact h13
   . have k3:¬ e.kind=13:=Su k3;omega
 rintro _ w13 ⟨hx13,h13⟩;have hb13:=hb7.ext hx13;have hp13:=hp7.ext hx13;have hr13:=hrows.keep (w1:=w13) (S':=fun k=>S k/\k≠p) fun k hk1 hk2=>⟨hx13.block k hk1,hk2⟩
 have hm13:Mod S w w13:=hm7.trans (Mod.of_ext hx13);clear h12' hx12 hb12 hx11 hb11;refine Hh ?_;refine Dr (.mods (fun k=>∃ a,A=some a/\k=a.block)) [0,1,2,3,4,5,6,7,8,9] [10] (Hh ?_);replace hb13:At w13.drew b1 _ _:=hb13;replace hp13:At w13.drew p _ _:=hp13;replace h13:At w13.drew b6 _ _:=h13;replace hr13:Qbm stC 9 141 w13.drew (fun k=>S k/\k≠p) bm (Qz cs) L:=hr13.keep fun k _ hk2=>⟨rfl,hk2⟩
 replace hm13:Mod S w w13.drew:=hm13.trans (Mod.drew _);have hb6l:w8.heap.size<=w13.drew.heap.size:=hx13.drew.size;generalize w13.drew=w14 at hb13 hp13 h13 hr13 hm13 hb6l ⊢;have hAblk:∀ a,A=some a->(S a.block/\a.block≠p)/\a.block≠bm/\a.block<w8.heap.size:=fun a ha=>⟨(hrl.2 a ha).1,(hrl.2 a ha).2,(hrl.1.block ha).2⟩
 have hb1lt:=hb7.lt
 have hnb:∀ k,k=p\/k=b6\/k=b1->¬ ∃ a,A=some a/\k=a.block:=by
  rintro k hk' ⟨a,ha,rfl⟩;obtain⟨⟨q1,q2⟩,q3,q4⟩:=hAblk a ha
  have hold:w.heap.size<=a.block->False:=by
   intro hge
   -- rows lie below the old heap's end
   have:=(h.rows.own e.item);rw[hA] at this;have:=(this.1.block ha).2;omega
  rcases hk' with h' | h' | h'
  . exact q2 h'
  . omega
  . exact hold Om
 refine⟨.map (some bm),⟨hp13.one rfl,by rw[add_block];exact hnb p (.inl rfl)⟩,Hh ?_⟩;refine⟨_,⟨hb13.one rfl,by rw[add_block];exact hnb b1 (.inr (.inr rfl))⟩,Hh ?_⟩;refine⟨stC (Qb8 s0 e),⟨rfl,h13.all,hnb b6 (.inr (.inl rfl))⟩,Hh ?_⟩;intro b15 w15 hn15;refine⟨Mod.of_ext hn15.ext,Hh ?_⟩;have hown15:Own stC 9 141 0 w15 A c row:=(by have:=(hr13.own e.item).1;rw[hA,hC,hrow] at this;exact this.ext hn15.ext);refine Qd7 (news := [Qb8 s0 e]) ty141_ok Xiu by141 rfl rfl (by decide) Qo8 Qzj hown15 (Qak Qo8 hn15) (by simp;omega) (by simp;omega) (Zu _) ?_;intro A' c' w16 hown16 hg16 hA16;refine⟨Xx hg16 fun k hk' => ?_,?_⟩
 . cases A with
   | none=>simp at hk'
   | some a=>exact⟨a,rfl,Su hk'.symm⟩
 refine Hh ?_
 have hbm16:MapAt w16 bm Value.string (toV (Qz cs) L):=by
  refine(hr13.map.ext hn15.ext).keep (hg16.block bm (hr13.map.ext hn15.ext).lt ?_);intro e'
  cases A with
  | none=>simp at e'
  | some a=>exact(hAblk a rfl).2.1 (Su e'.symm)
 refine Qx Qwz (Qo Xb) hbm16 e.item _ fun w17 hm17 ho17 => ?_
 refine Hh ?_;have hbmp:bm≠p:=hr13.mine.2
 have hp17:At w17 p 138 (Xhl (cs ++ [e]) bm):=by
  have h1:=hp13.ext hn15.ext
  have h2:At w16 p 138 (Xhl (cs ++ [e]) bm):=(hg16.block p h1.lt (fun e'=>by
   cases A with
   | none=>simp at e'
   | some a=>exact(hAblk a rfl).1.2 (Su e'.symm))).trans h1
  exact ho17.at_ h2 (Ne.symm hbmp)
 have hpush:=hr13.push (k:=e.item) (r:=row ++ [Qb8 s0 e]) (by simp) hn15.ext (by rw[hA];exact hg16) (by rw[hA];exact hA16) hown16 hm17 ho17;have hplt14:p<w14.heap.size:=hp13.lt;refine⟨rfl,⟨bm,Xc L e.item (A',c'),.inl h.mine,Q9i h.rise hl,hp17,?_⟩,?_⟩
 . rw[Qba];unfold Qff;rw[hrow];have:Qfb row e=Qb8 s0 e:=by unfold Qfb;rw[hs0]
   rw[this];refine hpush.keep fun k _ hk2=>⟨rfl,?_⟩
   rcases hk2 with hk2 | hk2
   . exact⟨.inl hk2.1,hk2.2⟩
   . exact⟨.inr (by have:=hm13.size;omega),Om⟩
 . refine Qn hm13 ((Mod.of_ext hn15.ext).trans ((Xx hg16 fun k hk' => ?_).trans (Qj ho17 (.inl h.rows.mine.1))))
   cases A with
   | none=>simp at hk'
   | some a =>
     have:k=a.block:=Su hk'.symm;rw[this];exact .inl (hAblk a rfl).1.1
section
variable {κ:Type} [DecidableEq κ] {β:Type}
def Xj (f:β->Value) (L:List (κ×β)):List (κ×Value):=L.map fun x=>(x.1,f x.2)
theorem Qkk (f:β->Value) (k:κ):∀ L:List (κ×β),Qe (Xj f L) k=(Qe L k).map f
 | []=>rfl
 | x :: L=>by
   simp only[Xj,Zm,Qe]
   by_cases e:k=x.1
   . rw[if_pos e,if_pos e];rfl
   . rw[if_neg e,if_neg e];exact Qkk f k L
theorem Xa (f:β->Value) (k:κ) (v:β):∀ L:List (κ×β),Xc (Xj f L) k (f v)=Xj f (Xc L k v)
 | []=>rfl
 | x :: L=>by
   simp only[Xj,Zm,Xc]
   by_cases e:k=x.1
   . rw[if_pos e,if_pos e];rfl
   . rw[if_neg e,if_neg e,Zm];congr 1;exact Xa f k v L
theorem Xo (f:β->Value) (k:κ) (L:List (κ×β)) (d:β):(Qe (Xj f L) k).getD (f d)=f ((Qe L k).getD d):=by
 rw[Qkk];cases Qe L k <;> rfl
end
abbrev LK:=Bj×Bj
def Qpk (k:LK):List Value := [.string k.1,.string k.2]
def lnk (k:LK):Value := .agg (Qpk k).toArray
theorem Qa6:Qtw Tryz.prog 197 lnk :=
 Qhw (encl:=Qpk) Qb st197 (fun k=>rfl)
  (fun a b=>by
   show some (decide (a.1=b.1)&&(decide (a.2=b.2)&&true))=some (decide (a=b))
   rw[Zc7];congr 1
   by_cases h1:a.1=b.1 <;> by_cases h2:a.2=b.2 <;> simp[Prod.ext_iff,h1,h2])
  (fun k=>by simp[Instr.sameBits,Qpk,Go.MapKept.bytes_beq])
structure Cw where
 done:List (LK×Bool)
 shown:List (LK×Int)
 hidden:List (LK×Bool)
 follows:List (LK×Bool)
 mutes:List (LK×Bool)
 liked:List (LK×Bool)
 fans:List (Bj×Int)
structure CwB where
 done:Nat
 shown:Nat
 hidden:Nat
 follows:Nat
 mutes:Nat
 liked:Nat
 fans:Nat
def CwB.all (b:CwB):List Nat := [b.done,b.shown,b.hidden,b.follows,b.mutes,b.liked,b.fans]
abbrev vi:Int->Value:=Value.int .i64
structure Qeb (w:World) (b:CwB) (c:Cw):Prop where
 done:MapAt w b.done lnk (Xj Value.bool c.done)
 shown:MapAt w b.shown lnk (Xj vi c.shown)
 hidden:MapAt w b.hidden lnk (Xj Value.bool c.hidden)
 follows:MapAt w b.follows lnk (Xj Value.bool c.follows)
 mutes:MapAt w b.mutes lnk (Xj Value.bool c.mutes)
 liked:MapAt w b.liked lnk (Xj Value.bool c.liked)
 fans:MapAt w b.fans Value.string (Xj vi c.fans)
theorem Qeb.keep {w w':World} {b:CwB} {c:Cw} (h:Qeb w b c) (hk:∀ k∈b.all,w'.heap[k]? = w.heap[k]?):Qeb w' b c :=
 ⟨h.done.keep (hk _ (by simp[CwB.all])),h.shown.keep (hk _ (by simp[CwB.all])),h.hidden.keep (hk _ (by simp[CwB.all])),h.follows.keep (hk _ (by simp[CwB.all])),
  h.mutes.keep (hk _ (by simp[CwB.all])),h.liked.keep (hk _ (by simp[CwB.all])),h.fans.keep (hk _ (by simp[CwB.all]))⟩
theorem Qeb.lt {w:World} {b:CwB} {c:Cw} (h:Qeb w b c):∀ k∈b.all,k<w.heap.size:=by
 intro k hk;simp only[CwB.all,Zr,List.not_mem_nil,or_false] at hk;rcases hk with rfl | rfl | rfl | rfl | rfl | rfl | rfl
 . exact h.done.lt
 . exact h.shown.lt
 . exact h.hidden.lt
 . exact h.follows.lt
 . exact h.mutes.lt
 . exact h.liked.lt
 . exact h.fans.lt
theorem Qeb.ext {w w':World} {b:CwB} {c:Cw} (h:Qeb w b c) (hx:Ext w w'):Qeb w' b c:=h.keep fun k hk=>hx.block k (h.lt k hk)
theorem Xu {b:CwB} (h:b.all.Nodup) {i j x y:Nat} (hi:b.all[i]? = some x) (hj:b.all[j]? = some y) (hij:i≠j):x≠y:=by
 rintro rfl;have hi':i<b.all.length:=(Zi.1 hi).1;exact hij ((List.getElem?_inj hi' h).1 (hi.trans hj.symm))
theorem Qeb.upd_done {w w':World} {b:CwB} {c:Cw} (h:Qeb w b c) (hnd:b.all.Nodup) (ho:Only w w' b.done) {d:List (LK×Bool)} (hm:MapAt w' b.done lnk (Xj Value.bool d)):Qeb w' b { c with done:=d } :=
 ⟨hm,h.shown.only ho (Xu hnd (i:=1) (j:=0) rfl rfl (by decide)),h.hidden.only ho (Xu hnd (i:=2) (j:=0) rfl rfl (by decide)),h.follows.only ho (Xu hnd (i:=3) (j:=0) rfl rfl (by decide)),h.mutes.only ho (Xu hnd (i:=4) (j:=0) rfl rfl (by decide)),h.liked.only ho (Xu hnd (i:=5) (j:=0) rfl rfl (by decide)),h.fans.only ho (Xu hnd (i:=6) (j:=0) rfl rfl (by decide))⟩
theorem Qeb.upd_shown {w w':World} {b:CwB} {c:Cw} (h:Qeb w b c) (hnd:b.all.Nodup) (ho:Only w w' b.shown) {d:List (LK×Int)} (hm:MapAt w' b.shown lnk (Xj vi d)):Qeb w' b { c with shown:=d } :=
 ⟨h.done.only ho (Xu hnd (i:=0) (j:=1) rfl rfl (by decide)),hm,h.hidden.only ho (Xu hnd (i:=2) (j:=1) rfl rfl (by decide)),h.follows.only ho (Xu hnd (i:=3) (j:=1) rfl rfl (by decide)),h.mutes.only ho (Xu hnd (i:=4) (j:=1) rfl rfl (by decide)),h.liked.only ho (Xu hnd (i:=5) (j:=1) rfl rfl (by decide)),h.fans.only ho (Xu hnd (i:=6) (j:=1) rfl rfl (by decide))⟩
theorem Qeb.upd_hidden {w w':World} {b:CwB} {c:Cw} (h:Qeb w b c) (hnd:b.all.Nodup) (ho:Only w w' b.hidden) {d:List (LK×Bool)} (hm:MapAt w' b.hidden lnk (Xj Value.bool d)):Qeb w' b { c with hidden:=d } :=
 ⟨h.done.only ho (Xu hnd (i:=0) (j:=2) rfl rfl (by decide)),h.shown.only ho (Xu hnd (i:=1) (j:=2) rfl rfl (by decide)),hm,h.follows.only ho (Xu hnd (i:=3) (j:=2) rfl rfl (by decide)),h.mutes.only ho (Xu hnd (i:=4) (j:=2) rfl rfl (by decide)),h.liked.only ho (Xu hnd (i:=5) (j:=2) rfl rfl (by decide)),h.fans.only ho (Xu hnd (i:=6) (j:=2) rfl rfl (by decide))⟩
theorem Qeb.upd_follows {w w':World} {b:CwB} {c:Cw} (h:Qeb w b c) (hnd:b.all.Nodup) (ho:Only w w' b.follows) {d:List (LK×Bool)} (hm:MapAt w' b.follows lnk (Xj Value.bool d)):Qeb w' b { c with follows:=d } :=
 ⟨h.done.only ho (Xu hnd (i:=0) (j:=3) rfl rfl (by decide)),h.shown.only ho (Xu hnd (i:=1) (j:=3) rfl rfl (by decide)),h.hidden.only ho (Xu hnd (i:=2) (j:=3) rfl rfl (by decide)),hm,h.mutes.only ho (Xu hnd (i:=4) (j:=3) rfl rfl (by decide)),h.liked.only ho (Xu hnd (i:=5) (j:=3) rfl rfl (by decide)),h.fans.only ho (Xu hnd (i:=6) (j:=3) rfl rfl (by decide))⟩
theorem Qeb.upd_mutes {w w':World} {b:CwB} {c:Cw} (h:Qeb w b c) (hnd:b.all.Nodup) (ho:Only w w' b.mutes) {d:List (LK×Bool)} (hm:MapAt w' b.mutes lnk (Xj Value.bool d)):Qeb w' b { c with mutes:=d } :=
 ⟨h.done.only ho (Xu hnd (i:=0) (j:=4) rfl rfl (by decide)),h.shown.only ho (Xu hnd (i:=1) (j:=4) rfl rfl (by decide)),h.hidden.only ho (Xu hnd (i:=2) (j:=4) rfl rfl (by decide)),h.follows.only ho (Xu hnd (i:=3) (j:=4) rfl rfl (by decide)),hm,h.liked.only ho (Xu hnd (i:=5) (j:=4) rfl rfl (by decide)),h.fans.only ho (Xu hnd (i:=6) (j:=4) rfl rfl (by decide))⟩
theorem Qeb.upd_liked {w w':World} {b:CwB} {c:Cw} (h:Qeb w b c) (hnd:b.all.Nodup) (ho:Only w w' b.liked) {d:List (LK×Bool)} (hm:MapAt w' b.liked lnk (Xj Value.bool d)):Qeb w' b { c with liked:=d } :=
 ⟨h.done.only ho (Xu hnd (i:=0) (j:=5) rfl rfl (by decide)),h.shown.only ho (Xu hnd (i:=1) (j:=5) rfl rfl (by decide)),h.hidden.only ho (Xu hnd (i:=2) (j:=5) rfl rfl (by decide)),h.follows.only ho (Xu hnd (i:=3) (j:=5) rfl rfl (by decide)),h.mutes.only ho (Xu hnd (i:=4) (j:=5) rfl rfl (by decide)),hm,h.fans.only ho (Xu hnd (i:=6) (j:=5) rfl rfl (by decide))⟩
theorem Qeb.upd_fans {w w':World} {b:CwB} {c:Cw} (h:Qeb w b c) (hnd:b.all.Nodup) (ho:Only w w' b.fans) {d:List (Bj×Int)} (hm:MapAt w' b.fans Value.string (Xj vi d)):Qeb w' b { c with fans:=d } :=
 ⟨h.done.only ho (Xu hnd (i:=0) (j:=6) rfl rfl (by decide)),h.shown.only ho (Xu hnd (i:=1) (j:=6) rfl rfl (by decide)),h.hidden.only ho (Xu hnd (i:=2) (j:=6) rfl rfl (by decide)),h.follows.only ho (Xu hnd (i:=3) (j:=6) rfl rfl (by decide)),h.mutes.only ho (Xu hnd (i:=4) (j:=6) rfl rfl (by decide)),h.liked.only ho (Xu hnd (i:=5) (j:=6) rfl rfl (by decide)),hm⟩
def thing (e:Ev):LK:=(e.person,e.item)
def mkr (e:Ev):LK:=(e.person,e.text)
def Qdl (c:Cw) (e:Ev):Cw :=
 if e.kind=0 then { c with shown:=Xc c.shown (thing e) ((Qe c.shown (thing e)).getD 0+1) }
 else if e.kind=2\/e.kind=3 then { c with done:=Xc c.done (thing e) true }
 else if e.kind=5\/e.kind=6 then { c with hidden:=Xc c.hidden (thing e) (decide (e.kind=5)) }
 else if e.kind=7\/e.kind=8 then { c with follows:=Xc c.follows (mkr e) (decide (e.kind=7)) }
 else if e.kind=9\/e.kind=10 then { c with mutes:=Xc c.mutes (mkr e) (decide (e.kind=9)) }
 else c
def Qsu (c:Cw) (e:Ev):Cw :=
 if 0<Qy e/\(Qe c.liked (thing e)).getD false=false then { c with liked:=Xc c.liked (thing e) true,fans:=Xc c.fans e.item ((Qe c.fans e.item).getD 0+1) } else c
def Qd1 (c:Cw) (e:Ev):Cw:=Qsu (Qdl c e) e
structure Qm3 (c:Cw) (n:Int):Prop where
 shown:∀ k,0<=(Qe c.shown k).getD 0/\(Qe c.shown k).getD 0<=n
 fans:∀ k,0<=(Qe c.fans k).getD 0/\(Qe c.fans k).getD 0<=n
theorem Qp6 {κ:Type} [DecidableEq κ] {L:List (κ×Int)} {n:Int} (h:∀ k,0<=(Qe L k).getD 0/\(Qe L k).getD 0<=n) (k:κ):∀ k',0<=(Qe (Xc L k ((Qe L k).getD 0+1)) k').getD 0/\(Qe (Xc L k ((Qe L k).getD 0+1)) k').getD 0<=n+1:=by
 intro k';rw[Xn];have:=h k;have:=h k';split
 . simp;omega
 . omega
theorem Qip {c:Cw} {n:Int} (h:Qm3 c n) (e:Ev):(∀ k,0<=(Qe (Qdl c e).shown k).getD 0/\(Qe (Qdl c e).shown k).getD 0<=n+1)/\(Qdl c e).fans=c.fans/\(Qdl c e).liked=c.liked:=by
 unfold Qdl;have hs:∀ k,0<=(Qe c.shown k).getD 0/\(Qe c.shown k).getD 0<=n+1:=fun k=>⟨(h.shown k).1,by have:=(h.shown k).2;omega⟩
 split
 . exact⟨Qp6 h.shown _,rfl,rfl⟩
 . split
   . exact⟨hs,rfl,rfl⟩
   . split
     . exact⟨hs,rfl,rfl⟩
     . split
       . exact⟨hs,rfl,rfl⟩
       . split <;> exact⟨hs,rfl,rfl⟩
theorem Q35 {c:Cw} {n:Int} (h:Qm3 c n) (e:Ev):Qm3 (Qd1 c e) (n+1):=by
 obtain⟨h1,h2,h3⟩:=Qip h e;have hf:∀ k,0<=(Qe c.fans k).getD 0/\(Qe c.fans k).getD 0<=n+1:=fun k=>⟨(h.fans k).1,by have:=(h.fans k).2;omega⟩
 unfold Qd1 Qsu;split
 . refine⟨h1,?_⟩;rw[h2];exact Qp6 h.fans _
 . refine⟨h1,?_⟩;rw[h2];exact hf
theorem Q8b {a b:LK} (h:lnk a=lnk b):a=b:=by
 unfold lnk Qpk at h;injection h with h;have h1:=congrArg Array.toList h;simp at h1;exact Prod.ext h1.1 h1.2
theorem Qgl {κ:Type} {enc:κ->Value} (hi:∀ {a b:κ},enc a=enc b->a=b):∀ {E E':List (Ent κ)},E.map (mkE enc)=E'.map (mkE enc)->strip E=strip E'
 | [],[],_=>rfl
 | [],_ :: _,h=>by simp at h
 | _ :: _,[],h=>by simp at h
 | x :: E,y :: E',h=>by
   simp only[Zm,Zcx] at h;have h1:enc x.1=enc y.1:=congrArg MapEntry.key h.1;have h2:x.2.1=y.2.1:=congrArg MapEntry.val h.1;have h3:=Qgl hi h.2;unfold strip at h3 ⊢;rw[Zm,Zm,h3,hi h1,h2]
def crC (half n:Int) (last:Ev) (bp:Nat) (b:CwB):List Value:=vi half :: vi n :: (evC last ++ [.map (some bp),.map (some b.done),.map (some b.shown),.map (some b.hidden),.map (some b.follows),.map (some b.mutes),.map (some b.liked),.map (some b.fans)])
theorem Qh6:Tryz.prog.underlying 192=some (.map 197 4):=by kernel_rfl
theorem Xdx:Tryz.prog.underlying 193=some (.map 197 3):=by kernel_rfl
theorem Xd2:Tryz.prog.underlying 153=some (.map 9 3):=by kernel_rfl
def Qex {κ:Type} [DecidableEq κ] (b:Nat) (enc:κ->Value) (k:κ) (z:Value) (w w':World):Prop:=Mod (fun j=>j=b) w w'/\∀ L,MapAt w b enc L->∃ L',MapAt w' b enc L'/\(Qe L' k).getD z=(Qe L k).getD z
theorem Qyj {κ:Type} [DecidableEq κ] (b:Nat) (enc:κ->Value) (k:κ) (z:Value):(∀ w,Qex b enc k z w w)/\∀ a c d,Qex b enc k z a c->Qex b enc k z c d->Qex b enc k z a d :=
 ⟨fun w=>⟨Mod.refl _ _,fun L h=>⟨L,h,rfl⟩⟩,fun a c d h1 h2=>⟨h1.1.trans h2.1,fun L h=>by
  obtain⟨L1,q1,q2⟩:=h1.2 L h;obtain⟨L2,q3,q4⟩:=h2.2 L1 q1;exact⟨L2,q3,q4.trans q2⟩⟩⟩
abbrev Xiy {κ:Type} [DecidableEq κ] (b:Nat) (enc:κ->Value) (k:κ) (z:Value):Cl := .gen (Qex b enc k z) (Qyj b enc k z)
theorem Xh0 {κ:Type} [DecidableEq κ] {b:Nat} {enc:κ->Value} {k:κ} {z:Value} {w:World} {a:Addr} {v:Value} (h:w.cell? a=some v) (hb:a.block≠b):∀ w',Qex b enc k z w w'->w'.cell? a=some v:=fun w' hw=>Mod.cell hw.1 h hb
theorem Xhz {κ:Type} [DecidableEq κ] {b:Nat} {enc:κ->Value} {k:κ} {z:Value} {w:World} {a:Addr} {cs:List Value} (h:Xp w a cs) (hb:a.block≠b):∀ w',Qex b enc k z w w'->Xp w' a cs:=fun w' hw j v hj=>Mod.cell hw.1 (h j v hj) (by rw[add_block];exact hb)
theorem Qyi {κ:Type} [DecidableEq κ] {P:Program} {mt kt et:TypeId} {b:Nat} {enc:κ->Value} {k:κ} {w:World} {L:List (κ×Value)} (ht:P.underlying mt=some (.map kt et)) (K:Qtw P kt enc) {e:TyE} (he:Xe P et=some e) (hm:MapAt w b enc L) :
 RdS P (Xiy b enc k e.zero) w (Instr.lookup mt (.map (some b)) (enc k) false) ((Qe L k).getD e.zero):=fun w' hw=>by
 obtain⟨L',q1,q2⟩:=(show Qex b enc k e.zero w w' from hw).2 L hm;have:=Qg9 ht K (Qlb he w') q1 k false;rw[<- q2];simpa using this
set_option maxHeartbeats 400000 in
theorem Q8u (w:World) (pc:Nat) (half n:Int) (last:Ev) (bp:Nat) (b:CwB) (c:Cw) (hp:At w pc 195 (crC half n last bp b)) (hc:Qeb w b c) (hnd:(pc :: b.all).Nodup) (e:Ev) (N:Int) (hN:Qm3 c N) (hN2:N<1000000000000) :
 Cal Tryz.prog 183 [Pj pc,evV e] w fun r w'=>r = .tuple #[]/\Qeb w' b (Qd1 c e)/\Mod (fun k=>k∈b.all) w w':=by
 have hplt:=hp.lt;have hclt:=hc.lt;have hpn:∀ k∈b.all,pc≠k:=fun k hk e'=>(Zbc.1 hnd).1 (e' ▸ hk)
 replace hnd:b.all.Nodup:=(Zbc.1 hnd).2;refine Fi Tryz.func183 rfl _ rfl rfl (Hh ?_);intro b1 w1 hn1;have hb1:=hn1.At;have hb1e:b1=w.heap.size:=hn1.block;have hs1:=hn1.size;refine Hh ?_;refine Qfr (.mods (fun k=>w1.heap.size<=k)) (Pl.seq [0,1,2,3,4,5,6,7,8,9] (Pl.two 10 (Pl.seq [11,12,13] Pl.done) 11 (Pl.seq [10,12,13] Pl.done))) (by intro h;cases h) Qb mixed Kr (Hh ?_);have hbw:At w1.drew b1 _ _:=hb1;have hnb1:¬ (w1.heap.size<=b1):=Om;refine⟨_,⟨hbw.one rfl,by rw[add_block];exact hnb1⟩,Hh ?_⟩;refine⟨_,⟨hbw.one rfl,by rw[add_block];exact hnb1⟩,Hh ?_⟩;refine⟨_,⟨hbw.one rfl,by rw[add_block];exact hnb1⟩,Hh ?_⟩;refine⟨_,⟨hbw.one rfl,by rw[add_block];exact hnb1⟩,Hh ?_⟩;have hszd:w1.drew.heap.size=w1.heap.size:=rfl;refine⟨?_,?_⟩
 . intro b4 w2 hn2;refine⟨Mod.of_ext hn2.ext,Hh ?_⟩;intro b5 w3 hn3;refine⟨Mod.of_ext hn3.ext,Hh ?_⟩;have e4:=hn2.block;have e5:=hn3.block;have z2:=hn2.size;have z3:=hn3.size;have hne:b4≠b5:=Om;have hl4:w1.heap.size<=b4:=Om;have hl5:w1.heap.size<=b5:=Om;have h4a:=hn2.At.ext hn3.ext;have h5a:=hn3.At;have hx3:Ext w1 w3:=((Ext.refl w1).drew.trans hn2.ext).trans hn3.ext;clear hn2 hn3;refine Qc Qb (e:=ty197) rfl h4a rfl rfl rfl Oj fun w5 h45 ho5 => ?_
   refine⟨Qj ho5 hl4,Hh ?_⟩;refine Qc Qb (e:=ty197) rfl (ho5.at_ h5a (Ne.symm hne)) rfl rfl rfl Oj fun w7 h57 ho7 => ?_
   refine⟨Qj ho7 hl5,?_⟩;have hx7:Ext w1 w7:=ho7.ext (ho5.ext hx3 hl4) hl5;have h47:At w7 b4 197 (Qpk (thing e)):=ho7.at_ h45 hne;replace h57:At w7 b5 197 (Qpk (mkr e)):=h57;have hb7:=hb1.ext hx7;have hxx7:Ext w w7:=hn1.ext.trans hx7;have hp7:=hp.ext hxx7;have hc7:=hc.ext hxx7;clear h45 ho5 ho7 h4a h5a hx3 hn1 hb1 hbw;refine Hh ?_
   refine Xl Qb (ι:=Unit) (fun _ => [(0,Pj pc),(3,Pj b1),(4,Pj b4),(5,Pj b5)])
    (fun _ w'=>Qeb w' b (Qdl c e)/\Mod (fun k=>k∈b.all) w7 w') ?_ ?_
   . (conv=>whnf)
     refine⟨_,hb7.one rfl,Hh ?_⟩;refine⟨fun k0 => ?_,fun k0 => ?_⟩
     . have k0:e.kind=0:=Su k0;refine Hh ?_;refine Qdi (Xiy b.shown lnk (thing e) (Vj 0)) [(0,true),(1,true),(2,true),(3,true),(4,true),(5,false),(6,false)] [7,8] [9] [7,9] Qb mixed Kr (by first | (intro h;cases h;done) | (intro _;rfl)) (Hh ?_);replace h47:At w7.drew b4 _ _:=h47;replace hp7:At w7.drew pc _ _:=hp7;replace hc7:Qeb w7.drew b c:=hc7.keep fun _ _=>rfl
       refine⟨_,hp7.one rfl,Hh ?_⟩;refine⟨Qpk (thing e),⟨rfl,h47.all⟩,Hh ?_⟩;refine⟨_,Qyi Xdx Qa6 (e:=ty3) ty3_ok hc7.shown,?_⟩;rw[show (Qe (Xj vi c.shown) (thing e)).getD ty3.zero=vi ((Qe c.shown (thing e)).getD 0) from Xo vi _ _ 0];have hsm:=hN.shown (thing e);refine Hh ?_;refine⟨(Qe c.shown (thing e)).getD 0+1,wrap_eq rfl ⟨Om,Om⟩,Hh ?_⟩;refine Qof Xdx Qa6 (e:=ty3) ty3_ok hc7.shown (thing e) fun w8 s8 hm8 ho8 => ?_
       refine⟨⟨Qj ho8 rfl,fun L hL => ?_⟩,?_⟩
       . refine⟨_,hm8.at_,?_⟩;rw[Q9];have hLL:∀ k,Qe L k=Qe (Xj vi c.shown) k:=(by obtain⟨E1,c1,q1,q2⟩:=hL;obtain⟨E2,c2,q3,q4⟩:=hc7.shown;have h1:=q1.block;rw[q3.block] at h1;have hE:strip E2=strip E1:=(by have h2:E2.map (mkE lnk)=E1.map (mkE lnk):=(by injection h1 with h1;injection h1 with h1 _;simpa using h1);exact Qgl Q8b h2);intro k;rw[<- q2,<- q4,hE]);rw[hLL];rfl
       refine Hh ?_;refine Qog hm8 (vi ((Qe c.shown (thing e)).getD 0+1)) fun w9 hm9 ho9 => ?_
       rw[Qdf,Xa] at hm9;refine Hh ?_;refine⟨(),⟨?_,(Mod.drew _).trans ((Qj ho8 (by simp[CwB.all])).trans (Qj ho9 (by simp[CwB.all])))⟩,Rr⟩;unfold Qdl;rw[if_pos k0];exact hc7.upd_shown hnd ⟨ho9.os.trans ho8.os,ho9.tape.trans ho8.tape,ho9.output.trans ho8.output,ho9.size.trans ho8.size,fun k hk'=>(ho9.block k hk').trans (ho8.block k hk')⟩ hm9
     have k0:¬ e.kind=0:=Su k0;refine Hh ?_;refine Xl Qb (ι:=Bool) (fun i => [(0,Pj pc),(3,Pj b1),(4,Pj b4),(5,Pj b5),(17,Vj e.kind),(29,.bool i)]) (fun i w'=>i=(decide (e.kind=2)||decide (e.kind=3))/\w'=w7) ?_ ?_
     . (conv=>whnf)
       refine⟨fun q => ?_,fun q => ?_⟩
       . (conv=>whnf)
         exact⟨_,⟨by simp at q;simp[q],rfl⟩,⟨rfl,rfl,rfl,rfl,rfl,rfl,trivial⟩⟩
       refine Hh ?_;exact⟨_,⟨by simp at q;simp[q],rfl⟩,⟨rfl,rfl,rfl,rfl,rfl,rfl,trivial⟩⟩
     rintro _ w9 ⟨rfl,hw9⟩;replace hw9:=hw9.symm;subst hw9;refine Hh ?_;refine⟨fun k2 => ?_,fun k2 => ?_⟩
     . have k2:e.kind=2\/e.kind=3:=Su k2;refine Hh ?_;refine Dr .same [0,1,2,3,4] [5] (Hh ?_);replace hb7:At w7.drew b1 _ _:=hb7;replace h47:At w7.drew b4 _ _:=h47;replace h57:At w7.drew b5 _ _:=h57;replace hp7:At w7.drew pc _ _:=hp7;replace hc7:Qeb w7.drew b c:=hc7.keep fun _ _=>rfl
       refine⟨_,hp7.one rfl,Hh ?_⟩;refine⟨Qpk (thing e),⟨rfl,h47.all⟩,Hh ?_⟩;refine Qx Qh6 Qa6 hc7.done (thing e) (.bool true) fun w8 hm8 ho8 => ?_
       rw[Xa] at hm8;refine Hh ?_;refine⟨(),⟨?_,(Mod.drew _).trans (Qj ho8 (by simp[CwB.all]))⟩,Rr⟩;unfold Qdl;rw[if_neg k0,if_pos k2];exact(hc7.upd_done hnd ho8 hm8)
     have k2:¬ (e.kind=2\/e.kind=3):=Su k2;refine Hh ?_;refine Xl Qb (ι:=Bool) (fun i => [(0,Pj pc),(3,Pj b1),(4,Pj b4),(5,Pj b5),(17,Vj e.kind),(37,.bool i)]) (fun i w'=>i=(decide (e.kind=5)||decide (e.kind=6))/\w'=w7) ?_ ?_
     . (conv=>whnf)
       refine⟨fun q => ?_,fun q => ?_⟩
       . (conv=>whnf)
         exact⟨_,⟨by simp at q;simp[q],rfl⟩,⟨rfl,rfl,rfl,rfl,rfl,rfl,trivial⟩⟩
       refine Hh ?_;exact⟨_,⟨by simp at q;simp[q],rfl⟩,⟨rfl,rfl,rfl,rfl,rfl,rfl,trivial⟩⟩
     rintro _ w9 ⟨rfl,hw9⟩;replace hw9:=hw9.symm;subst hw9;refine Hh ?_;refine⟨fun k5 => ?_,fun k5 => ?_⟩
     . have k5:e.kind=5\/e.kind=6:=Su k5;refine Hh ?_;refine Dr .same [0,1,2,3,4,5,6,7] [8] (Hh ?_);replace hb7:At w7.drew b1 _ _:=hb7;replace h47:At w7.drew b4 _ _:=h47;replace h57:At w7.drew b5 _ _:=h57;replace hp7:At w7.drew pc _ _:=hp7;replace hc7:Qeb w7.drew b c:=hc7.keep fun _ _=>rfl
       refine⟨_,hp7.one rfl,Hh ?_⟩;refine⟨Qpk (thing e),⟨rfl,h47.all⟩,Hh ?_⟩;refine⟨_,hb7.one rfl,Hh ?_⟩;refine Qx Qh6 Qa6 hc7.hidden (thing e) (.bool (decide (e.kind=5))) fun w8 hm8 ho8 => ?_
       rw[Xa] at hm8;refine Hh ?_;refine⟨(),⟨?_,(Mod.drew _).trans (Qj ho8 (by simp[CwB.all]))⟩,Rr⟩;unfold Qdl;rw[if_neg k0,if_neg k2,if_pos k5];exact(hc7.upd_hidden hnd ho8 hm8)
     have k5:¬ (e.kind=5\/e.kind=6):=Su k5;refine Hh ?_;refine Xl Qb (ι:=Bool) (fun i => [(0,Pj pc),(3,Pj b1),(4,Pj b4),(5,Pj b5),(17,Vj e.kind),(48,.bool i)]) (fun i w'=>i=(decide (e.kind=7)||decide (e.kind=8))/\w'=w7) ?_ ?_
     . (conv=>whnf)
       refine⟨fun q => ?_,fun q => ?_⟩
       . (conv=>whnf)
         exact⟨_,⟨by simp at q;simp[q],rfl⟩,⟨rfl,rfl,rfl,rfl,rfl,rfl,trivial⟩⟩
       refine Hh ?_;exact⟨_,⟨by simp at q;simp[q],rfl⟩,⟨rfl,rfl,rfl,rfl,rfl,rfl,trivial⟩⟩
     rintro _ w9 ⟨rfl,hw9⟩;replace hw9:=hw9.symm;subst hw9;refine Hh ?_;refine⟨fun k7 => ?_,fun k7 => ?_⟩
     . have k7:e.kind=7\/e.kind=8:=Su k7;refine Hh ?_;refine Dr .same [0,1,2,3,4,5,6,7] [8] (Hh ?_);replace hb7:At w7.drew b1 _ _:=hb7;replace h47:At w7.drew b4 _ _:=h47;replace h57:At w7.drew b5 _ _:=h57;replace hp7:At w7.drew pc _ _:=hp7;replace hc7:Qeb w7.drew b c:=hc7.keep fun _ _=>rfl
       refine⟨_,hp7.one rfl,Hh ?_⟩;refine⟨Qpk (mkr e),⟨rfl,h57.all⟩,Hh ?_⟩;refine⟨_,hb7.one rfl,Hh ?_⟩;refine Qx Qh6 Qa6 hc7.follows (mkr e) (.bool (decide (e.kind=7))) fun w8 hm8 ho8 => ?_
       rw[Xa] at hm8;refine Hh ?_;refine⟨(),⟨?_,(Mod.drew _).trans (Qj ho8 (by simp[CwB.all]))⟩,Rr⟩;unfold Qdl;rw[if_neg k0,if_neg k2,if_neg k5,if_pos k7];exact(hc7.upd_follows hnd ho8 hm8)
     have k7:¬ (e.kind=7\/e.kind=8):=Su k7;refine Hh ?_;refine Xl Qb (ι:=Bool) (fun i => [(0,Pj pc),(3,Pj b1),(4,Pj b4),(5,Pj b5),(17,Vj e.kind),(59,.bool i)]) (fun i w'=>i=(decide (e.kind=9)||decide (e.kind=10))/\w'=w7) ?_ ?_
     . (conv=>whnf)
       refine⟨fun q => ?_,fun q => ?_⟩
       . (conv=>whnf)
         exact⟨_,⟨by simp at q;simp[q],rfl⟩,⟨rfl,rfl,rfl,rfl,rfl,rfl,trivial⟩⟩
       refine Hh ?_;exact⟨_,⟨by simp at q;simp[q],rfl⟩,⟨rfl,rfl,rfl,rfl,rfl,rfl,trivial⟩⟩
     rintro _ w9 ⟨rfl,hw9⟩;replace hw9:=hw9.symm;subst hw9;refine Hh ?_;refine⟨fun k9 => ?_,fun k9 => ?_⟩
     . have k9:e.kind=9\/e.kind=10:=Su k9;refine Hh ?_;refine Dr .same [0,1,2,3,4,5,6,7] [8] (Hh ?_);replace hb7:At w7.drew b1 _ _:=hb7;replace h47:At w7.drew b4 _ _:=h47;replace h57:At w7.drew b5 _ _:=h57;replace hp7:At w7.drew pc _ _:=hp7;replace hc7:Qeb w7.drew b c:=hc7.keep fun _ _=>rfl
       refine⟨_,hp7.one rfl,Hh ?_⟩;refine⟨Qpk (mkr e),⟨rfl,h57.all⟩,Hh ?_⟩;refine⟨_,hb7.one rfl,Hh ?_⟩;refine Qx Qh6 Qa6 hc7.mutes (mkr e) (.bool (decide (e.kind=9))) fun w8 hm8 ho8 => ?_
       rw[Xa] at hm8;refine Hh ?_;refine⟨(),⟨?_,(Mod.drew _).trans (Qj ho8 (by simp[CwB.all]))⟩,Rr⟩;unfold Qdl;rw[if_neg k0,if_neg k2,if_neg k5,if_neg k7,if_pos k9];exact(hc7.upd_mutes hnd ho8 hm8)
     have k9:¬ (e.kind=9\/e.kind=10):=Su k9;refine Hh ?_;refine⟨(),⟨?_,Mod.refl _ _⟩,Rr⟩;unfold Qdl;rw[if_neg k0,if_neg Om,if_neg Om,if_neg Om,if_neg Om];exact hc7
   rintro _ w8 ⟨hc8,hm8⟩
   have hnall:∀ k,k=pc\/w.heap.size<=k->¬ k∈b.all:=by
    intro k hk hin;rcases hk with rfl | hk
    . exact hpn _ hin rfl
    . have:=hclt k hin;omega
   have hb8:At w8 b1 _ _:=hb7.mod hm8 (hnall b1 (.inr Om));have h48:At w8 b4 _ _:=h47.mod hm8 (hnall b4 (.inr Om));have hp8:At w8 pc _ _:=hp7.mod hm8 (hnall pc (.inl rfl));have hm8':Mod (fun k=>k∈b.all) w w8:=(Mod.of_ext hxx7).trans hm8;obtain⟨q1,q2,q3⟩:=Qip hN e;have hns:Qd1 c e=Qsu (Qdl c e) e:=rfl;generalize Qdl c e=c1 at hc8 q1 q2 q3 hns;rw[hns];clear hb7 h47 h57 hp7 hc7 hm8 hxx7 hx7;refine Hh ?_;refine Dr .ext [0,1,2,3,4,5,6,7,8,9,10,11] [] (Hh ?_);replace hb8:At w8.drew b1 _ _:=hb8;replace h48:At w8.drew b4 _ _:=h48;replace hp8:At w8.drew pc _ _:=hp8;replace hc8:Qeb w8.drew b c1:=hc8.keep fun _ _=>rfl
   replace hm8':Mod (fun k=>k∈b.all) w w8.drew:=hm8'.trans (Mod.drew _);generalize w8.drew=w9 at hb8 h48 hp8 hc8 hm8' ⊢;refine⟨evC e,⟨rfl,hb8.all⟩,Hh ?_⟩;refine(Qcu e w9).mono ?_;rintro _ w10 ⟨rfl,hx10⟩;refine⟨hx10,?_⟩;have hb10:=hb8.ext hx10;have h410:=h48.ext hx10;have hp10:=hp8.ext hx10;have hc10:=hc8.ext hx10;have hm10:Mod (fun k=>k∈b.all) w w10:=hm8'.trans (Mod.of_ext hx10);refine Hh ?_;refine⟨_,fun _=>hp10.one rfl,Hh ?_⟩;refine⟨Qpk (thing e),fun _=>⟨rfl,h410.all⟩,Hh ?_⟩
   refine⟨.bool ((Qe c1.liked (thing e)).getD false),fun _=>(by
    have:=Xz Qh6 Qa6 (e:=ty4) ty4_ok (cl := .ext) (Qhv hc10.liked.lt) hc10.liked (thing e);rw[show (Qe (Xj Value.bool c1.liked) (thing e)).getD ty4.zero=Value.bool ((Qe c1.liked (thing e)).getD false) from Xo Value.bool _ _ false] at this;exact this),Hh ?_⟩
   constructor
   . intro hcd;have hcd:(decide (0<Qy e) && !((Qe c1.liked (thing e)).getD false))=true:=hcd;rw[Zl,decide_eq_true_eq,Zai] at hcd;refine Hh ?_;refine Dr .same [0,1,2,3,4] [5] (Hh ?_);refine⟨.map (some b.liked),show w10.drew.cell? _=_ from hp10.one rfl,Hh ?_⟩;refine⟨Qpk (thing e),⟨rfl,show Xp w10.drew _ _ from h410.all⟩,Hh ?_⟩;refine Qx (w:=w10.drew) Qh6 Qa6 (hc10.liked.keep rfl) (thing e) (.bool true) fun w11 hm11 ho11 => ?_
     rw[Xa] at hm11;have hb11:At w11 b1 _ _:=ho11.at_ hb10 (by have:=hclt b.liked (by simp[CwB.all]);omega);have hp11:At w11 pc _ _:=ho11.at_ hp10 (hpn _ (by simp[CwB.all]));have hf11:MapAt w11 b.fans Value.string (Xj vi c1.fans):=(hc10.upd_liked (w':=w11) hnd ⟨ho11.os,ho11.tape,ho11.output,ho11.size,ho11.block⟩ hm11).fans;refine Hh ?_;refine Dr .same [0,1,2,3,4,5,6,7] [8] (Hh ?_);refine⟨.map (some b.fans),show w11.drew.cell? _=_ from hp11.one rfl,Hh ?_⟩;refine⟨_,show w11.drew.cell? _=_ from hb11.one rfl,Hh ?_⟩
     refine⟨vi ((Qe c1.fans e.item).getD 0),(by
      have:=Xz Xd2 (Qo Xb) (e:=ty3) ty3_ok (cl := .same) Qp (hf11.keep (w':=w11.drew) rfl) e.item;rw[show (Qe (Xj vi c1.fans) e.item).getD ty3.zero=vi ((Qe c1.fans e.item).getD 0) from Xo vi _ _ 0] at this;exact this),Hh ?_⟩
     have hsm:=hN.fans e.item;rw[<- q2] at hsm;refine⟨(Qe c1.fans e.item).getD 0+1,wrap_eq rfl ⟨Om,Om⟩,Hh ?_⟩;refine Qx (w:=w11.drew) Xd2 (Qo Xb) (hf11.keep rfl) e.item (vi ((Qe c1.fans e.item).getD 0+1)) fun w12 hm12 ho12 => ?_
     rw[Xa] at hm12;refine Hh ?_;refine⟨rfl,?_,hm10.trans ((Mod.drew _).trans ((Qj ho11 (by simp[CwB.all])).trans ((Mod.drew _).trans (Qj ho12 (by simp[CwB.all])))))⟩;unfold Qsu;rw[if_pos hcd];exact(hc10.upd_liked (w':=w11) hnd ⟨ho11.os,ho11.tape,ho11.output,ho11.size,ho11.block⟩ hm11).upd_fans hnd ⟨ho12.os,ho12.tape,ho12.output,ho12.size,ho12.block⟩ hm12
   . intro hcd;have hcd:(decide (0<Qy e) && !((Qe c1.liked (thing e)).getD false))=false:=hcd;refine Hh ?_;refine⟨rfl,?_,hm10⟩;unfold Qsu
     rw[if_neg (by
      rintro ⟨h1,h2⟩;rw[h2,decide_eq_true h1] at hcd;cases hcd)]
     exact hc10
 . intro b5 w2 hn2;refine⟨Mod.of_ext hn2.ext,Hh ?_⟩;intro b4 w3 hn3;refine⟨Mod.of_ext hn3.ext,Hh ?_⟩;have e5:=hn2.block;have e4:=hn3.block;have z2:=hn2.size;have z3:=hn3.size;have hne:b4≠b5:=Om;have hl4:w1.heap.size<=b4:=Om;have hl5:w1.heap.size<=b5:=Om;have h5a:=hn2.At.ext hn3.ext;have h4a:=hn3.At;have hx3:Ext w1 w3:=((Ext.refl w1).drew.trans hn2.ext).trans hn3.ext;clear hn2 hn3;refine Qc Qb (e:=ty197) rfl h4a rfl rfl rfl Oj fun w5 h45 ho5 => ?_
   refine⟨Qj ho5 hl4,Hh ?_⟩;refine Qc Qb (e:=ty197) rfl (ho5.at_ h5a (Ne.symm hne)) rfl rfl rfl Oj fun w7 h57 ho7 => ?_
   refine⟨Qj ho7 hl5,?_⟩;have hx7:Ext w1 w7:=ho7.ext (ho5.ext hx3 hl4) hl5;have h47:At w7 b4 197 (Qpk (thing e)):=ho7.at_ h45 hne;replace h57:At w7 b5 197 (Qpk (mkr e)):=h57;have hb7:=hb1.ext hx7;have hxx7:Ext w w7:=hn1.ext.trans hx7;have hp7:=hp.ext hxx7;have hc7:=hc.ext hxx7;clear h45 ho5 ho7 h4a h5a hx3 hn1 hb1 hbw;refine Hh ?_
   refine Xl Qb (ι:=Unit) (fun _ => [(0,Pj pc),(3,Pj b1),(4,Pj b4),(5,Pj b5)])
    (fun _ w'=>Qeb w' b (Qdl c e)/\Mod (fun k=>k∈b.all) w7 w') ?_ ?_
   . (conv=>whnf)
     refine⟨_,hb7.one rfl,Hh ?_⟩;refine⟨fun k0 => ?_,fun k0 => ?_⟩
     . have k0:e.kind=0:=Su k0;refine Hh ?_;refine Qdi (Xiy b.shown lnk (thing e) (Vj 0)) [(0,true),(1,true),(2,true),(3,true),(4,true),(5,false),(6,false)] [7,8] [9] [7,9] Qb mixed Kr (by first | (intro h;cases h;done) | (intro _;rfl)) (Hh ?_);replace h47:At w7.drew b4 _ _:=h47;replace hp7:At w7.drew pc _ _:=hp7;replace hc7:Qeb w7.drew b c:=hc7.keep fun _ _=>rfl
       refine⟨_,hp7.one rfl,Hh ?_⟩;refine⟨Qpk (thing e),⟨rfl,h47.all⟩,Hh ?_⟩;refine⟨_,Qyi Xdx Qa6 (e:=ty3) ty3_ok hc7.shown,?_⟩;rw[show (Qe (Xj vi c.shown) (thing e)).getD ty3.zero=vi ((Qe c.shown (thing e)).getD 0) from Xo vi _ _ 0];have hsm:=hN.shown (thing e);refine Hh ?_;refine⟨(Qe c.shown (thing e)).getD 0+1,wrap_eq rfl ⟨Om,Om⟩,Hh ?_⟩;refine Qof Xdx Qa6 (e:=ty3) ty3_ok hc7.shown (thing e) fun w8 s8 hm8 ho8 => ?_
       refine⟨⟨Qj ho8 rfl,fun L hL => ?_⟩,?_⟩
       . refine⟨_,hm8.at_,?_⟩;rw[Q9];have hLL:∀ k,Qe L k=Qe (Xj vi c.shown) k:=(by obtain⟨E1,c1,q1,q2⟩:=hL;obtain⟨E2,c2,q3,q4⟩:=hc7.shown;have h1:=q1.block;rw[q3.block] at h1;have hE:strip E2=strip E1:=(by have h2:E2.map (mkE lnk)=E1.map (mkE lnk):=(by injection h1 with h1;injection h1 with h1 _;simpa using h1);exact Qgl Q8b h2);intro k;rw[<- q2,<- q4,hE]);rw[hLL];rfl
       refine Hh ?_;refine Qog hm8 (vi ((Qe c.shown (thing e)).getD 0+1)) fun w9 hm9 ho9 => ?_
       rw[Qdf,Xa] at hm9;refine Hh ?_;refine⟨(),⟨?_,(Mod.drew _).trans ((Qj ho8 (by simp[CwB.all])).trans (Qj ho9 (by simp[CwB.all])))⟩,Rr⟩;unfold Qdl;rw[if_pos k0];exact hc7.upd_shown hnd ⟨ho9.os.trans ho8.os,ho9.tape.trans ho8.tape,ho9.output.trans ho8.output,ho9.size.trans ho8.size,fun k hk'=>(ho9.block k hk').trans (ho8.block k hk')⟩ hm9
     have k0:¬ e.kind=0:=Su k0;refine Hh ?_;refine Xl Qb (ι:=Bool) (fun i => [(0,Pj pc),(3,Pj b1),(4,Pj b4),(5,Pj b5),(17,Vj e.kind),(29,.bool i)]) (fun i w'=>i=(decide (e.kind=2)||decide (e.kind=3))/\w'=w7) ?_ ?_
     . (conv=>whnf)
       refine⟨fun q => ?_,fun q => ?_⟩
       . (conv=>whnf)
         exact⟨_,⟨by simp at q;simp[q],rfl⟩,⟨rfl,rfl,rfl,rfl,rfl,rfl,trivial⟩⟩
       refine Hh ?_;exact⟨_,⟨by simp at q;simp[q],rfl⟩,⟨rfl,rfl,rfl,rfl,rfl,rfl,trivial⟩⟩
     rintro _ w9 ⟨rfl,hw9⟩;replace hw9:=hw9.symm;subst hw9;refine Hh ?_;refine⟨fun k2 => ?_,fun k2 => ?_⟩
     . have k2:e.kind=2\/e.kind=3:=Su k2;refine Hh ?_;refine Dr .same [0,1,2,3,4] [5] (Hh ?_);replace hb7:At w7.drew b1 _ _:=hb7;replace h47:At w7.drew b4 _ _:=h47;replace h57:At w7.drew b5 _ _:=h57;replace hp7:At w7.drew pc _ _:=hp7;replace hc7:Qeb w7.drew b c:=hc7.keep fun _ _=>rfl
       refine⟨_,hp7.one rfl,Hh ?_⟩;refine⟨Qpk (thing e),⟨rfl,h47.all⟩,Hh ?_⟩;refine Qx Qh6 Qa6 hc7.done (thing e) (.bool true) fun w8 hm8 ho8 => ?_
       rw[Xa] at hm8;refine Hh ?_;refine⟨(),⟨?_,(Mod.drew _).trans (Qj ho8 (by simp[CwB.all]))⟩,Rr⟩;unfold Qdl;rw[if_neg k0,if_pos k2];exact(hc7.upd_done hnd ho8 hm8)
     have k2:¬ (e.kind=2\/e.kind=3):=Su k2;refine Hh ?_;refine Xl Qb (ι:=Bool) (fun i => [(0,Pj pc),(3,Pj b1),(4,Pj b4),(5,Pj b5),(17,Vj e.kind),(37,.bool i)]) (fun i w'=>i=(decide (e.kind=5)||decide (e.kind=6))/\w'=w7) ?_ ?_
     . (conv=>whnf)
       refine⟨fun q => ?_,fun q => ?_⟩
       . (conv=>whnf)
         exact⟨_,⟨by simp at q;simp[q],rfl⟩,⟨rfl,rfl,rfl,rfl,rfl,rfl,trivial⟩⟩
       refine Hh ?_;exact⟨_,⟨by simp at q;simp[q],rfl⟩,⟨rfl,rfl,rfl,rfl,rfl,rfl,trivial⟩⟩
     rintro _ w9 ⟨rfl,hw9⟩;replace hw9:=hw9.symm;subst hw9;refine Hh ?_;refine⟨fun k5 => ?_,fun k5 => ?_⟩
     . have k5:e.kind=5\/e.kind=6:=Su k5;refine Hh ?_;refine Dr .same [0,1,2,3,4,5,6,7] [8] (Hh ?_);replace hb7:At w7.drew b1 _ _:=hb7;replace h47:At w7.drew b4 _ _:=h47;replace h57:At w7.drew b5 _ _:=h57;replace hp7:At w7.drew pc _ _:=hp7;replace hc7:Qeb w7.drew b c:=hc7.keep fun _ _=>rfl
       refine⟨_,hp7.one rfl,Hh ?_⟩;refine⟨Qpk (thing e),⟨rfl,h47.all⟩,Hh ?_⟩;refine⟨_,hb7.one rfl,Hh ?_⟩;refine Qx Qh6 Qa6 hc7.hidden (thing e) (.bool (decide (e.kind=5))) fun w8 hm8 ho8 => ?_
       rw[Xa] at hm8;refine Hh ?_;refine⟨(),⟨?_,(Mod.drew _).trans (Qj ho8 (by simp[CwB.all]))⟩,Rr⟩;unfold Qdl;rw[if_neg k0,if_neg k2,if_pos k5];exact(hc7.upd_hidden hnd ho8 hm8)
     have k5:¬ (e.kind=5\/e.kind=6):=Su k5;refine Hh ?_;refine Xl Qb (ι:=Bool) (fun i => [(0,Pj pc),(3,Pj b1),(4,Pj b4),(5,Pj b5),(17,Vj e.kind),(48,.bool i)]) (fun i w'=>i=(decide (e.kind=7)||decide (e.kind=8))/\w'=w7) ?_ ?_
     . (conv=>whnf)
       refine⟨fun q => ?_,fun q => ?_⟩
       . (conv=>whnf)
         exact⟨_,⟨by simp at q;simp[q],rfl⟩,⟨rfl,rfl,rfl,rfl,rfl,rfl,trivial⟩⟩
       refine Hh ?_;exact⟨_,⟨by simp at q;simp[q],rfl⟩,⟨rfl,rfl,rfl,rfl,rfl,rfl,trivial⟩⟩
     rintro _ w9 ⟨rfl,hw9⟩;replace hw9:=hw9.symm;subst hw9;refine Hh ?_;refine⟨fun k7 => ?_,fun k7 => ?_⟩
     . have k7:e.kind=7\/e.kind=8:=Su k7;refine Hh ?_;refine Dr .same [0,1,2,3,4,5,6,7] [8] (Hh ?_);replace hb7:At w7.drew b1 _ _:=hb7;replace h47:At w7.drew b4 _ _:=h47;replace h57:At w7.drew b5 _ _:=h57;replace hp7:At w7.drew pc _ _:=hp7;replace hc7:Qeb w7.drew b c:=hc7.keep fun _ _=>rfl
       refine⟨_,hp7.one rfl,Hh ?_⟩;refine⟨Qpk (mkr e),⟨rfl,h57.all⟩,Hh ?_⟩;refine⟨_,hb7.one rfl,Hh ?_⟩;refine Qx Qh6 Qa6 hc7.follows (mkr e) (.bool (decide (e.kind=7))) fun w8 hm8 ho8 => ?_
       rw[Xa] at hm8;refine Hh ?_;refine⟨(),⟨?_,(Mod.drew _).trans (Qj ho8 (by simp[CwB.all]))⟩,Rr⟩;unfold Qdl;rw[if_neg k0,if_neg k2,if_neg k5,if_pos k7];exact(hc7.upd_follows hnd ho8 hm8)
     have k7:¬ (e.kind=7\/e.kind=8):=Su k7;refine Hh ?_;refine Xl Qb (ι:=Bool) (fun i => [(0,Pj pc),(3,Pj b1),(4,Pj b4),(5,Pj b5),(17,Vj e.kind),(59,.bool i)]) (fun i w'=>i=(decide (e.kind=9)||decide (e.kind=10))/\w'=w7) ?_ ?_
     . (conv=>whnf)
       refine⟨fun q => ?_,fun q => ?_⟩
       . (conv=>whnf)
         exact⟨_,⟨by simp at q;simp[q],rfl⟩,⟨rfl,rfl,rfl,rfl,rfl,rfl,trivial⟩⟩
       refine Hh ?_;exact⟨_,⟨by simp at q;simp[q],rfl⟩,⟨rfl,rfl,rfl,rfl,rfl,rfl,trivial⟩⟩
     rintro _ w9 ⟨rfl,hw9⟩;replace hw9:=hw9.symm;subst hw9;refine Hh ?_;refine⟨fun k9 => ?_,fun k9 => ?_⟩
     . have k9:e.kind=9\/e.kind=10:=Su k9;refine Hh ?_;refine Dr .same [0,1,2,3,4,5,6,7] [8] (Hh ?_);replace hb7:At w7.drew b1 _ _:=hb7;replace h47:At w7.drew b4 _ _:=h47;replace h57:At w7.drew b5 _ _:=h57;replace hp7:At w7.drew pc _ _:=hp7;replace hc7:Qeb w7.drew b c:=hc7.keep fun _ _=>rfl
       refine⟨_,hp7.one rfl,Hh ?_⟩;refine⟨Qpk (mkr e),⟨rfl,h57.all⟩,Hh ?_⟩;refine⟨_,hb7.one rfl,Hh ?_⟩;refine Qx Qh6 Qa6 hc7.mutes (mkr e) (.bool (decide (e.kind=9))) fun w8 hm8 ho8 => ?_
       rw[Xa] at hm8;refine Hh ?_;refine⟨(),⟨?_,(Mod.drew _).trans (Qj ho8 (by simp[CwB.all]))⟩,Rr⟩;unfold Qdl;rw[if_neg k0,if_neg k2,if_neg k5,if_neg k7,if_pos k9];exact(hc7.upd_mutes hnd ho8 hm8)
     have k9:¬ (e.kind=9\/e.kind=10):=Su k9;refine Hh ?_;refine⟨(),⟨?_,Mod.refl _ _⟩,Rr⟩;unfold Qdl;rw[if_neg k0,if_neg Om,if_neg Om,if_neg Om,if_neg Om];exact hc7
   rintro _ w8 ⟨hc8,hm8⟩
   have hnall:∀ k,k=pc\/w.heap.size<=k->¬ k∈b.all:=by
    intro k hk hin;rcases hk with rfl | hk
    . exact hpn _ hin rfl
    . have:=hclt k hin;omega
   have hb8:At w8 b1 _ _:=hb7.mod hm8 (hnall b1 (.inr Om));have h48:At w8 b4 _ _:=h47.mod hm8 (hnall b4 (.inr Om));have hp8:At w8 pc _ _:=hp7.mod hm8 (hnall pc (.inl rfl));have hm8':Mod (fun k=>k∈b.all) w w8:=(Mod.of_ext hxx7).trans hm8;obtain⟨q1,q2,q3⟩:=Qip hN e;have hns:Qd1 c e=Qsu (Qdl c e) e:=rfl;generalize Qdl c e=c1 at hc8 q1 q2 q3 hns;rw[hns];clear hb7 h47 h57 hp7 hc7 hm8 hxx7 hx7;refine Hh ?_;refine Dr .ext [0,1,2,3,4,5,6,7,8,9,10,11] [] (Hh ?_);replace hb8:At w8.drew b1 _ _:=hb8;replace h48:At w8.drew b4 _ _:=h48;replace hp8:At w8.drew pc _ _:=hp8;replace hc8:Qeb w8.drew b c1:=hc8.keep fun _ _=>rfl
   replace hm8':Mod (fun k=>k∈b.all) w w8.drew:=hm8'.trans (Mod.drew _);generalize w8.drew=w9 at hb8 h48 hp8 hc8 hm8' ⊢;refine⟨evC e,⟨rfl,hb8.all⟩,Hh ?_⟩;refine(Qcu e w9).mono ?_;rintro _ w10 ⟨rfl,hx10⟩;refine⟨hx10,?_⟩;have hb10:=hb8.ext hx10;have h410:=h48.ext hx10;have hp10:=hp8.ext hx10;have hc10:=hc8.ext hx10;have hm10:Mod (fun k=>k∈b.all) w w10:=hm8'.trans (Mod.of_ext hx10);refine Hh ?_;refine⟨_,fun _=>hp10.one rfl,Hh ?_⟩;refine⟨Qpk (thing e),fun _=>⟨rfl,h410.all⟩,Hh ?_⟩
   refine⟨.bool ((Qe c1.liked (thing e)).getD false),fun _=>(by
    have:=Xz Qh6 Qa6 (e:=ty4) ty4_ok (cl := .ext) (Qhv hc10.liked.lt) hc10.liked (thing e);rw[show (Qe (Xj Value.bool c1.liked) (thing e)).getD ty4.zero=Value.bool ((Qe c1.liked (thing e)).getD false) from Xo Value.bool _ _ false] at this;exact this),Hh ?_⟩
   constructor
   . intro hcd;have hcd:(decide (0<Qy e) && !((Qe c1.liked (thing e)).getD false))=true:=hcd;rw[Zl,decide_eq_true_eq,Zai] at hcd;refine Hh ?_;refine Dr .same [0,1,2,3,4] [5] (Hh ?_);refine⟨.map (some b.liked),show w10.drew.cell? _=_ from hp10.one rfl,Hh ?_⟩;refine⟨Qpk (thing e),⟨rfl,show Xp w10.drew _ _ from h410.all⟩,Hh ?_⟩;refine Qx (w:=w10.drew) Qh6 Qa6 (hc10.liked.keep rfl) (thing e) (.bool true) fun w11 hm11 ho11 => ?_
     rw[Xa] at hm11;have hb11:At w11 b1 _ _:=ho11.at_ hb10 (by have:=hclt b.liked (by simp[CwB.all]);omega);have hp11:At w11 pc _ _:=ho11.at_ hp10 (hpn _ (by simp[CwB.all]));have hf11:MapAt w11 b.fans Value.string (Xj vi c1.fans):=(hc10.upd_liked (w':=w11) hnd ⟨ho11.os,ho11.tape,ho11.output,ho11.size,ho11.block⟩ hm11).fans;refine Hh ?_;refine Dr .same [0,1,2,3,4,5,6,7] [8] (Hh ?_);refine⟨.map (some b.fans),show w11.drew.cell? _=_ from hp11.one rfl,Hh ?_⟩;refine⟨_,show w11.drew.cell? _=_ from hb11.one rfl,Hh ?_⟩
     refine⟨vi ((Qe c1.fans e.item).getD 0),(by
      have:=Xz Xd2 (Qo Xb) (e:=ty3) ty3_ok (cl := .same) Qp (hf11.keep (w':=w11.drew) rfl) e.item;rw[show (Qe (Xj vi c1.fans) e.item).getD ty3.zero=vi ((Qe c1.fans e.item).getD 0) from Xo vi _ _ 0] at this;exact this),Hh ?_⟩
     have hsm:=hN.fans e.item;rw[<- q2] at hsm;refine⟨(Qe c1.fans e.item).getD 0+1,wrap_eq rfl ⟨Om,Om⟩,Hh ?_⟩;refine Qx (w:=w11.drew) Xd2 (Qo Xb) (hf11.keep rfl) e.item (vi ((Qe c1.fans e.item).getD 0+1)) fun w12 hm12 ho12 => ?_
     rw[Xa] at hm12;refine Hh ?_;refine⟨rfl,?_,hm10.trans ((Mod.drew _).trans ((Qj ho11 (by simp[CwB.all])).trans ((Mod.drew _).trans (Qj ho12 (by simp[CwB.all])))))⟩;unfold Qsu;rw[if_pos hcd];exact(hc10.upd_liked (w':=w11) hnd ⟨ho11.os,ho11.tape,ho11.output,ho11.size,ho11.block⟩ hm11).upd_fans hnd ⟨ho12.os,ho12.tape,ho12.output,ho12.size,ho12.block⟩ hm12
   . intro hcd;have hcd:(decide (0<Qy e) && !((Qe c1.liked (thing e)).getD false))=false:=hcd;refine Hh ?_;refine⟨rfl,?_,hm10⟩;unfold Qsu
     rw[if_neg (by
      rintro ⟨h1,h2⟩;rw[h2,decide_eq_true h1] at hcd;cases hcd)]
     exact hc10
abbrev SV:=Option Addr×Nat×Nat
def Qgu (d:Ev×SV):List Value := [.string d.1.src,Vj d.1.num,Vj d.1.at_,Vj d.1.kind,.string d.1.person,.string d.1.item,Vj d.1.val,.string d.1.text,.slice d.2.1 d.2.2.1 d.2.2.2]
theorem Qfp (d:Ev×SV):(Qgu d).length=9:=rfl
theorem Qfq (d:Ev×SV):∀ u∈Qgu d,u.oneCell'=true:=by simp[Qgu,Value.oneCell']
def Xy (D:List (Ev×SV)) (person:Bj):List (Ev×SV):=D.filter fun d=>decide (d.1.person=person)
theorem Q20 (D:List (Ev×SV)) (e:Ev) (v:SV):Ql4 (Xy D) e.person (Xy D e.person ++ [(e,v)])=Xy (D ++ [(e,v)]):=by
 funext x;unfold Ql4 Xy;rw[Zq]
 by_cases h:x=e.person
 . subst h;simp
 . have h':¬ e.person=x:=fun q=>h q.symm
   simp[h,h']
abbrev Row:=Ev×List Bj
def evs (rs:List Row):List Ev:=rs.map (·.1)
def Cw0:Cw:=⟨[],[],[],[],[],[],[]⟩
def Xk (rs:List Row):Cw:=(evs rs).foldl Qd1 Cw0
theorem Qhb (rs:List Row) (r:Row):Xk (rs ++ [r])=Qd1 (Xk rs) r.1:=by unfold Xk evs;rw[Zp,Zt];rfl
theorem Qst:∀ rs:List Row,Qm3 (Xk rs) rs.length:=by
 refine Qv ?_ ?_
 . exact⟨fun k=>by simp[Xk,evs,Cw0,Qe],fun k=>by simp[Xk,evs,Cw0,Qe]⟩
 . intro rs r ih;rw[Qhb];have:=Q35 ih r.1;simpa using this
structure Qm8 (w:World) (T:Nat->Prop) (D:List (Ev×SV)) (rs:List Row):Prop where
 len:D.length=rs.length
 ev:∀ (i:Nat) (d:Ev×SV) (r:Row),D[i]? = some d->rs[i]? = some r->d.1=r.1/\d.2.2.1=r.2.length/\SlT w d.2.1 r.2/\∀ a,d.2.1=some a->T a.block
theorem Qm8.evs {w:World} {T:Nat->Prop} {D:List (Ev×SV)} {rs:List Row} (h:Qm8 w T D rs):D.map (·.1)=evs rs:=by
 apply Zb3;intro i;unfold Go.Proofs.YtpdonaienhociaaGreatDoor.evs;rw[Zaq,Zaq];have hl:=h.len
 by_cases hi:i<D.length
 . have h1:=Zd hi;have h2:=Zd (l:=rs) (i:=i) Om;rw[h1,h2];simp[(h.ev i _ _ h1 h2).1]
 . rw[Zcu Om,Zcu Om];rfl
structure Qz6 (w:World) (S:Nat->Prop) (p:Nat) (half:Int) (rs:List Row) (bp:Nat) (b:CwB) (D:List (Ev×SV)) (L:List (Bj×(Option Addr×Nat))) (R Tg:Nat->Prop):Prop where
 mine:∀ k∈p :: b.all,S k
 nodup:(p :: b.all).Nodup
 head:At w p 195 (crC half rs.length (Qes (evs rs)) bp b)
 maps:Qeb w b (Xk rs)
 rows:Qbm Qgu 9 276 w R bp (Xy D) L
 rset:∀ k,R k->S k/\k<w.heap.size/\k∉p :: b.all/\¬ Tg k
 tset:∀ k,Tg k->S k/\k<w.heap.size/\k∉p :: b.all
 tags:Qm8 w Tg D rs
def X3 (w:World) (S:Nat->Prop) (p:Nat) (half:Int) (rs:List Row):Prop:=∃ bp b D L R Tg,Qz6 w S p half rs bp b D L R Tg
theorem Qkw {w w1:World} {k:Nat} (h:k<w.heap.size) (hk:w1.heap[k]? = w.heap[k]?):k<w1.heap.size:=by
 rw[Array.getElem?_eq_getElem h] at hk;exact lt_of_block hk
theorem Qa8 {α:Type} {enc:α->List Value} {sz:Nat} {w w1:World} {A:Option Addr} {l:List α} (h:Sl enc sz w A l) (hk:∀ a,A=some a->w1.heap[a.block]? = w.heap[a.block]?):Sl enc sz w1 A l:=fun i x hi=>by
 obtain⟨a,ha,hc⟩:=h i x hi;exact⟨a,ha,fun j v hj=>by rw[World.cell?_of_block (w:=w) (by rw[add_block,add_block];exact hk a ha)];exact hc j v hj⟩
theorem Qz6.keep {w w1:World} {S S':Nat->Prop} {p:Nat} {half:Int} {rs:List Row} {bp:Nat} {b:CwB} {D:List (Ev×SV)} {L:List (Bj×(Option Addr×Nat))} {R Tg:Nat->Prop} (h:Qz6 w S p half rs bp b D L R Tg)
 (hk:∀ k,k<w.heap.size->S k->w1.heap[k]? = w.heap[k]? /\ S' k):Qz6 w1 S' p half rs bp b D L R Tg:=by
 have hlt:∀ k∈p :: b.all,k<w.heap.size:=fun k hk'=>by
  rcases Zr.1 hk' with rfl | hk'
  . exact h.head.lt
  . exact h.maps.lt k hk'
 refine⟨fun k hk'=>(hk k (hlt k hk') (h.mine k hk')).2,h.nodup,(hk p (hlt p (by simp)) (h.mine p (by simp))).1.trans h.head,h.maps.keep fun k hk'=>(hk k (hlt k (by simp[hk'])) (h.mine k (by simp[hk']))).1,?_,?_,?_,h.tags.len,?_⟩
 . exact h.rows.keep fun k hk1 hk2=>⟨(hk k hk1 (h.rset k hk2).1).1,hk2⟩
 . intro k hk2;obtain⟨q1,q2,q3⟩:=h.rset k hk2;exact⟨(hk k q2 q1).2,Qkw q2 (hk k q2 q1).1,q3⟩
 . intro k hk2;obtain⟨q1,q2,q3⟩:=h.tset k hk2;exact⟨(hk k q2 q1).2,Qkw q2 (hk k q2 q1).1,q3⟩
 . intro i d r hd hr;obtain⟨q1,q2,q3,q4⟩:=h.tags.ev i d r hd hr;refine⟨q1,q2,Qa8 q3 fun a ha => ?_,q4⟩;obtain⟨z1,z2,_⟩:=h.tset _ (q4 a ha);exact(hk _ z2 z1).1
theorem X3.keep {w w1:World} {S S':Nat->Prop} {p:Nat} {half:Int} {rs:List Row} (h:X3 w S p half rs) (hk:∀ k,k<w.heap.size->S k->w1.heap[k]? = w.heap[k]? /\ S' k):X3 w1 S' p half rs:=by
 obtain⟨bp,b,D,L,R,Tg,h⟩:=h;exact⟨bp,b,D,L,R,Tg,h.keep hk⟩
theorem X3.ext {w w1:World} {S:Nat->Prop} {p:Nat} {half:Int} {rs:List Row} (h:X3 w S p half rs) (hx:Ext w w1):X3 w1 S p half rs:=h.keep fun k hk hs=>⟨hx.block k hk,hs⟩
def Xd (h:Int):Int:=min (max h 1) 1099511627776
theorem Qrz (half:Int) (w:World):Cal Tryz.prog 103 [Vj half] w fun r w'=>∃ p,r = Pj p/\X3 w' (fun k=>w.heap.size<=k) p (Xd half) []/\Ext w w':=by
 refine Fi Tryz.func103 rfl _ rfl rfl (Hh ?_);intro b1 w1 hn1;refine Hh ?_;intro b2 w2 hn2;refine Hh ?_;intro b3 w3 hn3;refine Hh ?_;intro b4 w4 hn4;refine Hh ?_;intro b5 w5 hn5;refine Hh ?_;intro b6 w6 hn6;refine Hh ?_;intro b7 w7 hn7;refine Hh ?_;intro b8 w8 hn8;refine Hh ?_;intro b9 w9 hn9;refine Hh ?_;have e1:=hn1.block;have e2:=hn2.block;have e3:=hn3.block;have e4:=hn4.block;have e5:=hn5.block;have e6:=hn6.block;have e7:=hn7.block;have e8:=hn8.block;have e9:=hn9.block;have s1:=hn1.size;have s2:=hn2.size;have s3:=hn3.size;have s4:=hn4.size;have s5:=hn5.size;have s6:=hn6.size;have s7:=hn7.size;have s8:=hn8.size;have s9:=hn9.size;have x8:=hn9.ext;have x7:=hn8.ext.trans x8;have x6:=hn7.ext.trans x7;have x5:=hn6.ext.trans x6;have x4:=hn5.ext.trans x5;have x3:=hn4.ext.trans x4;have x2:=hn3.ext.trans x3;have x1:=hn2.ext.trans x2;refine⟨b9,rfl,⟨b1,⟨b2,b3,b4,b5,b6,b7,b8⟩,[],[],fun k=>k=b1,fun _=>False,?_⟩,hn1.ext.trans x1⟩;refine⟨?_,?_,hn9.At,⟨(MapAt.new hn2).ext x2,(MapAt.new hn3).ext x3,(MapAt.new hn4).ext x4,(MapAt.new hn5).ext x5,(MapAt.new hn6).ext x6,(MapAt.new hn7).ext x7,(MapAt.new hn8).ext x8⟩,?_,?_,fun k hk=>hk.elim,rfl,fun i d r hd=>by simp at hd⟩
 . intro k hk;simp only[CwB.all,Zr,List.not_mem_nil,or_false] at hk;omega
 . simp[CwB.all];omega
 . exact(Qbm.new (S:=fun k=>k=b1) hn1 rfl).keep fun k hk hs=>⟨x1.block k hk,hs⟩
 . rintro k rfl;refine⟨Om,Om,?_,fun h=>h⟩;simp only[CwB.all,Zr,List.not_mem_nil,or_false];omega
theorem Qf9:Tryz.prog.underlying 191=some (.map 9 274):=by kernel_rfl
theorem Xdw:Tryz.prog.underlying 274=some (.slice 276):=by kernel_rfl
def hist (l:List Ev) (person:Bj):List Ev:=l.filter fun e=>decide (e.person=person)
theorem Qkq {w:World} {T:Nat->Prop} {D:List (Ev×SV)} {rs:List Row} (h:Qm8 w T D rs) (person:Bj):(Xy D person).map (·.1)=hist (evs rs) person:=by
 rw[<- h.evs];unfold Xy hist;rw[List.filter_map];rfl
theorem Qg7 (w:World) (S:Nat->Prop) (p:Nat) (half:Int) (rs:List Row) (h:X3 w S p half rs) (person:Bj) (hl:rs.length<1000000) :
 Cal Tryz.prog 149 [Pj p,.string person] w fun r w'=>∃ A c,r = .slice A (hist (evs rs) person).length c/\Own evC 8 77 w.heap.size w' A c (hist (evs rs) person)/\Ext w w':=by
 obtain⟨bp,b,D,L,R,Tg,h⟩:=h;have hhd:=Qkq h.tags person;rw[<- hhd];have hown:=(h.rows.own person).1;have hdl:(Xy D person).length<=rs.length:=(by rw[<- h.tags.len];exact Zc _ _);refine Fi Tryz.func149 rfl _ rfl rfl (Hh ?_);refine⟨.map (some bp),h.head.one rfl,Hh ?_⟩;refine⟨_,h.rows.look Qf9 Xb (e:=ty274) ty274_ok rfl person Qp,Hh ?_⟩;generalize Xy D person=row at *;generalize (rowAt L person).1=A at *;generalize (rowAt L person).2=c at *;have hsl:=hown.sl Qfp
 refine Qh Qb (fun(q:Nat×Option Addr×Nat) w'=>q.1<=row.length/\Ext w w'/\Own evC 8 77 w.heap.size w' q.2.1 q.2.2 ((row.take q.1).map (·.1)))
  (fun | (k,A',c') => [(13,.slice A row.length c),(14,Vj row.length),(15,Vj k),(5,.slice A' k c')]) (fun q=>row.length-q.1) (0,none,0) ⟨by simp,Ext.refl _,Su Own.nil⟩ Rr ?_
 rintro ⟨k,A',c'⟩ w1 ⟨hk,hx1,hown1⟩;simp only at hk hown1;refine Hh ?_;constructor
 . intro hlt;have hlt:k<row.length:=Su hlt;have hkl:((row.take k).map (·.1)).length=k:=by simp;omega
   have htk:(row.take (k+1)).map (·.1)=(row.take k).map (·.1) ++ [(row[k]).1]:=(by rw[Za hlt,Zp];rfl);obtain⟨a,hA,hc⟩:=(hsl.ext hx1).get hlt;subst hA;generalize row[k]=d at hc htk;refine Hh ?_;refine⟨a,Ix,Hh ?_⟩;refine⟨Qgu d,⟨rfl,hc⟩,Hh ?_⟩;intro b2 w2 hn2;refine Hh ?_;refine Qc Qb (e:=ty276) rfl hn2.At rfl rfl rfl (Qfq d) fun w3 h3 ho3 => ?_
   have h3':At w3 b2 276 ([]++(evC d.1 ++ [.slice d.2.1 d.2.2.1 d.2.2.2])):=h3;have e2:=hn2.block;have hx3:Ext w1 w3:=ho3.ext hn2.ext Om;refine Hh ?_;refine⟨evC d.1,⟨rfl,At.sub h3'⟩,Hh ?_⟩;intro b4 w4 hn4;refine Hh ?_;have hx4:=hx3.trans hn4.ext;have hla:Value.slice A' k c' = .slice A' ((row.take k).map (·.1)).length c':=by rw[hkl]
   rw[hla];refine Qhp (news := [d.1]) (hown1.ext hx4) (Qak Qag hn4) (by simp;omega) (Zv hx1.size hx4.size) ?_;intro A2 c2 w5 hown5 hg5 hA5;rw[<- htk] at hown5 ⊢;have hk1:((row.take (k+1)).map (·.1)).length=k+1:=by simp;omega
   rw[hk1];refine Hh ?_;refine⟨_,wrap_succ Om,Hh ?_⟩;refine⟨(k+1,A2,c2),Sj,⟨Sj,Qu (hx1.trans hx4) hg5 (Xeq hown1),hown5⟩,Rr⟩
 . intro hge;have hge:k=row.length:=by simp at hge;omega
   subst hge;rw[Zcp] at hown1;refine Hh ?_;exact⟨A',c',by simp,hown1,hx1⟩
theorem Qok:Qtv Tryz.prog 31:=⟨_,Tryz.func31,rfl,rfl⟩
theorem Qry (l:List Bj) (A:Option Addr) (c base:Nat) (x:Bj) (w:World) (h:Own Qab 1 9 base w A c l) (hl:l.length<1000000000000) :
 Cal Tryz.prog 31 [.slice A l.length c,.string x] w fun r w'=>r = .bool (Lib.containsS l x)/\w'=w:=by
 cases l with
 | nil =>
   refine Qa9 Qok (Tryz.slices_Contains_string_empty A c x w) fun w' hw=>⟨?_,hw⟩
   have:Lib.containsS [] x=false:=by
    cases hb:Lib.containsS [] x with
    | false=>rfl
    | true=>rw[Lib.containsS_iff] at hb;simp at hb
   rw[this]
 | cons y l =>
   rcases h.2 with⟨hv,h0⟩ | ⟨g,cap,cur,hv,hb,hg,h1⟩
   . simp at h0
   . have hA:A=some ⟨g,0,none⟩:=by injection hv
     subst hA;have hsl:=Own.sl Qw h;refine Qa9 Qok (Tryz.slices_Contains_string g 0 (y :: l).length c (y :: l) x w (Zg _) Om ?_) fun w' hw=>⟨by rw[Zcp],hw⟩
     intro j hj;obtain⟨a,ha,hc⟩:=hsl.get hj;have ha':(⟨g,0,none⟩:Addr)=a:=by injection ha
     subst ha';have:=Qs hc;rw[Zbh,Q8] at this;rw[Zbg,this,Zbm,Zd hj];rfl
theorem Qnb {w:World} {A:Option Addr} {c base:Nat} {l:List Bj} {R:Value->World->Prop} {ty:TypeId} (hown:Own Qab 1 9 base w A c l) {B:Option Addr} {cB:Nat} {news:List Bj} (hs:SlT w B news) (hl:l.length+news.length<1000000000000) (hbase:base<=w.heap.size)
 (h:∀ A' c' w',Own Qab 1 9 base w' A' c' (l++news)->w.grownBy w' (A.map (·.block))->(A'=A\/A'.map (·.block)=A.map (·.block)\/A'.map (·.block)=some w.heap.size)->R (.slice A' (l++news).length c') w') :
 Qkj Tryz.prog (Builtin.append_ #[36,36] ty [.slice A l.length c,.slice B news.length cB].toArray) w R :=
 Qd7 (bytes:=16) ty9_ok Xir by9 rfl rfl (by decide) Qw Qtm hown hs Om Om hbase h
def Qb0 (l:List Bj) (t:Bj):List Bj:=if(Qr t && !Lib.containsS l t)=true then l ++ [t] else l
def Qbo (tg:List Bj):List Bj:=tg.foldl Qb0 []
theorem Q49 (tg:List Bj) (k:Nat) (h:k<tg.length):Qbo (tg.take (k+1))=Qb0 (Qbo (tg.take k)) tg[k]:=by
 unfold Qbo;rw[Za h,Zt];rfl
theorem Qwt (tg:List Bj):(Qbo tg).length<=tg.length:=by
 have:∀ (tg l:List Bj),(tg.foldl Qb0 l).length<=l.length+tg.length:=by
  intro tg
  induction tg with
  | nil=>intro l;simp
  | cons t tg ih =>
    intro l;have h1:=ih (Qb0 l t);have h2:(Qb0 l t).length<=l.length+1:=by unfold Qb0;split <;> simp
    simp only[Zap,Z8];omega
 have:=this tg [];simpa [Qbo] using this
set_option maxHeartbeats 2000000 in
theorem Qnp (w:World) (S:Nat->Prop) (p:Nat) (half:Int) (rs:List Row) (h:X3 w S p half rs) (hg:Gl w) (hS:∀ k,S k->10<=k) (e:Ev) (hm:X0 e=true) (hk:e.kind<11) (ht:e.text.size<1000000) (hl:rs = []\/Q5 (Qes (evs rs)) e=true) (hlen:rs.length<1000000)
 (tg:List Bj) (TA:Option Addr) (tc:Nat) (hts:SlT w TA tg) (hta:∀ a,TA=some a->¬ S a.block) (htl:tg.length<1000000) :
 Cal Tryz.prog 117 [Pj p,evV e,.slice TA tg.length tc] w fun r w'=>r = .bool true/\X3 w' (Grow S w) p half (rs ++ [(e,Qbo tg)])/\Mod S w w':=by
 obtain⟨bp,b,D,L,R,Tg,h⟩:=h;have hplt:=h.head.lt;have hSp:S p:=h.mine p (by simp);have hblt:∀ k∈b.all,k<w.heap.size:=h.maps.lt;have hpn:p∉b.all:=(Zbc.1 h.nodup).1;refine Fi Tryz.func117 rfl _ rfl rfl (Hh ?_);intro b1 w1 hn1;have hb1:=hn1.At;have hb1e:b1=w.heap.size:=hn1.block;refine Hh ?_;refine⟨evC e,⟨rfl,hb1.all⟩,Hh ?_⟩;refine(Qjs e w1 (hg.ext hn1.ext) Om).mono ?_;rintro _ w2 ⟨rfl,hx2⟩;have hb2:=hb1.ext hx2;have hxx2:=hn1.ext.trans hx2;have hp2:=h.head.ext hxx2;refine Hh ?_;refine⟨_,fun _=>hp2.one rfl,Hh ?_⟩;have hcond:((!X0 e)||decide (1048576<=(rs.length:Int)))=false:=(by rw[hm,decide_eq_false Om];rfl);constructor
 . intro hc;have hc:=hcond.symm.trans hc;cases hc
 intro _;clear hcond;refine Hh ?_;refine Xl Qb (ι:=Unit) (fun _ => [(0,Pj p),(4,Pj b1),(2,.slice TA tg.length tc)]) (fun _ w'=>w'=w2) ?_ ?_
 . (conv=>whnf)
   refine⟨_,hb2.one rfl,Hh ?_⟩;refine Xl Qb (ι:=Bool) (fun i => [(0,Pj p),(4,Pj b1),(2,.slice TA tg.length tc),(22,.bool i)]) (fun i w'=>i=false/\w'=w2) ?_ ?_
   . (conv=>whnf)
     refine⟨fun q => ?_,fun q => ?_⟩
     . simp at q;omega
     refine Hh ?_;refine⟨fun q => ?_,fun q => ?_⟩
     . simp at q;omega
     refine Hh ?_;refine⟨fun q => ?_,fun q => ?_⟩
     . simp at q;omega
     refine Hh ?_;exact⟨_,⟨by simp;omega,rfl⟩,⟨rfl,rfl,rfl,rfl,trivial⟩⟩
   rintro _ w3 ⟨rfl,rfl⟩;refine Hh ?_;refine⟨fun q => ?_,fun q => ?_⟩
   . cases q
   refine Hh ?_;exact⟨(),rfl,Rr⟩
 rintro _ _ rfl;refine Hh ?_;refine Dr .same [0,1,2,3,4,5,6,7,8,9,10] [11,12,13] (Hh ?_);rename_i w2;have hb3:At w2.drew b1 _ _:=hb2;have hx3:Ext w w2.drew:=hxx2.drew;generalize w2.drew=w3 at hb3 hx3 ⊢;have hp3:=h.head.ext hx3;refine⟨_,hp3.one rfl,Hh ?_⟩;refine⟨evC e,fun _=>⟨rfl,hb3.all⟩,Hh ?_⟩;refine⟨evC (Qes (evs rs)),fun _=>⟨rfl,At.sub (pre := [vi half,vi rs.length]) hp3⟩,Hh ?_⟩;refine⟨Unit,fun _ => Vj (Qjc e (Qes (evs rs))),fun _ w'=>Ext w3 w',(),fun _=>(Qbb e (Qes (evs rs)) w3).mono (fun r w' h=>⟨(),h.1,h.2⟩),fun _ w4 h4 => ?_⟩
 have hx34:Ext w3 w4:=by
  rcases h4 with⟨_,h⟩ | ⟨_,h⟩
  . exact h
  . rw[h];exact Ext.refl _
 clear h4
 have hcond:(decide (0<(rs.length:Int))&&decide (Qjc e (Qes (evs rs))<=0))=false:=by
  rcases hl with rfl | hl
  . rfl
  . rw[Q0h hl];simp
 refine Hh ?_;constructor
 . intro hc;have hc:=hcond.symm.trans hc;cases hc
 intro _;clear hcond;have hx4:=hx3.trans hx34;have hb4:=hb3.ext hx34;have hp4:=h.head.ext hx4;refine Hh ?_;refine⟨_,hp4.one rfl,Hh ?_⟩;refine⟨((rs.length+1:Nat):Int),wrap_succ Om,Hh ?_⟩;refine Qc Qb (e:=ty3) rfl hp4 rfl rfl rfl Oj fun w5 h5 ho5 => ?_
 have hb5:=ho5.at_ hb4 Om;refine Hh ?_;refine⟨evC e,⟨rfl,hb5.all⟩,Hh ?_⟩;refine Qc Qb (e:=ty77) rfl h5 rfl rfl rfl (Qbg e) fun w6 h6 ho6 => ?_
 have hb6:=ho6.at_ hb5 Om;have hp6:At w6 p 195 (crC half (rs.length+1:Nat) e bp b):=h6;have hm6:Mod S w w6:=(Mod.of_ext hx4).trans ((Qj ho5 hSp).trans (Qj ho6 hSp));have hsame6:∀ k,k<w.heap.size->k≠p->w6.heap[k]? = w.heap[k]? := fun k hk1 hk2=>by rw[ho6.block k hk2,ho5.block k hk2,hx4.block k hk1]
 have hs6:w.heap.size<w6.heap.size:=by have:=hb6.lt;omega
 clear h6 h5 ho5 ho6 hp4 hb4 hb5 hx34 hx3 hb3 hp3 hb2 hx4;refine Hh ?_;refine⟨evC e,⟨rfl,hb6.all⟩,Hh ?_⟩;intro b7 w7 hn7;refine Hh ?_;have e7:b7=w6.heap.size:=hn7.block;refine Qc Qb (e:=ty276) rfl hn7.At rfl rfl rfl (Qfq (e,(none,0,0))) fun w8 h8 ho8 => ?_
 have hx8:Ext w6 w8:=ho8.ext hn7.ext Om;have h8':At w8 b7 276 (Qgu (e,(none,0,0))):=h8;clear h8 ho8 hn7;have hts6:SlT w6 TA tg:=fun i x hi=>(by obtain⟨a,ha,hc⟩:=hts i x hi;exact⟨a,ha,fun j v hj=>Mod.cell hm6 (hc j v hj) (by rw[add_block,add_block];exact hta a ha)⟩)
 refine Hh ?_
 refine Qh Qb (fun(q:Nat×Option Addr×Nat) w'=>q.1<=tg.length/\Ext w6 w'/\At w' b7 276 (Qgu (e,(q.2.1,(Qbo (tg.take q.1)).length,q.2.2)))/\Own Qab 1 9 (w6.heap.size+1) w' q.2.1 q.2.2 (Qbo (tg.take q.1)))
  (fun | (k,_,_) => [(0,Pj p),(4,Pj b1),(7,Pj b7),(54,.slice TA tg.length tc),(55,Vj tg.length),(56,Vj k)]) (fun q=>tg.length-q.1) (0,none,0) ⟨by simp,hx8,h8',by simpa [Qbo] using Own.nil⟩ Rr ?_
 clear h8' hx8;rintro ⟨k,A,c⟩ w8 ⟨hkt,hx8,h8,hown8⟩;simp only at hkt h8 hown8;have hdlen:=Qwt (tg.take k);have hdlen2:(Qbo (tg.take k)).length<=k:=by rw[Zn] at hdlen;omega
 refine Hh ?_;constructor
 . intro hlt;have hlt:k<tg.length:=Su hlt;have hstep:=Q49 tg k hlt;obtain⟨a,hA,hc⟩:=(hts6.ext hx8).get hlt;subst hA;generalize tg[k]=t at hc hstep;generalize hld:Qbo (tg.take k)=l at *;refine Hh ?_
   refine Xl Qb (ι:=Option Addr×Nat) (fun _ => [(0,Pj p),(4,Pj b1),(7,Pj b7),(54,.slice (some a) tg.length tc),(55,Vj tg.length),(56,Vj k)])
    (fun q w'=>Ext w6 w'/\At w' b7 276 (Qgu (e,(q.1,(Qb0 l t).length,q.2)))/\Own Qab 1 9 (w6.heap.size+1) w' q.1 q.2 (Qb0 l t)) ?_ ?_
   . (conv=>whnf)
     refine⟨a,Ix,Hh ?_⟩;refine⟨.string t,Qs hc,Hh ?_⟩;refine(Qb4 t w8).mono ?_;rintro _ w9 ⟨rfl,hw9⟩;replace hw9:=hw9.symm;subst hw9;refine Hh ?_;refine⟨.slice A l.length c,fun _=>h8.one rfl,Hh ?_⟩;refine⟨Unit,fun _ => .bool (Lib.containsS l t),fun _ w'=>w'=w8,(),fun _=>(Qry l A c _ t w8 hown8 Om).mono (fun r w' h=>⟨(),h.1,h.2⟩),fun _ w9 h9 => ?_⟩;have hw9:w8=w9:=(by rcases h9 with⟨_,h⟩ | ⟨_,h⟩ <;> exact h.symm);clear h9;subst hw9;refine Hh ?_;constructor
     . intro hcd;have hcd:(Qr t && !Lib.containsS l t)=true:=hcd;have hts:Qb0 l t=l ++ [t]:=by unfold Qb0;rw[if_pos hcd]
       rw[hts];refine Hh ?_;refine⟨.slice A l.length c,h8.one rfl,Hh ?_⟩;intro b10 w10 hn10;refine Hh ?_;have e10:=hn10.block;have hs8:=hx8.size;have hb7lt:=h8.lt;refine Qnb (news := [t]) (hown8.ext hn10.ext) (Qak Qw hn10) (by simp;omega) (by have:=hn10.ext.size;omega) ?_;intro A2 c2 w11 hown11 hg11 hA11
       have h811:At w11 b7 276 (Qgu (e,(A,l.length,c))):=by
        have h1:=h8.ext hn10.ext;refine(hg11.block b7 h1.lt ?_).trans h1;intro e'
        cases A with
        | none=>simp at e'
        | some a' =>
          have:=(hown8.block (a:=a') rfl).1;have:a'.block=b7:=Su e'.symm;omega
       have hx11:Ext w6 w11:=Qu (hx8.trans hn10.ext) hg11 fun k hk'=>by
        cases A with
        | none=>simp at hk'
        | some a' =>
          have h1:=(hown8.block (a:=a') rfl).1;have h2:a'.block=k:=Su hk';omega
       refine Hh ?_;refine Qc Qb (e:=ty36) rfl h811 rfl rfl rfl Oj fun w12 h12 ho12 => ?_
       refine Hh ?_;refine⟨(A2,c2),⟨ho12.ext hx11 Om,h12,hown11.keep fun a' ha'=>ho12.block _ ?_⟩,Rr⟩;have:=(hown11.block ha').1;omega
     . intro hcd;have hcd:(Qr t && !Lib.containsS l t)=false:=hcd;have hts:Qb0 l t=l:=by unfold Qb0;rw[hcd];rfl
       rw[hts];refine Hh ?_;exact⟨(A,c),⟨hx8,h8,hown8⟩,Rr⟩
   rintro ⟨A2,c2⟩ w9 ⟨hx9,h9,hown9⟩;refine Hh ?_;refine⟨_,wrap_succ Om,Hh ?_⟩;exact⟨(k+1,A2,c2),Sj,⟨Sj,hx9,by simp only[hstep];exact h9,by simp only[hstep];exact hown9⟩,Rr⟩
 intro hge;have hge:k=tg.length:=by simp at hge;omega
 subst hge;rw[Zcp] at h8 hown8;clear hdlen hdlen2;have hp8:=hp6.ext hx8;have hb8:=hb6.ext hx8;have hm8:Mod S w w8:=hm6.trans (Mod.of_ext hx8);have hRlt:∀ k,R k->k<w.heap.size/\k≠p:=fun k hk'=>⟨(h.rset k hk').2.1,fun q=>(h.rset k hk').2.2.1 (by simp[q])⟩
 have hsame8:∀ k,k<w.heap.size->k≠p->w8.heap[k]? = w.heap[k]? := fun k hk1 hk2=>(hx8.block k Om).trans (hsame6 k hk1 hk2)
 have hrows8:Qbm Qgu 9 276 w8 R bp (Xy D) L:=h.rows.keep fun k hk1 hk2=>⟨hsame8 k hk1 (hRlt k hk2).2,hk2⟩
 have hs8:=hx8.size;have hb7lt:=h8.lt;refine Hh ?_;generalize hA0:(rowAt L e.person).1=A0;generalize hc0:(rowAt L e.person).2=c0;have hrl:=h.rows.own e.person;rw[hA0,hc0] at hrl;have hA0b:∀ a,A0=some a->R a.block/\a.block<w.heap.size/\a.block≠p/\a.block≠bp:=fun a ha=>⟨(hrl.2 a ha).1,(hRlt _ (hrl.2 a ha).1).1,(hRlt _ (hrl.2 a ha).1).2,(hrl.2 a ha).2⟩
 have hbpR:=h.rows.mine;refine Dr (.mods (fun k=>∃ a,A0=some a/\k=a.block)) [0,1,2,3,4,5,6,7,8,9,10,11,12,13,14,15] [16] (Hh ?_);replace hp8:At w8.drew p _ _:=hp8;replace hb8:At w8.drew b1 _ _:=hb8;replace h8:At w8.drew b7 _ _:=h8;replace hrows8:Qbm Qgu 9 276 w8.drew R bp (Xy D) L:=hrows8.keep fun k _ hk2=>⟨rfl,hk2⟩
 replace hm8:Mod S w w8.drew:=hm8.trans (Mod.drew _);replace hown8:Own Qab 1 9 (w6.heap.size+1) w8.drew A c (Qbo tg):=hown8;replace hsame8:∀ k,k<w.heap.size->k≠p->w8.drew.heap[k]? = w.heap[k]? := hsame8;have hsz:w8.drew.heap.size=w8.heap.size:=rfl;generalize w8.drew=w9 at hp8 hb8 h8 hrows8 hm8 hown8 hsame8 hsz ⊢;have hnb:∀ k,w.heap.size<=k\/k=p\/k=bp->¬ ∃ a,A0=some a/\k=a.block:=(by rintro k hk' ⟨a,ha,rfl⟩;obtain⟨q1,q2,q3,q4⟩:=hA0b a ha;omega);refine⟨.map (some bp),⟨hp8.one rfl,by rw[add_block];exact hnb p (.inr (.inl rfl))⟩,Hh ?_⟩;refine⟨_,⟨hb8.one rfl,by rw[add_block];exact hnb b1 (.inl Om)⟩,Hh ?_⟩;refine⟨.map (some bp),⟨hp8.one rfl,by rw[add_block];exact hnb p (.inr (.inl rfl))⟩,Hh ?_⟩;refine⟨_,⟨hb8.one rfl,by rw[add_block];exact hnb b1 (.inl Om)⟩,Hh ?_⟩
 refine⟨.slice A0 (Xy D e.person).length c0,(by
  have:=hrows8.look Qf9 Xb (e:=ty274) ty274_ok rfl e.person (Qve (S:=fun k=>∃ a,A0=some a/\k=a.block) hrows8.map.lt (hnb bp (.inr (.inr rfl))));rw[hA0,hc0] at this;exact this),Hh ?_⟩
 refine⟨Qgu (e,(A,(Qbo tg).length,c)),⟨rfl,h8.all,hnb b7 (.inl Om)⟩,Hh ?_⟩;intro b10 w10 hn10;refine⟨Mod.of_ext hn10.ext,Hh ?_⟩;have hown10:Own Qgu 9 276 0 w10 A0 c0 (Xy D e.person):=(by have:=(hrows8.own e.person).1;rw[hA0,hc0] at this;exact this.ext hn10.ext);have hdl:(Xy D e.person).length<=rs.length:=(by rw[<- h.tags.len];exact Zc _ _);refine Qd7 (news := [(e,(A,(Qbo tg).length,c))]) ty276_ok Xdw by276 rfl rfl (by decide) Qfp Qfq hown10 (Qak Qfp hn10) (by simp;omega) (by simp;omega) (Zu _) ?_;intro A2 c2 w11 hown11 hg11 hA11
 have hrow11:∀ k,A0.map (·.block)=some k->∃ a,A0=some a/\k=a.block:=by
  intro k hk'
  cases A0 with
  | none=>simp at hk'
  | some a=>exact⟨a,rfl,Su hk'.symm⟩
 refine⟨Xx hg11 hrow11,?_⟩;refine Hh ?_;have hbm11:MapAt w11 bp Value.string (toV (Xy D) L):=(by refine(hrows8.map.ext hn10.ext).keep (hg11.block bp (hrows8.map.ext hn10.ext).lt ?_);intro e';obtain⟨a,ha,q⟩:=hrow11 bp e'.symm;exact(hA0b a ha).2.2.2 q.symm);refine Qx Qf9 (Qo Xb) hbm11 e.person _ fun w12 hm12 ho12 => ?_
 have hpush:=hrows8.push (k:=e.person) (r:=Xy D e.person ++ [(e,(A,(Qbo tg).length,c))]) (by simp) hn10.ext (by rw[hA0];exact hg11) (by rw[hA0];exact hA11) hown11 hm12 ho12;rw[Q20] at hpush;have e10:=hn10.block;have hs10:=hn10.ext.size;have hs11:=hg11.size;have hs12:=ho12.size;have hbpc:=h.rset bp hbpR
 -- whatever is no row,and no map of rows,stays
 have hstay:∀ k,k<w9.heap.size->k≠bp->¬ (∃ a,A0=some a/\k=a.block)->w12.heap[k]? = w9.heap[k]? := by
  intro k hk1 hk2 hk3;rw[ho12.block k hk2,hg11.block k Om (fun q=>hk3 (hrow11 k q.symm)),hn10.ext.block k hk1]
 have hbpn:bp≠p/\bp∉b.all:=⟨fun q=>hbpc.2.2.1 (by simp[q]),fun q=>hbpc.2.2.1 (by simp[q])⟩;have hp12:At w12 p _ _:=(hstay p hp8.lt (Ne.symm hbpn.1) (hnb p (.inr (.inl rfl)))).trans hp8;have hb12:At w12 b1 _ _:=(hstay b1 hb8.lt Om (hnb b1 (.inl Om))).trans hb8;have hall:∀ k∈b.all,k≠p/\k≠bp/\¬ ∃ a,A0=some a/\k=a.block:=(by intro k hk';refine⟨fun q=>hpn (q ▸ hk'),fun q=>hbpn.2 (q ▸ hk'),?_⟩;rintro ⟨a,ha,rfl⟩;exact(h.rset _ (hA0b a ha).1).2.2.1 (by simp[hk']));have hmaps12:Qeb w12 b (Xk rs):=h.maps.keep fun k hk'=>(by obtain⟨q1,q2,q3⟩:=hall k hk';have:=hblt k hk';rw[hstay k (by have:=hm8.size;omega) q2 q3,hsame8 k this q1])
 have hm12':Mod S w w12:=Qn hm8 ((Mod.of_ext hn10.ext).trans ((Xx hg11 fun k hk'=>by
  obtain⟨a,ha,q⟩:=hrow11 k hk';rw[q];exact .inl (h.rset _ (hA0b a ha).1).1).trans (Qj ho12 (.inl hbpc.1))))
 refine Hh ?_;refine⟨evC e,⟨rfl,hb12.all⟩,Hh ?_⟩;refine(Q8u w12 p half _ e bp b (Xk rs) hp12 hmaps12 h.nodup e rs.length (Qst rs) Om).mono ?_;rintro _ w13 ⟨rfl,hc13,hm13⟩;refine Hh ?_;have hs13:=hm13.size;have hp13:At w13 p _ _:=hp12.mod hm13 hpn
 have htg12:∀ k,Tg k->w12.heap[k]? = w.heap[k]? := by
  intro k hk';obtain⟨q1,q2,q3⟩:=h.tset k hk';have hkp:k≠p:=fun q=>q3 (by simp[q])
  rw[hstay k (by have:=hm8.size;omega) (fun q=>hbpc.2.2.2 (q ▸ hk')) ?_,hsame8 k q2 hkp];rintro ⟨a,ha,rfl⟩;exact(h.rset _ (hA0b a ha).1).2.2.2 hk'
 refine⟨rfl,⟨bp,b,D ++ [(e,(A,(Qbo tg).length,c))],Xc L e.person (A2,c2),fun k=>Grow R w9 k/\k<w13.heap.size,fun k=>Tg k\/(w6.heap.size+1<=k/\k<w9.heap.size),?_⟩,hm12'.trans (hm13.mono fun k _ hk'=>h.mine k (by simp[hk']))⟩;have hevs:evs (rs ++ [(e,Qbo tg)])=evs rs ++ [e]:=by simp[evs]
 refine⟨fun k hk' => .inl (h.mine k hk'),h.nodup,?_,?_,?_,?_,?_,?_,?_⟩
 . rw[hevs,Qoa,Zo];exact hp13
 . rw[Qhb];exact hc13
 . refine hpush.keep fun k hk1 hk2=>⟨hm13.block k hk1 ?_,hk2,Om⟩
   intro hin;rcases hk2 with hk2 | hk2
   . exact(h.rset k hk2).2.2.1 (by simp[hin])
   . have:=hblt k hin;have:=hm8.size;omega
 . rintro k ⟨hk1,hk2⟩;have:=hm8.size;rcases hk1 with hk1 | hk1
   . obtain⟨q1,q2,q3,q4⟩:=h.rset k hk1;exact⟨.inl q1,hk2,q3,fun q=>q.elim q4 (fun q=>Om)⟩
   . refine⟨.inr Om,hk2,fun hin => ?_,fun q => ?_⟩
     . rcases Zr.1 hin with q | q
       . omega
       . have:=hblt k q;omega
     . rcases q with q | q
       . have:=(h.tset k q).2.1;omega
       . omega
 . intro k hk1;have:=hm8.size;rcases hk1 with hk1 | hk1
   . obtain⟨q1,q2,q3⟩:=h.tset k hk1;exact⟨.inl q1,Om,q3⟩
   . refine⟨.inr Om,Om,fun hin => ?_⟩;rcases Zr.1 hin with q | q
     . omega
     . have:=hblt k q;omega
 . rw[Zo,Zo,h.tags.len];rfl
 . intro i d r hd hr;have hlD:=h.tags.len
   by_cases hi:i<D.length
   . rw[Zz hi] at hd;rw[Zz Om] at hr;obtain⟨q1,q2,q3,q4⟩:=h.tags.ev i d r hd hr;refine⟨q1,q2,Qa8 q3 fun a ha => ?_,fun a ha => .inl (q4 a ha)⟩;have ht':=q4 a ha;have hz:=h.tset _ ht';rw[hm13.block _ (by have:=hm12'.size;omega) (fun hin=>hz.2.2 (by simp[hin])),htg12 _ ht']
   . have hil:i=D.length:=(by have:=(Zi.1 hd).1;simp at this;omega);subst hil;rw[Z5 (Zg _),Nat.sub_self] at hd;rw[hlD,Z5 (Zg _),Nat.sub_self] at hr;obtain rfl:(e,(A,(Qbo tg).length,c))=d:=Su hd;obtain rfl:(e,Qbo tg)=r:=Su hr;refine⟨rfl,rfl,?_,fun a ha => .inr ⟨(hown8.block ha).1,(hown8.block ha).2⟩⟩;refine Qa8 (hown8.sl Qw) fun a ha => ?_
     have h1:=(hown8.block ha).1;have h2:=(hown8.block ha).2;rw[hm13.block _ Om (fun hin=>by have:=hblt _ hin;omega),hstay _ h2 Om (hnb _ (.inl Om))]
section
variable {κ:Type} {β:Type} {enc:κ->Value} {I:World->(Nat->Prop)->Nat->β->Prop} {w w1:World} {S S':Nat->Prop} {bm:Nat} {m:List (κ×β)} {P:Program} {mt kt et:TypeId}
structure Local (I:World->(Nat->Prop)->Nat->β->Prop):Prop where
 keep:∀ {w w1:World} {S S':Nat->Prop} {b:Nat} {v:β},I w S b v->(∀ k,k<w.heap.size->S k->w1.heap[k]? = w.heap[k]? /\ S' k)->I w1 S' b v
 lt:∀ {w:World} {S:Nat->Prop} {b:Nat} {v:β},I w S b v->b<w.heap.size/\S b
structure Q52 (enc:κ->Value) (I:World->(Nat->Prop)->Nat->β->Prop) (w:World) (S:Nat->Prop) (bm:Nat) (m:List (κ×β)) (L:List (κ×(Nat×β))) (col:Nat->Option κ):Prop where
 mine:S bm
 map:MapAt w bm enc (L.map fun x=>(x.1,Value.map (some x.2.1)))
 eq:(L.map fun x=>(x.1,x.2.2))=m
 own:∀ x∈L,I w (fun k=>S k/\k≠bm/\col k=some x.1) x.2.1 x.2.2
def MapOf (enc:κ->Value) (I:World->(Nat->Prop)->Nat->β->Prop) (w:World) (S:Nat->Prop) (bm:Nat) (m:List (κ×β)):Prop:=∃ L col,Q52 enc I w S bm m L col
theorem Q52.keys {L:List (κ×(Nat×β))} {col:Nat->Option κ} (h:Q52 enc I w S bm m L col):L.Pairwise (fun x y=>x.1≠y.1):=by
 have:=h.map.keys;rw[Z7] at this;exact this
theorem MapOf.keep (hI:Local I) (h:MapOf enc I w S bm m) (hk:∀ k,k<w.heap.size->S k->w1.heap[k]? = w.heap[k]? /\ S' k):MapOf enc I w1 S' bm m:=by
 obtain⟨L,col,h⟩:=h;refine⟨L,col,(hk bm h.map.lt h.mine).2,h.map.keep (hk bm h.map.lt h.mine).1,h.eq,fun x hx=>hI.keep (h.own x hx) fun k hk1 hk2 => ?_⟩;obtain⟨q1,q2⟩:=hk k hk1 hk2.1;exact⟨q1,q2,hk2.2⟩
theorem MapOf.lt (h:MapOf enc I w S bm m):bm<w.heap.size/\S bm:=by
 obtain⟨L,col,h⟩:=h;exact⟨h.map.lt,h.mine⟩
theorem Qyk (hI:Local I):Local (fun w S b (m:List (κ×β))=>MapOf enc I w S b m) where
 keep h hk:=MapOf.keep hI h hk
 lt h:=MapOf.lt h
theorem MapOf.new {b:Nat} (hn:New w w1 b (.map #[] 0)) (hb:S b):MapOf enc I w1 S b []:=⟨[],fun _=>none,hb,MapAt.new hn,rfl,by simp⟩
variable [DecidableEq κ]
theorem Qek {γ:Type} (f:β->γ) (k:κ):∀ l:List (κ×β),Qe (l.map fun x=>(x.1,f x.2)) k=(Qe l k).map f
 | []=>rfl
 | x :: l=>by
   simp only[Zm,Qe]
   by_cases e:k=x.1
   . rw[if_pos e,if_pos e];rfl
   . rw[if_neg e,if_neg e];exact Qek f k l
theorem Qe7 {γ:Type} (f:β->γ) (k:κ) (v:β):∀ l:List (κ×β),(Xc l k v).map (fun x=>(x.1,f x.2))=Xc (l.map fun x=>(x.1,f x.2)) k (f v)
 | []=>rfl
 | x :: l=>by
   simp only[Zm,Xc]
   by_cases e:k=x.1
   . rw[if_pos e,if_pos e];rfl
   . rw[if_neg e,if_neg e,Zm,Qe7 f k v l]
theorem Qt9 {k:κ} {v:β} {y:κ×β} {l:List (κ×β)} (hp:l.Pairwise (fun x y=>x.1≠y.1)) (hy:y∈Xc l k v):y=(k,v)\/(y∈l/\y.1≠k):=by
 by_cases e:y.1=k
 . left
   have h1:=Qdk (Qaf (k:=k) (v:=v) hp) (k:=y.1) (v:=y.2) (Su hy);rw[e,Q9] at h1;have:v=y.2:=Su h1;rw[this,<- e]
 . right
   rcases Qbp hy with h | h
   . rw[h] at e;exact absurd rfl e
   . exact⟨h,e⟩
theorem Qua {k:κ} {v:β}:∀ {l:List (κ×β)},Qe l k=some v->Xc l k v=l
 | [],h=>by simp[Qe] at h
 | x :: l,h=>by
   simp only[Qe] at h;simp only[Xc]
   by_cases e:k=x.1
   . rw[if_pos e] at h ⊢;have:x.2=v:=Su h;rw[<- this]
   . rw[if_neg e] at h ⊢;rw[Qua h]
theorem MapOf.look (hI:Local I) (h:MapOf enc I w S bm m) (ht:P.underlying mt=some (.map kt et)) (K:Qtw P kt enc) {e:TyE} (he:Xe P et=some e) (hz:e.zero = .map none) (k:κ) :
 (Qe m k=none/\(∀ cl,Kept cl w bm->RdS P cl w (Instr.lookup mt (.map (some bm)) (enc k) false) (.map none))) \/
 ∃ b v Sk,Qe m k=some v/\(∀ cl,Kept cl w bm->RdS P cl w (Instr.lookup mt (.map (some bm)) (enc k) false) (.map (some b)))/\I w Sk b v/\(∀ j,Sk j->S j/\j≠bm) /\
   ∀ (w1:World) (v':β),I w1 (Grow Sk w) b v'->Mod Sk w w1->MapOf enc I w1 (Grow S w) bm (Xc m k v'):=by
 obtain⟨L,col,h⟩:=h;have hlk:=fun cl (hc:Kept cl w bm)=>Xz ht K he hc h.map k
 have hml:Qe m k=(Qe L k).map (·.2):=by rw[<- h.eq];exact Qek (fun p:Nat×β=>p.2) k L
 have hlv:Qe (L.map fun x=>(x.1,Value.map (some x.2.1))) k=(Qe L k).map (fun p=>Value.map (some p.1)):=Qek (fun p:Nat×β=>Value.map (some p.1)) k L
 cases hL:Qe L k with
 | none =>
   left
   rw[hL] at hml hlv;refine⟨hml,fun cl hc => ?_⟩;have:=hlk cl hc;rw[hlv,hz] at this;exact this
 | some p =>
   right
   rw[hL] at hml hlv;have hin:=Qbi hL;refine⟨p.1,p.2,fun j=>S j/\j≠bm/\col j=some k,hml,fun cl hc => ?_,h.own _ hin,fun j hj=>⟨hj.1,hj.2.1⟩,fun w1 v' hI1 hm1 => ?_⟩
   . have:=hlk cl hc;rw[hlv] at this;exact this
   . refine⟨Xc L k (p.1,v'),fun j=>if j<w.heap.size then col j else some k,.inl h.mine,?_,?_,fun x hx => ?_⟩
     . have e1:(Xc L k (p.1,v')).map (fun x=>(x.1,Value.map (some x.2.1)))=L.map fun x=>(x.1,Value.map (some x.2.1)):=(by rw[Qe7 (fun q:Nat×β=>Value.map (some q.1))];exact Qua hlv)
       rw[e1];exact h.map.keep (hm1.block bm h.map.lt (fun q=>q.2.1 rfl))
     . rw[Qe7 (fun q:Nat×β=>q.2),h.eq]
     . have hbl:=h.map.lt;rcases Qt9 h.keys hx with rfl | ⟨hxL,hne⟩
       . refine hI.keep hI1 fun j _ hj2=>⟨rfl,?_⟩
         rcases hj2 with hj2 | hj2
         . refine⟨.inl hj2.1,hj2.2.1,?_⟩
           by_cases q:j<w.heap.size
           . simp only[if_pos q];exact hj2.2.2
           . simp only[if_neg q]
         . refine⟨.inr hj2,Om,?_⟩;simp only[if_neg (Nat.not_lt.2 hj2)]
       . refine hI.keep (h.own x hxL) fun j hj1 hj2=>⟨hm1.block j hj1 fun q => ?_,.inl hj2.1,hj2.2.1,?_⟩
         . have:=hj2.2.2;rw[q.2.2] at this;exact hne (Su this.symm)
         . simp only[if_pos hj1];exact hj2.2.2
theorem MapOf.insert (hI:Local I) (h:MapOf enc I w S bm m) (ht:P.underlying mt=some (.map kt et)) (K:Qtw P kt enc) (k:κ) (hk:Qe m k=none) {b:Nat} {v:β} (hx:Ext w w1) (hb:I w1 (fun j=>w.heap.size<=j) b v) {R:Value->World->Prop}
 (hR:∀ w2,MapOf enc I w2 (Grow S w) bm (Xc m k v)->Only w1 w2 bm->R undef w2):Qxc P (Instr.mapUpdate mt (.map (some bm)) (enc k) (.map (some b))) w1 R:=by
 obtain⟨L,col,h⟩:=h;refine Qx ht K (h.map.ext hx) k _ fun w2 hm2 ho2=>hR w2 ⟨Xc L k (b,v),fun j=>if j<w.heap.size then col j else some k,.inl h.mine,?_,?_,fun x hx' => ?_⟩ ho2
 . rw[Qe7 (fun q:Nat×β=>Value.map (some q.1))];exact hm2
 . rw[Qe7 (fun q:Nat×β=>q.2),h.eq]
 . have hbl:=h.map.lt;have hml:Qe m k=(Qe L k).map (·.2):=by rw[<- h.eq];exact Qek (fun p:Nat×β=>p.2) k L
   have hLk:Qe L k=none:=by
    rw[hk] at hml
    cases hq:Qe L k with
    | none=>rfl
    | some q=>rw[hq] at hml;simp at hml
   rcases Qt9 h.keys hx' with rfl | ⟨hxL,hne⟩
   . refine hI.keep hb fun j _ hj2=>⟨ho2.block j Om,.inr hj2,Om,?_⟩
     simp only[if_neg (Nat.not_lt.2 hj2)]
   . refine hI.keep (h.own x hxL) fun j hj1 hj2=>⟨(ho2.block j hj2.2.1).trans (hx.block j hj1),.inl hj2.1,hj2.2.1,?_⟩
     simp only[if_pos hj1];exact hj2.2.2
end
