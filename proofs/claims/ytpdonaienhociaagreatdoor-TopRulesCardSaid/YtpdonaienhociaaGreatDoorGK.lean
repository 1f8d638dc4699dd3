import Derived.Test.YtpdonaienhociaaGreatDoorGI
import Derived.Test.YtpdonaienhociaaGreatDoorGZK
set_option linter.all false
namespace Go.Proofs.YtpdonaienhociaaGreatDoor
open Go.Se Go.RowKit Go.Sort
theorem Qgh (a:Bj) (w:World):Cal Tryz.prog 198 [.string a] w fun r w'=>r = .bool false/\w'=w:=by
 refine Fi Tryz.func198 rfl _ rfl rfl (Hh ?_);exact⟨by simp,rfl⟩
theorem Qac (a b:Bj) (w:World):Cal Tryz.prog 138 [.string a,.string b] w fun r w'=>r = Vj (Qch a b)/\w'=w:=by
 refine Fi Tryz.func138 rfl _ rfl rfl (Hh ?_);refine(Qgh a w).mono ?_;rintro _ _ ⟨rfl,rfl⟩;refine Hh ?_;refine(Qgh b _).mono ?_;rintro _ _ ⟨rfl,rfl⟩;refine Hh ?_;constructor
 . intro h;cases h
 intro _;refine Hh ?_;constructor
 . intro h;cases h
 intro _;refine Hh ?_;constructor
 . intro h;have h:bLt a b=true:=h;refine Hh ?_;exact⟨by unfold Qch;rw[if_pos h],rfl⟩
 intro h;have h:bLt a b=false:=h;refine Hh ?_;constructor
 . intro k
   have k:bLt b a=true:=by
    have k:(!(bLt a b||decide (a=b)))=true:=k
    cases hh:bLt b a with
    | true=>rfl
    | false =>
      have:=Qbw h hh;subst this;simp at k
   refine Hh ?_;exact⟨by unfold Qch;rw[h,if_neg (by simp),if_pos k],rfl⟩
 intro k;have k:bLt b a=false:=(by have k:(!(bLt a b||decide (a=b)))=false:=k;rw[h] at k;have:a=b:=Su k;subst this;exact h);refine Hh ?_;exact⟨by unfold Qch;rw[h,k,if_neg (by simp),if_neg (by simp)],rfl⟩
theorem Qn2 (a:Int) (w:World):Cal Tryz.prog 231 [Vj a] w fun r w'=>r = .bool false/\w'=w:=by
 refine Fi Tryz.func231 rfl _ rfl rfl (Hh ?_);exact⟨by simp,rfl⟩
theorem Qfn (a b:Int) (w:World):Cal Tryz.prog 165 [Vj a,Vj b] w fun r w'=>r = Vj (Qcy a b)/\w'=w:=by
 refine Fi Tryz.func165 rfl _ rfl rfl (Hh ?_);refine(Qn2 a w).mono ?_;rintro _ _ ⟨rfl,rfl⟩;refine Hh ?_;refine(Qn2 b _).mono ?_;rintro _ _ ⟨rfl,rfl⟩;refine Hh ?_;constructor
 . intro h;cases h
 intro _;refine Hh ?_;constructor
 . intro h;cases h
 intro _;refine Hh ?_;constructor
 . intro h;have h:a<b:=Su h;refine Hh ?_;exact⟨by unfold Qcy;rw[if_pos h],rfl⟩
 intro h;have h:¬ a<b:=Su h;refine Hh ?_;constructor
 . intro k;have k:b<a:=Su k;refine Hh ?_;exact⟨by unfold Qcy;rw[if_neg h,if_pos k],rfl⟩
 intro k;have k:¬ b<a:=Su k;refine Hh ?_;exact⟨by unfold Qcy;rw[if_neg h,if_neg k],rfl⟩
def Q2q (a b:Ct):Int:=orL [Qcy b.2 a.2,Qch a.1 b.1]
theorem Q2r (a b:Ct) (w:World):Cal Tryz.prog 315 [.agg (Qi3 a).toArray,.agg (Qi3 b).toArray] w fun r w'=>r = Vj (Q2q a b)/\Gr w w':=by
 refine Fi Tryz.func315 rfl _ rfl rfl (Hh ?_);intro b1 w1 hn1;refine Hh ?_;intro b2 w2 hn2;have h1:=hn1.At.ext hn2.ext;have h2:=hn2.At;have hx:=(Qae hn1).trans ((Qae hn2).trans (Gr.drew w2));refine Hh ?_;refine Dr .ext [0,1,2,3,5,6,7,8,4] [9,10,11,12] (Hh ?_);replace h1:At w2.drew b1 _ _:=h1;replace h2:At w2.drew b2 _ _:=h2;generalize w2.drew=w3 at h1 h2 hx ⊢;refine⟨_,h2.one rfl,Hh ?_⟩;refine⟨_,h1.one rfl,Hh ?_⟩;refine⟨_,h1.one rfl,Hh ?_⟩;refine⟨_,h2.one rfl,Hh ?_⟩;refine(Qfn _ _ _).mono ?_;rintro _ _ ⟨rfl,rfl⟩;refine⟨Ext.refl _,Hh ?_⟩;refine(Qac _ _ _).mono ?_;rintro _ _ ⟨rfl,rfl⟩;refine Hh ?_;intro b6 w6 hn6;refine Hh ?_;refine(Qen [Qcy b.2 a.2,Qch a.1 b.1] _ _ _ (Qak (enc:=Qfu) X4 hn6) (by simp)).mono ?_;rintro _ _ ⟨rfl,rfl⟩;refine Hh ?_;exact⟨rfl,hx.trans (Qae hn6)⟩
def Qlm (a b:Ct):Bool:=decide (b.2<a.2)||(decide (a.2=b.2)&&bLt a.1 b.1)
theorem Qkv:ltOf Q2q=Qlm:=by
 funext a b;unfold ltOf Q2q Qlm orL Qcy Qch;rcases Int.lt_trichotomy b.2 a.2 with h | h | h
 . simp[h]
 . rw[h];cases h1:bLt a.1 b.1 <;> cases h2:bLt b.1 a.1 <;> simp
 . have h1:¬ b.2<a.2:=Om;have h2:¬ a.2=b.2:=Om;simp[h,h1,h2]
theorem Q04 {a b:Ct}:Qlm a b=true↔b.2<a.2\/(a.2=b.2/\bLt a.1 b.1=true):=by simp[Qlm]
theorem Q05 {a b:Ct}:Qlm a b=false↔¬ b.2<a.2/\(a.2=b.2->bLt a.1 b.1=false):=by
 rw[<- Zad,Q04];constructor
 . intro h;refine⟨fun h1=>h (.inl h1),fun h1 => ?_⟩
   cases hb:bLt a.1 b.1 with
   | false=>rfl
   | true=>exact absurd (.inr ⟨h1,hb⟩) h
 . rintro ⟨h1,h2⟩ (h3 | ⟨h3,h4⟩)
   . exact h1 h3
   . rw[h2 h3] at h4;cases h4
theorem Qe6:Go.Sort.SWO Qlm where
 irrefl x:=by rw[Q05];exact⟨Om,fun _=>Xr _⟩
 trans x y z h k:=by
  rw[Q04] at *;rcases h with h | ⟨h,h'⟩ <;> rcases k with k | ⟨k,k'⟩
  . exact .inl Om
  . exact .inl Om
  . exact .inl Om
  . exact .inr ⟨Om,Qbv h' k'⟩
 ntrans x y z h k:=by
  rw[Q05] at *;refine⟨Om,fun he => ?_⟩;have h1:=h.1;have k1:=k.1;exact Qhq (h.2 Om) (k.2 Om)
theorem Qy8 (l:List Ct) (A:Option Addr) (c base:Nat) (w:World) (hown:Own Qi3 2 251 base w A c l) (hl:l.length<1000000) :
 Cal Tryz.prog 214 [.slice A l.length c,.func (.func 315) #[] #[]] w fun r w'=>r = .tuple #[]/\∃ F,F.Perm l/\Srt Qlm F/\Sl Qi3 2 w' A F/\∀ w0,Ext w0 w->w0.heap.size<=base->Ext w0 w':=by
 have:=Qf7 Tryz.sortCount (by decide) Tryz.isAgg251 Tryz.sizeOf251 Qml Qjf Q2q (by rw[Qkv];exact Qe6) ⟨_,Tryz.func214,rfl,rfl⟩ (enters_of Tryz.func315 Kr rfl) l A c base w hown hl (fun x y w' _=>Q2r x y w') (cb := #[]);rw[Qkv] at this;exact this
end Go.Proofs.YtpdonaienhociaaGreatDoor
namespace Go.Proofs.YtpdonaienhociaaGreatDoor
open Go.Se Go.RowKit
theorem Qw0:Tryz.prog.underlying 265=some (.map 9 2):=by kernel_rfl
theorem Xef {α:Type} (f:α->Nat):∀ {l:List α} {x:α},x∈l->f x<=(l.map f).sum
 | [],x,h=>by simp at h
 | a :: l,x,h=>by
   simp only[Zm,Za9];rcases Zr.1 h with rfl | h
   . omega
   . have:=Xef f h;omega
set_option maxHeartbeats 1000000 in
theorem Qzt (w:World) (S:Nat->Prop) (p:Nat) (half:Int) (rs:List Row) (h:X3 w S p half rs) (person:Bj) (now:Int) (hnow:now<=9223372036854775807) (hm:∀ r∈rs,X0 r.1=true/\0<=r.1.at_) (hl:(rs.map fun r=>r.2.length).sum<1000000) (hl2:rs.length<1000000) :
 Cal Tryz.prog 246 [Pj p,.string person,Vj now] w fun r w'=>∃ A c F,r = .slice A F.length c/\F.Perm (Xgr half now (rowsOf rs person))/\Srt Qlm F/\Sl Qi3 2 w' A F/\(∀ a,A=some a->w.heap.size<=a.block)/\Ext w w':=by
 obtain⟨bp,b,D,L,R,Tg,h⟩:=h;have hT:=Qpc person h.tags;have hown:=(h.rows.own person).1;have hsl0:=hown.sl Qfp;have hmp:∀ r∈rowsOf rs person,X0 r.1=true/\0<=r.1.at_:=fun r hr=>hm r (Ze.1 hr).1
 have hsum:((rowsOf rs person).map fun r=>r.2.length).sum<1000000:=by
  have:∀ l:List Row,((rowsOf l person).map fun r=>r.2.length).sum<=(l.map fun r=>r.2.length).sum:=by
   intro l
   induction l with
   | nil=>simp[rowsOf]
   | cons a l ih =>
     unfold rowsOf at *;simp only[Zar];split
     . simp only[Zm,Za9];omega
     . simp only[Zm,Za9];omega
  have:=this rs;omega
 have hrl:(rowsOf rs person).length<=rs.length:=Zc _ _;refine Fi Tryz.func246 rfl _ rfl rfl (Hh ?_);intro b1 w1 hn1;refine Gg ?_;have hm1:MapAt w1 b1 Value.string []:=MapAt.new hn1;have hx1:=hn1.ext;have e1:=hn1.block;have hhead:=h.head;refine⟨.map (some bp),(h.head.ext hx1).one rfl,Gg ?_⟩;have hrows:=h.rows.look Qf9 Xb (e:=ty274) ty274_ok rfl person (cl := .ext) (Qhv h.rows.map.lt);refine⟨_,fun w' hw=>(by cases hw;exact hrows w1 hx1),Gg ?_⟩;clear hrows;generalize rowsOf rs person=rows at *;generalize Xy D person=row at *;generalize (rowAt L person).1=A at *;generalize (rowAt L person).2=c at *;have hlen:row.length=rows.length:=hT.len
 refine Qh Qb (fun(q:Nat×List (Bj×Int)) w'=>q.1<=row.length/\Ext w w'/\b1<w'.heap.size/\q.2=Qzz half now (rows.take q.1)/\MapAt w' b1 Value.string (Xj vi q.2))
  (fun | (k,_) => [(0,Pj p),(2,Vj now),(7,.map (some b1)),(22,.slice A row.length c),(23,Vj row.length),(24,Vj k)]) (fun q=>row.length-q.1) (0,[]) ⟨by simp,hx1,hm1.lt,rfl,hm1⟩ Rr ?_
 rintro ⟨k,m⟩ w2 ⟨hk,hx2,hb2,hmm,hmap⟩;simp only at hk hmm hmap;refine Gg ?_;constructor
 . intro hlt;have hlt:k<row.length:=Su hlt;obtain⟨a,hA,hc⟩:=(hsl0.ext hx2).get hlt;subst hA;obtain⟨q1,q2,q3,q4⟩:=hT.ev k row[k] (rows[k]'Om) (Zd _) (Zd _);have hmk:=hmp _ (Zx (show k<rows.length by omega));have hrb:=Zb0 (Xef (fun r:Row=>r.2.length) (Zx (show k<rows.length by omega))) hsum;have htk:Qzz half now (rows.take (k+1))=Qfl half now m (rows[k]'Om):=(by rw[Za Om,Qke,hmm]);generalize rows[k]'Om=r at q1 q2 q3 hmk htk hrb;generalize row[k]=d at hc q1 q2 q3 q4;obtain⟨d1,dA,dn,dc⟩:=d;simp only at q1 q2 q3 q4;subst q1;subst q2;refine Gg ?_;refine⟨a,Ix,Gg ?_⟩;refine⟨Qgu (r.1,dA,r.2.length,dc),⟨rfl,hc⟩,Gg ?_⟩;intro b3 w3 hn3;refine Gg ?_;refine Qc Qb (e:=ty276) rfl hn3.At rfl rfl rfl (Qfq _) fun w4 h4 ho4 => ?_
   have h4':At w4 b3 276 ([]++(evC r.1 ++ [.slice dA r.2.length dc])):=h4;have e3:=hn3.block;have hx24:Ext w2 w4:=ho4.ext hn3.ext Om;have hx4:Ext w w4:=hx2.trans hx24;have hmap4:=hmap.ext hx24;clear ho4;refine Gg ?_;refine⟨Vj r.1.at_,h4.one rfl,Gg ?_⟩;constructor
   . intro hgt;have hgt:now<r.1.at_:=Su hgt;have hst:Qfl half now m r=m:=by unfold Qfl;rw[if_pos hgt]
     refine Gg ?_;refine⟨_,wrap_succ Om,Gg ?_⟩;exact⟨(k+1,m),Sj,⟨Sj,hx4,hmap4.lt,by rw[htk,hst],hmap4⟩,Rr⟩
   . intro hgt;have hgt:¬ now<r.1.at_:=Su hgt;have hst:Qfl half now m r=r.2.foldl (Qc6 (Qp1 half now r.1)) m:=by unfold Qfl;rw[if_neg hgt]
     have hb:=Qh4 (half:=half) (now:=now) hmk.1;refine Gg ?_;refine Dr .ext [0,1,3,4,5,6,7,8,9,10,11,2] [12,13,14] (Hh ?_);refine⟨evC r.1,⟨rfl,At.sub h4'⟩,Gg ?_⟩;refine⟨Vj r.1.at_,h4.one rfl,Gg ?_⟩;refine⟨now-r.1.at_,wrap_eq rfl ⟨Om,Om⟩,Gg ?_⟩;refine⟨_,(hhead.ext hx4).one rfl,Gg ?_⟩;replace hx4:=hx4.drew;replace h4:At w4.drew b3 _ _:=h4;replace hmap4:=hmap4.ext (Ext.refl w4).drew;refine(Qcu r.1 w4.drew).mono ?_;rintro _ w5 ⟨rfl,hx5⟩;refine⟨hx5,Gg ?_⟩;refine(Qgn (now-r.1.at_) half ⟨Om,Om⟩ w5).mono ?_;rintro _ _ ⟨rfl,rfl⟩;refine Gg ?_;have hwr:Qp1 half now r.1=IntKind.i64.wrap (Qy r.1*Qas (now-r.1.at_) half):=(by rw[show Qy r.1*Qas (now-r.1.at_) half=Qp1 half now r.1 from rfl];exact wrap_eq rfl ⟨Om,Om⟩);refine⟨Qp1 half now r.1,hwr,Gg ?_⟩;clear hwr;replace hx4:=hx4.trans hx5;replace h4:=h4.ext hx5;replace hmap4:=hmap4.ext hx5;refine⟨_,h4.one rfl,Gg ?_⟩;have hq3:=q3.ext hx4;generalize Qp1 half now r.1=n at hb hst ⊢
     refine Qh Qb (fun(q:Nat×List (Bj×Int)) w'=>q.1<=r.2.length/\Ext w w'/\q.2=(r.2.take q.1).foldl (Qc6 n) m/\MapAt w' b1 Value.string (Xj vi q.2))
      (fun | (j,_) => [(0,Pj p),(2,Vj now),(7,.map (some b1)),(22,.slice (some a) row.length c),(23,Vj row.length),(24,Vj k),(10,Vj n),(48,.slice dA r.2.length dc),(49,Vj r.2.length),(50,Vj j)]) (fun q=>r.2.length-q.1) (0,m) ⟨by simp,hx4,rfl,hmap4⟩ Rr ?_
     clear hmap4 h4 h4';rintro ⟨j,m'⟩ w6 ⟨hj,hx6,hm',hmap6⟩;simp only at hj hm' hmap6;refine Gg ?_;constructor
     . intro hlt2;have hlt2:j<r.2.length:=Su hlt2;obtain⟨a2,hA2,hc2⟩:=(q3.ext hx6).get hlt2;subst hA2;have hjk:(r.2.take (j+1)).foldl (Qc6 n) m=Qc6 n m' (r.2[j]):=(by rw[Za hlt2,Qz1,hm']);generalize r.2[j]=t at hc2 hjk;refine Gg ?_;refine⟨a2,Ix,Gg ?_⟩;refine⟨.string t,Qs hc2,Gg ?_⟩;refine⟨_,Xz Qw0 (Qo Xb) (e:=ty2) ty2_ok Qp hmap6 t,?_⟩;have hz:(Qe (Xj vi m') t).getD (ty2).zero=vi ((Qe m' t).getD 0):=(by unfold Xj;rw[Qek];cases Qe m' t <;> rfl);rw[hz];refine Gg ?_;refine⟨_,rfl,Gg ?_⟩;refine Qx Qw0 (Qo Xb) hmap6 t _ fun w7 hmap7 ho7 => ?_
       have hx7:Ext w w7:=ho7.ext hx6 Om
       have hmap7:MapAt w7 b1 Value.string (Xj vi (Qc6 n m' t)):=by
        have e:Xc (Xj vi m') t (vi (IntKind.i64.wrap ((Qe m' t).getD 0+n)))=Xj vi (Qc6 n m' t):=by unfold Qc6 Xj;rw[Qe7]
        rw[<- e];exact hmap7
       refine Gg ?_;refine⟨_,wrap_succ Om,Gg ?_⟩;exact⟨(j+1,Qc6 n m' t),Sj,⟨Sj,hx7,hjk.symm,hmap7⟩,Rr⟩
     . intro hge2;have hge2:r.2.length<=j:=Su hge2;rw[Zb hge2] at hm';refine Gg ?_;refine⟨_,wrap_succ Om,Gg ?_⟩;exact⟨(k+1,m'),Sj,⟨Sj,hx6,hmap6.lt,by rw[htk,hst,hm'],hmap6⟩,Rr⟩
 . intro hge;have hge:row.length<=k:=Su hge;rw[Zb Om] at hmm;have hML:m.length<=(rows.map fun r=>r.2.length).sum:=by rw[hmm];exact Q11 half now rows
   unfold Xgr;rw[<- hmm];clear hmm;refine Gg ?_;refine map_range Qw0 hmap fun w3 hi3 hx3 => ?_
   have hrw:w.heap.size<=w2.heap.size:=hx2.size;generalize hr:w2.heap.size=r at hi3 ⊢;have hx3:=hx2.trans hx3;refine Gg ?_
   refine Qh Qb (fun(q:List (Bj×Int)×Option Addr×Nat×List Ct) w'=>Ext w w'/\Iter w' r b1 Value.string (Xj vi m) (Xj vi q.1)/\q.2.2.2=q.1.filter (fun x=>decide (0<x.2))/\Own Qi3 2 251 w.heap.size w' q.2.1 q.2.2.1 q.2.2.2/\∀ a,q.2.1=some a->a.block≠b1/\a.block≠r)
    (fun | (_,A,c,F) => [(62,Pj r),(13,.slice A F.length c)]) (fun q=>m.length-q.1.length) ([],none,0,[]) ⟨hx3,hi3,rfl,Own.nil,by simp⟩ Rr ?_
   clear hi3 hx3;rintro ⟨vs,A',c',F⟩ w4 ⟨hx4,hi4,hF,hown4,hne4⟩;simp only at hi4 hF hown4 hne4;have hFl:F.length<=vs.length:=by rw[hF];exact Zc _ _
   refine Gg ?_;refine Qe9 hi4 (fun hp => ?_) (fun x w5 hin hnew hlt hi5 ho5 hen => ?_)
   . have hp:vs.Perm m:=(by have h1:=hp.map (fun x:Bj×Value=>(x.1,match x.2 with | .int _ n=>n | _=>0));simpa [Xj,Zy,Function.comp_def,vi] using h1);have hvl:=hp.length_eq;refine Gg ?_;constructor
     . intro hh;cases hh
     intro _;refine Gg ?_;refine(Qy8 F A' c' w.heap.size w4 hown4 Om).mono ?_;rintro _ w6 ⟨rfl,F6,hp6,hs6,hsl6,hx6⟩;refine Gg ?_;refine⟨A',c',F6,by rw[hp6.length_eq],hp6.trans ?_,hs6,hsl6,fun a ha=>(hown4.block ha).1,hx6 w hx4 (Zg _)⟩;rw[hF];exact hp.filter _
   . obtain⟨y,hy,rfl⟩:=Zh.1 hin;have hlt:vs.length<m.length:=by simpa [Xj] using hlt
     have hvs:Xj vi vs ++ [(y.1,vi y.2)]=Xj vi (vs ++ [y]):=by simp[Xj]
     rw[hvs] at hi5;have hx5:=ho5.ext hx4 Om;have hown5:=hown4.keep (w':=w5) fun a ha=>ho5.block a.block (hne4 a ha).2
     refine Gg ?_;constructor
     . intro _;refine Gg ?_;refine Qaw (hen w5 rfl rfl) ?_;refine Gg ?_;constructor
       . intro hpos;have hpos:0<y.2:=Su hpos;refine Gg ?_;intro b6 w6 hn6;refine Gg ?_;refine Qq Xdc (l:=F) (news := [y]) rfl (hown5.ext hn6.ext) rfl (Xdc.new1 (x:=y) hn6) (by simp;omega) (Zv hx5.size hn6.ext.size) fun A7 c7 w7 hown7 hg7 hA7 => ?_
         have hx7:=Qu (hx5.trans hn6.ext) hg7 (Xq hown5);have hi6:=hi5.ext hn6.ext
         have hi7:Iter w7 r b1 Value.string (Xj vi m) (Xj vi (vs ++ [y])):=hi6.keep (hg7.block b1 hi6.map.lt fun e=>by
          cases A' with
          | none=>simp at e
          | some x=>simp at e;exact(hne4 x rfl).1 e.symm) (hg7.block r hi6.lt fun e=>by
          cases A' with
          | none=>simp at e
          | some x=>simp at e;exact(hne4 x rfl).2 e.symm)
         have hne7:∀ a,A7=some a->a.block≠b1/\a.block≠r:=by
          intro x hx;subst hx;rcases hA7 with h | h | h
          . exact hne4 x h.symm
          . cases A' with
            | none=>simp at h
            | some y=>simp at h;rw[h];exact hne4 y rfl
          . simp at h;have:=hi6.map.lt;have:=hi6.lt;omega
         generalize hF1:F ++ [y]=F1 at hown7 ⊢;refine Gg ?_;exact⟨(vs ++ [y],A7,c7,F1),by simp;omega,⟨hx7,hi7,by simp only;rw[<- hF1,hF];simp[hpos],hown7,hne7⟩,Rr⟩
       . intro hpos;have hpos:¬ 0<y.2:=Su hpos;refine Gg ?_;exact⟨(vs ++ [y],A',c',F),by simp;omega,⟨hx5,hi5,by simp only;rw[hF];simp[hpos],hown5,hne4⟩,Rr⟩
     . intro hh;cases hh
theorem Q5d (w:World) (S:Nat->Prop) (p:Nat) (half:Int) (rs:List Row) (h:X3 w S p half rs) (person:Bj) (now:Int) (hnow:now<=9223372036854775807) (hm:∀ r∈rs,X0 r.1=true/\0<=r.1.at_) (hl:(rs.map fun r=>r.2.length).sum<1000000) (hl2:rs.length<1000000) :
 Cal Tryz.prog 246 [Pj p,.string person,Vj now] w fun r w'=>∃ A c F,r = .slice A F.length c/\F.Perm (Xgr half now (rowsOf rs person))/\Srt Qlm F/\Sl Qi3 2 w' A F/\Ext w w' :=
 (Qzt w S p half rs h person now hnow hm hl hl2).mono fun r w' ⟨A,c,F,h1,h2,h3,h4,_,h5⟩=>⟨A,c,F,h1,h2,h3,h4,h5⟩
theorem Qio (w:World) (S:Nat->Prop) (p:Nat) (half:Int) (rs:List Row) (h:X3 w S p half rs) (hm:∀ r∈rs,X0 r.1=true) (hl:rs.length<1000000) (person:Bj) :
 Cal Tryz.prog 97 [Pj p,.string person] w fun r w'=>∃ A c,r = .slice A (Xi ((Qav (Xk rs).follows person (hist (evs rs) person)).map (·.1))).length c/\Own Qab 1 9 w.heap.size w' A c (Xi ((Qav (Xk rs).follows person (hist (evs rs) person)).map (·.1)))/\Ext w w':=by
 obtain⟨bp,b,D,L,R,Tg,h⟩:=h;have hhd:=Qkq h.tags person;have hown:=(h.rows.own person).1;have hsl0:=hown.sl Qfp;have hfl:=h.maps.follows;have hdl:(Xy D person).length<=rs.length:=(by rw[<- h.tags.len];exact Zc _ _);have hmp:∀ e∈hist (evs rs) person,X0 e=true:=fun e he=>(by obtain⟨r,hr,rfl⟩:=Zh.1 (Ze.1 he).1;exact hm r hr)
 have hmd:∀ d∈Xy D person,X0 d.1=true:=fun d hd=>hmp _ (by rw[<- hhd];exact Zh.2 ⟨d,hd,rfl⟩)
 rw[<- hhd];refine Fi Tryz.func97 rfl _ rfl rfl (Hh ?_);refine⟨.map (some b.follows),h.head.one rfl,Gg ?_⟩;refine Cal.mono (R:=fun r w'=>∃ A c,r = .slice A (Xi ((Qav (Xk rs).follows person ((Xy D person).map (·.1))).map (·.1))).length c/\Own Qab 1 9 w.heap.size w' A c (Xi ((Qav (Xk rs).follows person ((Xy D person).map (·.1))).map (·.1)))/\Ext w w') ?_ ?_
 rotate_left
 . rintro _ w1 ⟨A,c,rfl,h1,h2⟩;refine Gg ?_;exact⟨A,c,rfl,h1,h2⟩
 refine Fi Tryz.func98 rfl _ rfl rfl (Hh ?_);intro b1 w1 hn1;refine Gg ?_;have hm1:MapAt w1 b1 Value.string []:=MapAt.new hn1;have hx1:=hn1.ext;have e1:=hn1.block;refine⟨.map (some bp),(h.head.ext hx1).one rfl,Gg ?_⟩;have hrows:=h.rows.look Qf9 Xb (e:=ty274) ty274_ok rfl person (cl := .ext) (Qhv h.rows.map.lt);refine⟨_,fun w' hw=>(by cases hw;exact hrows w1 hx1),Gg ?_⟩;clear hrows hhd;generalize (Xk rs).follows=fl at *;generalize Xy D person=row at *;generalize (rowAt L person).1=A at *;generalize (rowAt L person).2=c at *
 refine Qh Qb (fun(q:Nat×List (Bj×Bool)) w'=>q.1<=row.length/\Ext w w'/\q.2=Qav fl person ((row.take q.1).map (·.1))/\MapAt w' b1 Value.string (Xj Value.bool q.2))
  (fun | (k,_) => [(1,.string person),(2,Vj 7),(3,.map (some b.follows)),(9,.map (some b1)),(18,.slice A row.length c),(19,Vj row.length),(20,Vj k)]) (fun q=>row.length-q.1) (0,[]) ⟨by simp,hx1,rfl,hm1⟩ Rr ?_
 rintro ⟨k,m⟩ w2 ⟨hk,hx2,hmm,hmap⟩;simp only at hk hmm hmap;refine Gg ?_;constructor
 . intro hlt;have hlt:k<row.length:=Su hlt;obtain⟨a,hA,hc⟩:=(hsl0.ext hx2).get hlt;subst hA;have htk:Qav fl person ((row.take (k+1)).map (·.1))=if(row[k]).1.kind=7/\(Qe fl (person,(row[k]).1.text)).getD false=true then Xc m (row[k]).1.text true else m:=(by rw[Za hlt,Zp,Zm,Zb8,Qeh,<- hmm])
   generalize row[k]=d at hc htk;refine Gg ?_;refine⟨a,Ix,Gg ?_⟩;refine⟨Qgu d,⟨rfl,hc⟩,Gg ?_⟩;intro b3 w3 hn3;refine Gg ?_;refine Qc Qb (e:=ty276) rfl hn3.At rfl rfl rfl (Qfq _) fun w4 h4 ho4 => ?_
   have e3:=hn3.block;have hx24:Ext w2 w4:=ho4.ext hn3.ext Om;have hx4:Ext w w4:=hx2.trans hx24;have hmap4:=hmap.ext hx24;have h4:At w4 b3 276 (Qgu d):=h4;clear ho4;refine Gg ?_;refine⟨Vj d.1.kind,h4.one rfl,Gg ?_⟩;refine⟨.string d.1.text,fun _=>h4.one rfl,Gg ?_⟩;have hlk:=Xz Qh6 Qa6 (e:=ty4) ty4_ok (cl := .same) Qp (hfl.ext hx4) ((person,d.1.text):LK);have hz:(Qe (Xj Value.bool fl) ((person,d.1.text):LK)).getD (ty4).zero = .bool ((Qe fl (person,d.1.text)).getD false):=(by unfold Xj;rw[Qek];cases Qe fl (person,d.1.text) <;> rfl);rw[hz] at hlk;refine⟨_,fun _=>hlk,?_⟩;generalize (Qe fl (person,d.1.text)).getD false=hv at htk ⊢;refine Gg ?_;constructor
   . intro hc1;have hc1:d.1.kind=7/\hv=true:=Su hc1;rw[if_pos hc1] at htk;refine Gg ?_;refine⟨.string d.1.text,h4.one rfl,Gg ?_⟩;refine Qx Qpf (Qo Xb) hmap4 d.1.text _ fun w7 hmap7 ho7 => ?_
     have hx7:Ext w w7:=ho7.ext hx4 Om
     have hmap7:MapAt w7 b1 Value.string (Xj Value.bool (Xc m d.1.text true)):=by
      have e:Xc (Xj Value.bool m) d.1.text (.bool true)=Xj Value.bool (Xc m d.1.text true):=by unfold Xj;rw[Qe7]
      rw[<- e];exact hmap7
     refine Gg ?_;refine⟨_,wrap_succ Om,Gg ?_⟩;exact⟨(k+1,Xc m d.1.text true),Sj,⟨Sj,hx7,htk.symm,hmap7⟩,Rr⟩
   . intro hc1;have hc1:¬ (d.1.kind=7/\hv=true):=Su hc1;rw[if_neg hc1] at htk;refine Gg ?_;refine⟨_,wrap_succ Om,Gg ?_⟩;exact⟨(k+1,m),Sj,⟨Sj,hx4,htk.symm,hmap4⟩,Rr⟩
 . intro hge;have hge:row.length<=k:=Su hge;rw[Zb hge] at hmm;have hkeys:∀ x∈m,x.1.size<=1000000:=(by intro x hx;have hx1:x.1∈m.map (·.1):=Zh.2 ⟨x,hx,rfl⟩;rw[hmm,Qqg] at hx1;obtain⟨e,he,_,h2,_⟩:=hx1;obtain⟨d,hd,rfl⟩:=Zh.1 he;have:=Qdc (hmd d hd);rw[<- h2];omega)
   have hml:m.length<=row.length:=by
    have:∀ h:List Ev,(Qav fl person h).length<=h.length:=by
     refine Qv (by simp[Qav]) fun l e ih => ?_
     rw[Qeh];have:=Qb3 e.text true (Qav fl person l);split <;> simp <;> omega
    have:=this (row.map (·.1));rw[<- hmm] at this;simpa using this
   rw[<- hmm];have hvk:(Xj Value.bool m).map (·.1)=m.map (·.1):=by simp[Xj]
   refine Gg ?_;refine(Qks (some b1) w2).mono ?_;rintro _ w3 ⟨rfl,hc3,hx3⟩;refine Gg ?_;refine(Qhm hc3 (hmap.ext hx3) (by intro x hx;obtain⟨y,hy,rfl⟩:=Zh.1 hx;exact hkeys y hy) (by simp[Xj];omega)).mono ?_;rintro _ w4 ⟨A4,c4,rfl,ho,hx4⟩;rw[hvk] at ho ⊢;refine Gg ?_;exact⟨A4,c4,rfl,Qg5 ho (Zv hx2.size hx3.size),hx2.trans (hx3.trans hx4)⟩
open Go.Maps Go.Sort Go.Shelf
theorem Qhz (w:World) (p:Nat) (width n:Int) (bs br:Nat) (hp:At w p 285 [vi width,vi n,.map (some bs),.map (some br)]) (hw:1<=width/\width<=1099511627776) (t:Int) (ht:-9223372036854775807<=t/\t<=9223372036854775807) :
 Cal Tryz.prog 186 [Pj p,Vj t] w fun r w'=>r = Vj (t/width)/\w'=w:=by
 have hd:t.tdiv width=t/width+if 0<=t\/width ∣ t then 0 else width.sign:=Int.tdiv_eq_ediv
 have hm:=Int.tmod_eq_emod (a:=t) (b:=width);have hs:width.sign=1:=Int.sign_eq_one_of_pos Om;have h5:0<=t % width:=Int.emod_nonneg _ Om;have h6:t % width<width:=Int.emod_lt_of_pos _ Om;have hna:(width.natAbs:Int)=width:=Om;rw[hs] at hd
 have hr1 : -9223372036854775807<=t/width:=by
  have:=Int.ediv_emod_unique (a:=t) (b:=width) (r:=t % width) (q:=t/width) Om;rcases Int.lt_or_le t 0 with h | h
  . have:t<=t/width:=(by rw[Int.le_ediv_iff_mul_le Om];have:t*width<=t*1:=Int.mul_le_mul_of_nonpos_left Om Om;omega);omega
  . have:=Zc5 h (show 0<=width by omega);omega
 have hr2:t/width<=9223372036854775806\/(0<=t/\t/width<=t):=by
  rcases Int.lt_or_le t 0 with h | h
  . left
    have:=Int.ediv_neg_of_neg_of_pos h (show 0<width by omega);omega
  . right;exact⟨h,Zcq _ h⟩
 refine Fi Tryz.func186 rfl _ rfl rfl (Hh ?_);refine⟨_,hp.one0,Hh ?_⟩
 by_cases hc:0<=t\/width ∣ t
 . rw[if_pos hc] at hd hm;refine⟨t/width,⟨Om,wrap_eq Om ⟨Om,Om⟩⟩,Hh ?_⟩;refine Qa Qb (Hh ?_);refine⟨_,hp.one0,Hh ?_⟩;refine⟨t.tmod width,⟨Om,rfl⟩,Hh ?_⟩;constructor
   . intro q;have q:t.tmod width<0:=Su q;omega
   . intro _;refine Hh ?_;exact⟨rfl,rfl⟩
 . rw[if_neg hc] at hd hm;have hneg:t<0:=Om;have hd0:=Int.ediv_neg_of_neg_of_pos hneg (show 0<width by omega);refine⟨t/width+1,⟨Om,wrap_eq Om ⟨Om,Om⟩⟩,Hh ?_⟩;refine Qa Qb (Hh ?_);refine⟨_,hp.one0,Hh ?_⟩;refine⟨t.tmod width,⟨Om,rfl⟩,Hh ?_⟩;constructor
   . intro _;refine Hh ?_;refine⟨t/width,wrap_eq Om ⟨Om,Om⟩,Hh ?_⟩;exact⟨rfl,rfl⟩
   . intro q;have q:¬ t.tmod width<0:=Su q;omega
theorem Qlr (w:World) (S:Nat->Prop) (p:Nat) (width n:Int) (s:Qal) (h:Qm5 w S p width n s) :
 Cal Tryz.prog 293 [Pj p] w fun r w'=>r = Vj width/\Ext w w':=by
 obtain⟨bs,br,L,R,h⟩:=h;refine Fi Tryz.func293 rfl _ rfl rfl (Hh ?_);refine⟨_,h.head.one rfl,Hh ?_⟩;exact⟨rfl,Ext.refl _⟩
theorem Qm5.ext {w w1:World} {S:Nat->Prop} {p:Nat} {width n:Int} {s:Qal} (h:Qm5 w S p width n s) (hx:Ext w w1):Qm5 w1 S p width n s:=h.keep fun k hk hs=>⟨hx.block k hk,hs⟩
theorem Xjg:Tryz.prog.underlying 93=some (.pointer (Tryz.prog.pointee 93)):=by kernel_rfl
end Go.Proofs.YtpdonaienhociaaGreatDoor
namespace Go.Proofs.YtpdonaienhociaaGreatDoor
open Go.Se Go.RowKit
theorem Qnz (n:Int) (w:World):Cal Tryz.prog 244 [Vj n] w fun r w'=>r = Vj (min n 1099511627776)/\w'=w:=by
 refine Fi Tryz.func244 rfl _ rfl rfl (Hh ?_);exact⟨rfl,rfl⟩
theorem Q3e {w:World} {T:Nat->Prop} {p:Nat} {c:Cfg} {z:List Ev} {v:Value} (h:WQ w T p c z v) (person item:Bj) (now:Int) (hn:0<=now/\now<=1099511627776) (hb:0<=(Xw (Ql z) item now).1.born/\(Xw (Ql z) item now).1.born<=1099511627776) :
 Cal Tryz.prog 175 [Pj p,.string person,.string item,Vj now] w fun r w'=>r = Vj (if(Xw (Ql z) item now).1.listed=true then Qas (now-(Xw (Ql z) item now).1.born) c.half else 0)/\Ext w w':=by
 refine Fi Tryz.func175 rfl _ rfl rfl (Hh ?_);refine(Xh h).mono ?_;rintro _ w1 ⟨pc,S,rfl,hcat,hx1⟩;refine Hh ?_;refine(Q7 _ S pc _ hcat item now h.rows).mono ?_;rintro _ w2 ⟨rfl,hx2⟩;generalize Xw (Ql z) item now=it at hb ⊢;refine Hh ?_;intro b3 w3 hn3;refine Hh ?_;refine Qc Qb (e:=ty59) rfl hn3.At rfl rfl rfl (by simp[Qg,itC,Value.oneCell']) fun w4 h4 ho4 => ?_
 have e3:=hn3.block;have hx4:Ext w w4:=ho4.ext ((hx1.trans hx2).trans hn3.ext) (by have:=(hx1.trans hx2).size;omega);have h4:At w4 b3 59 (itC it.1):=h4;clear ho4;refine Hh ?_;refine⟨.bool it.1.listed,h4.one rfl,Hh ?_⟩;constructor
 . intro hl;have hl:it.1.listed=false:=Su hl;refine Hh ?_;exact⟨by rw[hl];rfl,hx4⟩
 intro hl;have hl:it.1.listed=true:=Su hl;rw[if_pos hl];refine Hh ?_;refine Dr .ext [0,1,2,3,4,5,6] [7,8] (Hh ?_);refine⟨Vj it.1.born,h4.one rfl,Hh ?_⟩;refine⟨now-it.1.born,wrap_eq rfl ⟨Om,Om⟩,Hh ?_⟩;replace hx4:=hx4.drew;refine(Qbc (h.ext hx4)).mono ?_;rintro _ w5 ⟨rfl,hx5⟩;refine⟨hx5,Hh ?_⟩;refine(Qgn (now-it.1.born) c.half ⟨Om,Om⟩ w5).mono ?_;rintro _ _ ⟨rfl,rfl⟩;refine Hh ?_;exact⟨rfl,hx4.trans hx5⟩
def Xhn:List Value := [.func (.func 170) #[] #[],.func (.func 171) #[] #[],.func (.func 172) #[] #[],.func (.func 173) #[] #[],.func (.func 174) #[] #[],.func (.func 175) #[] #[]]
theorem Qzf (w:World):Cal Tryz.prog 99 [] w fun r w'=>r = .agg Xhn.toArray/\Ext w w':=by
 refine Fi Tryz.func99 rfl _ rfl rfl (Hh ?_);intro b1 w1 hn1;refine Hh ?_;refine Qc Qb (e:=ty201) rfl hn1.At rfl rfl rfl Oj fun w2 h2 ho2 => ?_
 have h2:At w2 b1 201 Xhn:=h2;have e1:=hn1.block;refine Hh ?_;refine⟨Xhn,⟨rfl,h2.all⟩,Hh ?_⟩;exact⟨rfl,ho2.ext hn1.ext Om⟩
def Qmi (l:List Pt):Int:=IntKind.i64.wrap ((l.map fun x=>x.2.2).sum)
theorem Xgq:Qmi []=0:=Xbg
theorem Xdu (l:List Pt) (x:Pt):Qmi (l ++ [x])=IntKind.i64.wrap (Qmi l+x.2.2):=by
 unfold Qmi;rw[Qlc,Zp,Zbd];simp
theorem Qrc (l:List Pt) (A:Option Addr) (c:Nat) (w:World) (hs:Sl ptC 3 w A l) (hl:l.length<1000000) :
 Cal Tryz.prog 17 [.slice A l.length c] w fun r w'=>r = Vj (Qmi l)/\Ext w w':=by
 refine Fi Tryz.func17 rfl _ rfl rfl (Hh ?_)
 refine Qh Qb (fun(q:Nat×Int) w'=>q.1<=l.length/\q.2=Qmi (l.take q.1)/\Ext w w')
  (fun | (k,s) => [(6,.slice A l.length c),(7,Vj l.length),(8,Vj k),(3,Vj s)]) (fun q=>l.length-q.1) (0,0) ⟨by simp,Xgq.symm,Ext.refl _⟩ Rr ?_
 rintro ⟨k,s⟩ w1 ⟨hk,hs1,hx1⟩;simp only at hk hs1;refine Hh ?_;constructor
 . intro hlt;have hlt:k<l.length:=Su hlt;obtain⟨a,hA,hc⟩:=(hs.ext hx1).get hlt;subst hA;have htk:Qmi (l.take (k+1))=IntKind.i64.wrap (s+(l[k]).2.2):=by rw[hs1,Za hlt,Xdu]
   generalize l[k]=x at hc htk;refine Hh ?_;refine⟨a,Ix,Hh ?_⟩;refine⟨ptC x,⟨rfl,hc⟩,Hh ?_⟩;intro b2 w2 hn2;refine Hh ?_;refine Qc Qb (e:=ty146) rfl hn2.At rfl rfl rfl (Q85 x) fun w3 h3 ho3 => ?_
   have h3:At w3 b2 146 (ptC x):=h3;have e2:=hn2.block;have hx3:Ext w w3:=ho3.ext (hx1.trans hn2.ext) (by have:=hx1.size;omega);clear ho3;refine Hh ?_;refine⟨Vj x.2.2,h3.one rfl,Hh ?_⟩;refine⟨_,rfl,Hh ?_⟩;refine⟨_,wrap_succ Om,Hh ?_⟩;exact⟨(k+1,_),by simp;omega,⟨by simp;omega,htk.symm,hx3⟩,Rr⟩
 . intro hge;have hge:l.length<=k:=Su hge;refine Hh ?_;exact⟨by rw[hs1,Zb hge],hx1⟩
def Quj (n:Int):Int:=min (max n 0) 1000
def Qlt (F a:Nat->Int) (n:Nat):List Pt:=(List.range n).map fun(k:Nat)=>((k:Int),F k,IntKind.i64.wrap (F k*Quj (a k)))
theorem Q86 (F a:Nat->Int) (n:Nat):Qlt F a (n+1)=Qlt F a n ++ [((n:Int),F n,IntKind.i64.wrap (F n*Quj (a n)))]:=by
 unfold Qlt;rw[Zc6,Zp];rfl
theorem Qs5 (F a:Nat->Int) (n:Nat):(Qlt F a n).length=n:=by simp[Qlt]
def wsV (a:Nat->Int):Value := .agg #[Vj (a 0),Vj (a 1),Vj (a 2),Vj (a 3),Vj (a 4),Vj (a 5)]
theorem Xdi (F a:Nat->Int) (J:Nat->(Nat->Prop)->World->Prop) (T0:Nat->Prop) (p:Nat) (person item:Bj) (now:Int) (w:World) (hJ:J 0 T0 w) (hJlt:∀ k T w1,J k T w1->∀ b,T b->b<w1.heap.size) (hJk:∀ k T w1 w2,J k T w1->Mod (fun b=>¬ T b/\w.heap.size<=b) w1 w2->J k T w2)
 (hraw:∀ k,k<6->∀ T w1,J k T w1->Cal Tryz.prog 54 [Pj p,Vj (k:Nat),.string person,.string item,Vj now] w1 fun r w'=>r = Vj (F k)/\Mod T w1 w'/\∃ T',J (k+1) T' w'/\∀ b,T' b->T b\/w1.heap.size<=b) :
 Cal Tryz.prog 15 [Pj p,wsV a,.string person,.string item,Vj now] w fun r w'=>∃ A cap T,r = .tuple #[.slice A 6 cap,Vj (Qmi (Qlt F a 6))]/\Own ptC 3 146 w.heap.size w' A cap (Qlt F a 6)/\J 6 T w'/\(∀ b,T b->T0 b\/w.heap.size<=b)/\(∀ a,A=some a->¬ T a.block)/\Mod T0 w w':=by
 refine Fi Tryz.func15 rfl _ rfl rfl (Hh ?_);intro b1 w1 hn1;refine Hh ?_;refine⟨_,⟨rfl,hn1.At.all⟩,Hh ?_⟩
 refine Qh Qb (fun(q:Nat×Option Addr×Nat×List Pt) w'=>q.1<=6/\q.2.2.2=Qlt F a q.1/\(∃ T,J q.1 T w'/\(∀ b,T b->T0 b\/w.heap.size<=b)/\∀ a,q.2.1=some a->¬ T a.block)/\Mod T0 w w'/\Own ptC 3 146 w.heap.size w' q.2.1 q.2.2.1 q.2.2.2)
  (fun | (k,A,cap,T) => [(0,Pj p),(2,.string person),(3,.string item),(4,Vj now),(16,wsV a),(17,Vj k),(12,.slice A T.length cap)]) (fun q=>6-q.1) (0,none,0,[]) ⟨by simp,rfl,⟨T0,hJk _ _ _ _ hJ (Mod.of_ext hn1.ext),fun b hb => .inl hb,by simp⟩,Mod.of_ext hn1.ext,Own.nil⟩ Rr ?_
 rintro ⟨k,A,cap,Q⟩ w2 ⟨hk,hT,⟨T,hJ2,hT0,hTA⟩,hM,hown⟩;simp only at hk hT hJ2 hown hTA;have hlen:Q.length=k:=by rw[hT,Qs5]
 refine Hh ?_;constructor
 . intro hlt;have hlt:k<6:=(by have:(k:Int)<6:=Su hlt;omega);have hst:=Q86 F a k;rw[<- hT] at hst;refine Hh ?_;refine⟨Vj (a k),Qb2 Tryz.underlying27 Tryz.isAgg3 Tryz.sizeOf3 hlt (by rcases k with _ | _ | _ | _ | _ | _ | k <;> first | rfl | omega),Hh ?_⟩;refine(hraw k hlt T w2 hJ2).mono ?_;rintro _ w3 ⟨rfl,hM3,T3,hJ3,hT3⟩;have hown3:=hown.keep (w':=w3) fun a ha=>hM3.block a.block (hown.block ha).2 (hTA a ha)
   generalize F k=n at hst ⊢;generalize a k=m at hst ⊢;have s2:=hM.size;have s3:=hM3.size;refine Hh ?_;refine⟨_,rfl,Hh ?_⟩;intro b4 w4 hn4;refine Hh ?_;have s4:=hn4.ext.size;have hJ4:=hJk _ _ _ _ hJ3 (Mod.of_ext hn4.ext);refine Qq Q4n (l:=Q) (news := [((k:Int),n,IntKind.i64.wrap (n*Quj m))]) rfl (hown3.ext hn4.ext) rfl (Q4n.new1 (x:=((k:Int),n,IntKind.i64.wrap (n*Quj m))) hn4) (by simp;omega) Om fun A5 c5 w5 hown5 hg5 hA5 => ?_
   have hA3:∀ a,A=some a->¬ T3 a.block:=fun a ha h3=>by
    rcases hT3 _ h3 with h3 | h3
    . exact hTA a ha h3
    . have:=(hown.block ha).2;omega
   have hJ5:J (k+1) T3 w5:=hJk _ _ _ _ hJ4 (Xx hg5 fun b hb=>by
    cases A with
    | none=>simp at hb
    | some x=>simp at hb;rw[<- hb];exact⟨hA3 x rfl,(hown.block rfl).1⟩)
   have hM5:Mod T0 w w5:=(by refine Qn (Qn hM (hM3.mono fun b _ hb=>hT0 b hb)) ?_;exact(Mod.of_ext hn4.ext).trans (Xx hg5 fun b hb => .inr (Xq hown b hb)))
   have hA5:∀ a,A5=some a->¬ T3 a.block:=by
    intro x hx h3;have hlt5:=hJlt _ _ _ hJ4 _ h3;subst hx;rcases hA5 with h | h | h
    . exact hA3 x h.symm h3
    . cases A with
      | none=>simp at h
      | some y=>simp at h;rw[h] at h3;exact hA3 y rfl h3
    . simp at h;omega
   generalize hT1:Q ++ [((k:Int),n,IntKind.i64.wrap (n*Quj m))]=Q1 at hown5 hst ⊢;refine Hh ?_;refine⟨_,wrap_succ Om,Hh ?_⟩;refine⟨(k+1,A5,c5,Q1),Sj,⟨Sj,hst.symm,⟨T3,hJ5,fun b hb => ?_,hA5⟩,hM5,hown5⟩,Rr⟩;rcases hT3 b hb with h | h
   . exact hT0 b h
   . exact .inr Om
 . intro hge;have hge:k=6:=(by have:¬ (k:Int)<6:=Su hge;omega);subst hge;rw[<- hT];have h6:(.slice A 6 cap:Value) = .slice A Q.length cap:=by rw[hlen]
   refine Hh ?_;refine(Qrc Q A cap w2 (hown.sl Qs4) Om).mono ?_;rintro _ w3 ⟨rfl,hx3⟩;refine Hh ?_;exact⟨A,cap,T,by rw[h6],hown.ext hx3,hJk _ _ _ _ hJ2 (Mod.of_ext hx3),hT0,hTA,hM.trans (Mod.of_ext hx3)⟩
def ones (_:Nat):Int:=1
