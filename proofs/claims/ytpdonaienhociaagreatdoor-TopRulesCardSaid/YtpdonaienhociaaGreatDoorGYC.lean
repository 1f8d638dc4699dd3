import Derived.Test.YtpdonaienhociaaGreatDoorGYA
import Derived.Test.YtpdonaienhociaaGreatDoorGYB
import Derived.Test.YtpdonaienhociaaGreatDoorGXC
set_option linter.all false
namespace Go.Proofs.YtpdonaienhociaaGreatDoor
open Go.Se Go.RowKit Go.Sort
def nrC (x:Nr):List Value := [.string x.1,Vj x.2.1,Vj x.2.2]
theorem Qsv (x:Nr):(nrC x).length=3:=rfl
theorem Qsw (x:Nr):∀ u∈nrC x,u.oneCell'=true:=by simp[nrC,Value.oneCell']
theorem Qyz:Ql9 Tryz.prog 258 261 nrC 3 32:=⟨by kernel_rfl,⟨_,ty261_ok,rfl,rfl⟩,by261,by decide,by decide,Qsv,Qsw⟩
theorem Qrm {w:World} {b:Nat} {t:TypeId} {l l2:List Value} (h:At w b t l) (k:Nat) (h2:∀ j v,l2[j]? = some v->l[k+j]? = some v):Xp w ((⟨b,0,none⟩:Addr).add k) l2:=fun j v hj=>by
 rw[Xf];exact h.all (k+j) v (h2 j v hj)
theorem Q2v (a b:Nr) (ha:Qp3 a) (hb:Qp3 b) (w:World):Cal Tryz.prog 305 [.agg (nrC a).toArray,.agg (nrC b).toArray] w fun r w'=>r = Vj (Xfg a b)/\Gr w w':=by
 refine Fi Tryz.func305 rfl _ rfl rfl (Hh ?_);intro b1 w1 hn1;refine Hh ?_;intro b2 w2 hn2;have h1:At w2 b1 _ (nrC a):=hn1.At.ext hn2.ext;have h2:At w2 b2 _ (nrC b):=hn2.At;have hx:=(Qae hn1).trans ((Qae hn2).trans (Gr.drew w2));refine Hh ?_;refine Dr .ext [0,1,2,3,5,6,7,8,4] [9,10,11,12] (Hh ?_);replace h1:At w2.drew b1 _ _:=h1;replace h2:At w2.drew b2 _ _:=h2;generalize w2.drew=w3 at h1 h2 hx ⊢;refine⟨Qlv b.2,⟨rfl,Qrm h2 1 fun j v hj=>by rw[Zc4];exact hj⟩,Hh ?_⟩;refine⟨Qlv a.2,⟨rfl,Qrm h1 1 fun j v hj=>by rw[Zc4];exact hj⟩,Hh ?_⟩;refine⟨_,h1.one rfl,Hh ?_⟩;refine⟨_,h2.one rfl,Hh ?_⟩;refine(Qd2 Om b.2 a.2 hb ha w3).mono ?_;rintro _ w6 ⟨rfl,hg6⟩;refine⟨hg6.ext,Hh ?_⟩;refine(Qac _ _ _).mono ?_;rintro _ w8 ⟨rfl,hw8⟩;subst hw8;refine Hh ?_;intro b9 w9 hn9;refine Hh ?_;refine(Qen [Qpj b.2 a.2,Qch a.1 b.1] _ _ _ (Qak (enc:=Qfu) X4 hn9) (by simp)).mono ?_;rintro _ w10 ⟨rfl,hw10⟩;subst hw10;refine Hh ?_;exact⟨rfl,(hx.trans hg6).trans (Qae hn9)⟩
theorem Qza (l:List NrS) (A:Option Addr) (c base:Nat) (w:World) (hown:Own (fun x:NrS=>nrC x.1) 3 261 base w A c l) (hl:l.length<1000000) :
 Cal Tryz.prog 304 [.slice A l.length c,.func (.func 305) #[] #[]] w fun r w'=>r = .tuple #[]/\∃ F:List NrS,F.Perm l/\Srt (ltOf Qjd) F/\Sl (fun x:NrS=>nrC x.1) 3 w' A F/\∀ w0,Ext w0 w->w0.heap.size<=base->Ext w0 w' :=
 Qf7 Tryz.sortNear (enc:=fun x:NrS=>nrC x.1) (by decide) Tryz.isAgg261 Tryz.sizeOf261 (fun x=>Qsv x.1) (fun x=>Qsw x.1) Qjd Quq ⟨_,Tryz.func304,rfl,rfl⟩ (enters_of Tryz.func305 Kr rfl) l A c base w hown hl (fun x y w' _=>Q2v x.1 y.1 x.2 y.2 w') (cb := #[])
theorem Xgz:Tryz.prog.underlying 258=some (.slice 261):=by kernel_rfl
theorem Qum (x:List Nr) (A:Option Addr) (c:Nat) (w:World) (hs:Sl nrC 3 w A x) (hl:x.length<1000000) :
 Cal Tryz.prog 306 [.slice A x.length c] w fun r w'=>∃ A' c',r = .slice A' x.length c'/\Own nrC 3 261 w.heap.size w' A' c' x/\Ext w w':=by
 refine Fi Tryz.func306 rfl _ rfl rfl (Hh ?_);refine⟨_,X9 Xgz A _ _ _ _,Hh ?_⟩;constructor
 . intro h;obtain rfl:A=none:=Su h
   have hx:x = []:=by
    cases x with
    | nil=>rfl
    | cons e x=>obtain⟨a,ha,_⟩:=hs 0 e rfl;cases ha
   subst hx;refine Hh ?_;exact⟨none,0,rfl,Own.nil,Ext.refl _⟩
 . intro h;refine Hh ?_;intro b1 w1 hn1;refine Hh ?_;have o1:=Qyz.made (base:=w.heap.size) hn1 (Zg _);refine Qq Qyz (l := []) (news:=x) rfl o1 rfl (hs.ext hn1.ext) (by simp;omega) hn1.ext.size fun A2 c2 w2 hown2 hg2 hA2 => ?_
   have hx2:=Qu hn1.ext hg2 (Xq o1);rw[Zan] at hown2 ⊢;refine Hh ?_;exact⟨A2,c2,rfl,hown2,hx2⟩
theorem Xfp (w:World) (n:Nat) (h:n<=w.heap.size):∃ w0,Ext w0 w/\w0.heap.size=n:=by
 have q0:(w.heap.extract 0 n).size=n:=by simp;omega
 exact⟨{ w with heap:=w.heap.extract 0 n },⟨rfl,rfl,rfl,by show (w.heap.extract 0 n).size<=_;rw[q0];exact h,fun i hi=>by
  have hi:i<(w.heap.extract 0 n).size:=hi;show w.heap[i]? = (w.heap.extract 0 n)[i]?
  rw[Array.getElem?_extract];rw[q0] at hi;simp[hi];omega⟩,q0⟩
theorem Qyd (l:List Nr) (hok:∀ x∈l,Qp3 x) (A:Option Addr) (c base:Nat) (w:World) (hown:Own nrC 3 261 base w A c l) (hl:l.length<1000000) (hbw:base<=w.heap.size) (n:Int) (hn:0<=n/\n<=9223372036854775807) :
 Cal Tryz.prog 226 [.slice A l.length c,Vj n] w fun r w'=>∃ F:List NrS,(F.map (·.1)).Perm l/\Srt (ltOf Qjd) F/\∃ A' c',r = .slice A' ((F.map (·.1)).take n.toNat).length c'/\Own nrC 3 261 base w' A' c' ((F.map (·.1)).take n.toNat)/\∀ w0,Ext w0 w->w0.heap.size<=base->Ext w0 w':=by
 have hv:=Qmy hok;have hown':Own (fun x:NrS=>nrC x.1) 3 261 base w A c (Qmx Qp3 l):=Qyq (f:=fun x:NrS=>x.1) (by rw[hv];exact hown);have hsl:(Qmx Qp3 l).length=l.length:=by rw[<- Zf (f:=fun x:NrS=>x.1),hv]
 have hsort:=Qza (Qmx Qp3 l) A c base w hown' Om;rw[hsl] at hsort;refine Fi Tryz.func226 rfl _ rfl rfl (Hh ?_);refine hsort.mono ?_;rintro _ w1 ⟨rfl,F,hp,hs,hsF,hx1⟩;have hpF:=hp.map (fun x:NrS=>x.1);rw[hv] at hpF;have hFl:(F.map (fun x:NrS=>x.1)).length=l.length:=hpF.length_eq;have hsM:Sl nrC 3 w1 A (F.map fun x:NrS=>x.1):=Q96 hsF;obtain⟨T,hT⟩:∃ T,T=(F.map fun x:NrS=>x.1).take n.toNat:=⟨_,rfl⟩;have hTl:min (max n 0) (l.length:Int)=(T.length:Int):=by rw[hT,Zn,hFl];omega
 have hTl2:T.length<=l.length:=by rw[hT,Zn,hFl];omega
 have hle:=hown.le;have hsk:=Qf0 (Qy6 hsM n.toNat) 0 c (by rw[<- hT];omega);rw[List.drop_zero,<- hT] at hsk;have hx1':=hx1;refine Hh ?_;rw[hTl];refine⟨⟨Om,Om,Om,Om⟩,Hh ?_⟩;refine(Qum T _ _ w1 hsk Om).mono ?_;rintro _ w2 ⟨A2,c2,rfl,hown2,hx2⟩;refine Hh ?_;obtain⟨w0,hw0,hz0⟩:=Xfp w base hbw;have hb1:=(hx1 w0 hw0 (Nat.le_of_eq hz0)).size;exact⟨F,hpF,hs,A2,c2,by rw[<- hT],by rw[<- hT];exact hown2.base Om,fun w0 h0 hb=>(hx1 w0 h0 hb).trans hx2⟩
end Go.Proofs.YtpdonaienhociaaGreatDoor
namespace Go.Proofs.YtpdonaienhociaaGreatDoor
open Go.Se Go.RowKit
theorem Qu0 (w:World) (S:Nat->Prop) (p:Nat) (half:Int) (rs:List Row) (h:X3 w S p half rs) (person item:Bj) :
 Cal Tryz.prog 96 [Pj p,.string person,.string item] w fun r w'=>r = .bool (Qij rs person item)/\Ext w w':=by
 obtain⟨bp,b,D,L,R,Tg,h⟩:=h;have hlk:∀ w',Ext w w'->RdS Tryz.prog .same w' (Instr.lookup 192 (.map (some b.done)) (lnk (person,item)) false) (.bool (Qij rs person item)):=fun w' hx=>(by have hlk:=Xz Qh6 Qa6 (e:=ty4) ty4_ok (cl := .same) Qp (h.maps.done.ext hx) ((person,item):LK);rw[show ty4.zero = .bool false from rfl,Xo] at hlk;exact hlk)
 refine Fi Tryz.func96 rfl _ rfl rfl (Hh ?_);refine⟨.map (some b.done),h.head.one rfl,Gg ?_⟩;refine⟨_,hlk _ (Ext.refl _),Gg ?_⟩;exact⟨rfl,Ext.refl _⟩
theorem Qn0 (w:World) (S:Nat->Prop) (p:Nat) (half:Int) (rs:List Row) (h:X3 w S p half rs) (person item:Bj) :
 Cal Tryz.prog 43 [Pj p,.string person,.string item] w fun r w'=>r = .bool (Q5w rs person item)/\Ext w w':=by
 obtain⟨bp,b,D,L,R,Tg,h⟩:=h;have hlk:∀ w',Ext w w'->RdS Tryz.prog .same w' (Instr.lookup 192 (.map (some b.hidden)) (lnk (person,item)) false) (.bool (Q5w rs person item)):=fun w' hx=>(by have hlk:=Xz Qh6 Qa6 (e:=ty4) ty4_ok (cl := .same) Qp (h.maps.hidden.ext hx) ((person,item):LK);rw[show ty4.zero = .bool false from rfl,Xo] at hlk;exact hlk)
 refine Fi Tryz.func43 rfl _ rfl rfl (Hh ?_);refine⟨.map (some b.hidden),h.head.one rfl,Gg ?_⟩;refine⟨_,hlk _ (Ext.refl _),Gg ?_⟩;exact⟨rfl,Ext.refl _⟩
theorem Qrb {z:List Ev} (hm:∀ e∈z,X0 e=true):(∀ x∈Qik (z.filter wpB),x.1.size<=1000000)/\(Qik (z.filter wpB)).length<=z.length/\∀ key r,Qe (Qik (z.filter wpB)) key=some r->∀ x∈r,0<=x.1/\x.1<=1099511627776:=by
 have h1:=Q65 (z.filter wpB);have h2:=Zc wpB z;refine⟨fun x hx => ?_,Om,fun key r hr x hx => ?_⟩
 . obtain⟨e,he,hi⟩:=h1.2 x hx;have:=Qds (Qtt hm he).2;rw[<- hi];omega
 . obtain⟨e,he,ha,_⟩:=Q0q _ key r hr x hx;rw[<- ha];exact Qvn (Xbf hm e he)
set_option maxRecDepth 100000 in
theorem Xa4 (w:World) (p:Nat) (now n:Int) (hn:n<=0):Cal Tryz.prog 151 [Pj p,Vj now,Vj n] w fun r w'=>r = .slice none 0 0/\Ext w w':=by
 refine⟨⟨_,Tryz.func151,rfl,rfl⟩,?_⟩;refine(callsIn_wide (n:=7)).1 ?_;refine callsIn_of_wp_marks Tryz.func151 rfl trivial ?_ rfl;simp only[Tryz.ntmps151,Zbf,Z8,Zam,Nat.reduceAdd,Nat.reduceSub,Zcc,Zcd,Zc1,Zci,Zan,Zay]
 gi_wp2
 exact⟨_,results_tmp rfl _ _ _,_,rfl,rfl,Ext.refl _⟩
theorem Xa5 {w:World} {S:Nat->Prop} {p:Nat} {half dn:Int} {z:List Ev} (h:Qpm w S p half dn (Qik (z.filter wpB))) (hm:∀ e∈z,X0 e=true) (hz:z.length<1000) (now:Int) (hnow:0<=now/\now<=1099511627776) (n:Int) (hn:0<=n/\n<=9223372036854775807) :
 Cal Tryz.prog 151 [Pj p,Vj now,Vj n] w fun r w'=>∃ A c,r = .slice A ((Qgk (Qg1 (Qik (z.filter wpB)) half now)).take n.toNat).length c/\Sl Qi3 2 w' A ((Qgk (Qg1 (Qik (z.filter wpB)) half now)).take n.toNat)/\Ext w w':=by
 obtain⟨k1,k2,k3⟩:=Qrb hm
 by_cases h1:1<=n
 . refine(Xdt w S p half dn _ h now hnow n ⟨h1,hn.2⟩ k3 k1 Om).mono ?_;rintro _ w' ⟨A,c,rfl,hs,_,hx⟩;exact⟨A,c,rfl,hs,hx⟩
 . obtain rfl:n=0:=Om;refine(Xa4 w p now 0 (Int.le_refl _)).mono ?_;rintro _ w' ⟨rfl,hx⟩;refine⟨none,0,?_,?_,hx⟩
   . rw[show (0:Int).toNat=0 from rfl,List.take_zero];rfl
   . rw[show (0:Int).toNat=0 from rfl,List.take_zero];exact Sl.nil
end Go.Proofs.YtpdonaienhociaaGreatDoor
namespace Go.Proofs.YtpdonaienhociaaGreatDoor
open Go.Se Go.RowKit Go.Sort
theorem Qsc (x:It):∀ u∈itC x,u.oneCell'=true:=by simp[itC,Value.oneCell']
def Qm6 (c:Cfg) (z:List Ev) (person:Bj) (now limit:Int) (k:Nat) (w:World) (r:Value) (w':World):Prop:=∃ A cp,r = .slice A ((Qev c z person now k).take limit.toNat).length cp/\Own Qab 1 9 w.heap.size w' A cp ((Qev c z person now k).take limit.toNat)/\Ext w w'
set_option maxHeartbeats 1000000 in
theorem Qv0 {w:World} {T:Nat->Prop} {p:Nat} {c:Cfg} {z:List Ev} {v:Value} (h:WQ w T p c z v) (hok:Qm7 c z) (person:Bj) (now limit:Int) (hnow:0<=now/\now<=1099511627776) (hl:0<=limit/\limit<=9223372036854775807) :
 Cal Tryz.prog 87 [Pj p,.string person,Vj now,Vj limit] w fun r w'=>Qm6 c z person now limit 0 w r w':=by
 have hlen:=hok.len;refine Fi Tryz.func87 rfl _ rfl rfl (Hh ?_);refine(Qj1 h).mono ?_;rintro _ w1 ⟨pd,S,rfl,hct,hx1⟩;rw[(Qc0 c.width z).1] at hct;refine Hh ?_;refine(Xa5 hct h.may hlen now hnow limit hl).mono ?_;rintro _ w2 ⟨A,cp,rfl,hs,hx2⟩;have hF:(Qev c z person now 0).take limit.toNat=((Qgk (Qg1 (Qik (z.filter wpB)) (Xd c.half) now)).take limit.toNat).map (fun x:Ct=>x.1):=(by rw[List.map_take];unfold Qev;rw[if_pos rfl,(Qc0 c.width z).1]);have hQl:((Qgk (Qg1 (Qik (z.filter wpB)) (Xd c.half) now)).take limit.toNat).length<1000000:=(by have h1:(Qgk (Qg1 (Qik (z.filter wpB)) (Xd c.half) now)).length<=(Qik (z.filter wpB)).length:=(by rw[(Qf3 _).length_eq];unfold Qg1;refine Zv (Zc _ _) ?_;rw[Zf,Zf];exact Zg _);have h2:=(Qrb h.may).2.1;rw[Zn];omega);unfold Qm6;rw[hF];clear hF;generalize (Qgk (Qg1 (Qik (z.filter wpB)) (Xd c.half) now)).take limit.toNat=Q at hs hQl ⊢;have hx02:=hx1.trans hx2;refine Gg ?_
 refine Qh Qb (fun(x:Nat×Option Addr×Nat×List Bj) w'=>x.1<=Q.length/\Ext w2 w'/\x.2.2.2=(Q.take x.1).map (fun x:Ct=>x.1)/\Own Qab 1 9 w2.heap.size w' x.2.1 x.2.2.1 x.2.2.2)
  (fun | (k,B,d,K) => [(9,.slice B K.length d),(16,.slice A Q.length cp),(17,Vj Q.length),(18,Vj (k:Nat))]) (fun x=>Q.length-x.1) (0,none,0,[]) ⟨Zu _,Ext.refl _,rfl,Own.nil⟩ Rr ?_
 rintro ⟨k,B,d,K⟩ wa ⟨hk,hxa,hK,hownK⟩;simp only at hk hK hownK;have hKl:K.length<=k:=by rw[hK,Zf,Zn];omega
 refine Gg ?_;constructor
 . intro hlt;have hlt:k<Q.length:=Su hlt;obtain⟨ax,hAx,hcx⟩:=(hs.ext hxa).get hlt;subst hAx;have htk:(Q.take (k+1)).map (fun x:Ct=>x.1)=K ++ [((fun x:Ct=>x.1)) Q[k]]:=by rw[Za hlt,Zp,hK];rfl
   generalize Q[k]=x at hcx htk;refine Gg ?_;refine⟨ax,Ix,Gg ?_⟩;refine⟨Qi3 x,⟨rfl,hcx⟩,Gg ?_⟩;intro bb wb hnb;refine Gg ?_;refine Qc Qb (e:=ty251) rfl hnb.At rfl rfl rfl (Qjf x) fun wc hbc hoc => ?_
   have hbc:At wc bb 251 (Qi3 x):=hbc;have hxc:Ext wa wc:=hoc.ext hnb.ext (by rw[hnb.block];exact Zg _);clear hoc hnb;have hfx:nth (Qi3 x) 0=some (.string (((fun x:Ct=>x.1)) x)):=rfl;generalize hfn:((fun x:Ct=>x.1)) x=tx at hfx htk;refine Gg ?_;refine⟨.string tx,hbc.one hfx,Gg ?_⟩;intro be we hne;refine Gg ?_;refine Qq X7 (l:=K) (news := [tx]) rfl ((hownK.ext hxc).ext hne.ext) rfl (X7.new1 (x:=tx) hne) (by simp;omega) ((hxa.trans hxc).trans hne.ext).size fun Af cf wf hownf hgf hAf => ?_
   have hxf:=Qu ((hxa.trans hxc).trans hne.ext) hgf (Xq ((hownK.ext hxc).ext hne.ext));generalize K ++ [tx]=K2 at hownf htk ⊢;refine Gg ?_;refine⟨_,wrap_succ Om,Gg ?_⟩;exact⟨(k+1,Af,cf,K2),Sj,⟨Sj,hxf,htk.symm,hownf⟩,Rr⟩
 intro hge;have hge:Q.length<=k:=Su hge;rw[Zb hge] at hK;rw[<- hK];refine Gg ?_;exact⟨B,d,rfl,hownK.base hx02.size,hx02.trans hxa⟩
theorem Xg0:Tryz.prog.underlying 252=some (.slice 256):=by kernel_rfl
theorem Qun (x:List Ri) (A:Option Addr) (c:Nat) (w:World) (hs:Sl riC 3 w A x) (hl:x.length<1000000) :
 Cal Tryz.prog 218 [.slice A x.length c] w fun r w'=>∃ A' c',r = .slice A' x.length c'/\Own riC 3 256 w.heap.size w' A' c' x/\Ext w w':=by
 refine Fi Tryz.func218 rfl _ rfl rfl (Hh ?_);refine⟨_,X9 Xg0 A _ _ _ _,Hh ?_⟩;constructor
 . intro h;obtain rfl:A=none:=Su h
   have hx:x = []:=by
    cases x with
    | nil=>rfl
    | cons e x=>obtain⟨a,ha,_⟩:=hs 0 e rfl;cases ha
   subst hx;refine Hh ?_;exact⟨none,0,rfl,Own.nil,Ext.refl _⟩
 . intro h;refine Hh ?_;intro b1 w1 hn1;refine Hh ?_;have o1:=Xde.made (base:=w.heap.size) hn1 (Zg _);refine Qq Xde (l := []) (news:=x) rfl o1 rfl (hs.ext hn1.ext) (by simp;omega) hn1.ext.size fun A2 c2 w2 hown2 hg2 hA2 => ?_
   have hx2:=Qu hn1.ext hg2 (Xq o1);rw[Zan] at hown2 ⊢;refine Hh ?_;exact⟨A2,c2,rfl,hown2,hx2⟩
set_option maxHeartbeats 1000000 in
theorem Q9w (w:World) (S:Nat->Prop) (p:Nat) (width n:Int) (s:Qal) (h:Qm5 w S p width n s) (hw:1<=width/\width<=1099511627776) (ok:Xd9 s 10000000) (hsum:∀ key lo hi,paS s key lo hi<=10000000) (span now floor lim:Int) (hs:1<=span/\span<=1099511627776) (hd:span.tmod width=0) (hn:0<=now/\now<=1099511627776) (hlim:0<=lim/\lim<=9223372036854775807) (Q:List RiS)
 (hQ:Q=Qhl (ltOf Qii) (Qmx Qrj (Qce s ((now-now.tmod width-2*span)/width) ((now-now.tmod width-span)/width) ((now-now.tmod width)/width) floor (Qcv s ((now-now.tmod width-span)/width) ((now-now.tmod width)/width))))) :
 Cal Tryz.prog 152 [Pj p,Vj span,Vj now,Vj floor,Vj lim] w fun r w'=>∃ A c,r = .slice A ((Q.map (·.1)).take lim.toNat).length c/\Own riC 3 256 w.heap.size w' A c ((Q.map (·.1)).take lim.toNat)/\Q.length<1000000/\Ext w w':=by
 have hkl:=Qn9 s ((now-now.tmod width-span)/width) ((now-now.tmod width)/width);have hlen:=ok.len;refine Fi Tryz.func152 rfl _ rfl rfl (Hh ?_);refine(Qlx w S p width n s h hw ok hsum span now floor hs hd hn).mono ?_;rintro _ w1 ⟨A,c,F,rfl,hp,hsF,hsl,hcap,hx1⟩;have hFQ:F=Q:=(Xid hp hsF).trans hQ.symm
 have hFl:F.length<1000000:=by
  have h1:=hp.length_eq;have h2:∀ K,(Qce s ((now-now.tmod width-2*span)/width) ((now-now.tmod width-span)/width) ((now-now.tmod width)/width) floor K).length<=K.length:=fun K=>(by unfold Qce;refine Zv (Zc _ _) ?_;rw[Zf];exact Zg _)
  have h3:=h2 (Qcv s ((now-now.tmod width-span)/width) ((now-now.tmod width)/width));rw[Zf] at h1;omega
 clear hp hsF hQ hkl;subst hFQ;obtain⟨T,hT⟩:∃ T,T=(F.map fun x:RiS=>x.1).take lim.toNat:=⟨_,rfl⟩;have hTl:min (max lim 0) (F.length:Int)=(T.length:Int):=by rw[hT,Zn,Zf];omega
 have hTl2:T.length<=F.length:=by rw[hT,Zn,Zf];omega
 have hsk:=Qf0 (Qy6 hsl lim.toNat) 0 c (by rw[<- hT];omega);rw[List.drop_zero,<- hT] at hsk;refine Hh ?_;rw[hTl];refine⟨⟨Om,Om,Om,Om⟩,Hh ?_⟩;refine(Qun T _ _ w1 hsk Om).mono ?_;rintro _ w2 ⟨A2,c2,rfl,hown2,hx2⟩;refine Hh ?_;rw[<- hT];exact⟨A2,c2,rfl,hown2.base hx1.size,hFl,hx1.trans hx2⟩
set_option maxHeartbeats 1000000 in
theorem Q4l {w:World} {T:Nat->Prop} {p:Nat} {c:Cfg} {z:List Ev} {v:Value} (h:WQ w T p c z v) (hok:Qm7 c z) (person:Bj) (now limit:Int) (hnow:0<=now/\now<=1099511627776) (hl:0<=limit/\limit<=9223372036854775807) :
 Cal Tryz.prog 88 [Pj p,.string person,Vj now,Vj limit] w fun r w'=>Qm6 c z person now limit 1 w r w':=by
 have hlen:=hok.len;obtain⟨c1,c2,c3,c4,c5,c6,c7⟩:=Xed hok.cfg;have hwid:=Q7j c2;have ok:=Xh7 c.width h.may (Zal hlen (by decide));have hle:=Xh6 c.width h.may (Zal hlen (by decide));obtain⟨Q0,hQ0⟩:∃ Q0,Q0=Xib c z now:=⟨_,rfl⟩;have hQe:=hQ0;unfold Xib Xic Qis at hQ0;rw[(Qc0 c.width z).2.1] at hQ0;have hF:(Qev c z person now 1).take limit.toNat=((Q0.map (·.1)).take limit.toNat).map (fun x:Ri=>x.1):=(by rw[<- List.map_take,Zy,hQe];unfold Qev;rw[if_neg (by decide),if_pos rfl,List.map_take];rfl);refine Fi Tryz.func88 rfl _ rfl rfl (Hh ?_);refine(Qbc h).mono ?_;rintro _ w1 ⟨rfl,hx1⟩;refine Hh ?_;intro b2 w2 hn2;refine Hh ?_;refine Qc Qb (e:=ty25) rfl hn2.At rfl rfl rfl (by simp[Qg,Xec,Qrp,Value.oneCell']) fun w3 h3 ho3 => ?_
 have e2:=hn2.block;have hx3:Ext w w3:=ho3.ext (hx1.trans hn2.ext) (by have:=hx1.size;omega);have h3:At w3 b2 25 (Qrp c):=h3;clear ho3;refine Gg ?_;refine Dr .ext [0,2,3,4,5,6,7,10,1,8,9] [] (Hh ?_);refine⟨_,h3.one rfl,Gg ?_⟩;refine⟨_,h3.one rfl,Gg ?_⟩;replace hx3:=hx3.drew;refine(Qov (h.ext hx3)).mono ?_;rintro _ w4 ⟨pp,S,rfl,hpa,hx4⟩;rw[(Qc0 c.width z).2.1] at hpa;refine⟨hx4,Gg ?_⟩;refine(Q9w w4 S pp (Xd c.width) _ _ hpa Om ok hle c.span now c.floor limit c3 (by rw[hwid];exact c4) hnow hl Q0 hQ0).mono ?_;rintro _ w5 ⟨A,cp,rfl,hown5,hQ0l,hx5⟩;refine⟨hx5,Gg ?_⟩;have hQl:((Q0.map (·.1)).take limit.toNat).length<1000000:=by rw[Zn,Zf];omega
 unfold Qm6;rw[hF];clear hF hQ0 hQe;have hs:=hown5.sl Qyu;generalize (Q0.map (·.1)).take limit.toNat=Q at hs hQl ⊢;have hx05:=hx3.trans (hx4.trans hx5);refine Gg ?_
 refine Qh Qb (fun(x:Nat×Option Addr×Nat×List Bj) w'=>x.1<=Q.length/\Ext w5 w'/\x.2.2.2=(Q.take x.1).map (fun x:Ri=>x.1)/\Own Qab 1 9 w5.heap.size w' x.2.1 x.2.2.1 x.2.2.2)
  (fun | (k,B,d,K) => [(10,.slice B K.length d),(23,.slice A Q.length cp),(24,Vj Q.length),(25,Vj (k:Nat))]) (fun x=>Q.length-x.1) (0,none,0,[]) ⟨Zu _,Ext.refl _,rfl,Own.nil⟩ Rr ?_
 rintro ⟨k,B,d,K⟩ wa ⟨hk,hxa,hK,hownK⟩;simp only at hk hK hownK;have hKl:K.length<=k:=by rw[hK,Zf,Zn];omega
 refine Gg ?_;constructor
 . intro hlt;have hlt:k<Q.length:=Su hlt;obtain⟨ax,hAx,hcx⟩:=(hs.ext hxa).get hlt;subst hAx;have htk:(Q.take (k+1)).map (fun x:Ri=>x.1)=K ++ [((fun x:Ri=>x.1)) Q[k]]:=by rw[Za hlt,Zp,hK];rfl
   generalize Q[k]=x at hcx htk;refine Gg ?_;refine⟨ax,Ix,Gg ?_⟩;refine⟨riC x,⟨rfl,hcx⟩,Gg ?_⟩;intro bb wb hnb;refine Gg ?_;refine Qc Qb (e:=ty256) rfl hnb.At rfl rfl rfl (Qs8 x) fun wc hbc hoc => ?_
   have hbc:At wc bb 256 (riC x):=hbc;have hxc:Ext wa wc:=hoc.ext hnb.ext (by rw[hnb.block];exact Zg _);clear hoc hnb;have hfx:nth (riC x) 0=some (.string (((fun x:Ri=>x.1)) x)):=rfl;generalize hfn:((fun x:Ri=>x.1)) x=tx at hfx htk;refine Gg ?_;refine⟨.string tx,hbc.one hfx,Gg ?_⟩;intro be we hne;refine Gg ?_;refine Qq X7 (l:=K) (news := [tx]) rfl ((hownK.ext hxc).ext hne.ext) rfl (X7.new1 (x:=tx) hne) (by simp;omega) ((hxa.trans hxc).trans hne.ext).size fun Af cf wf hownf hgf hAf => ?_
   have hxf:=Qu ((hxa.trans hxc).trans hne.ext) hgf (Xq ((hownK.ext hxc).ext hne.ext));generalize K ++ [tx]=K2 at hownf htk ⊢;refine Gg ?_;refine⟨_,wrap_succ Om,Gg ?_⟩;exact⟨(k+1,Af,cf,K2),Sj,⟨Sj,hxf,htk.symm,hownf⟩,Rr⟩
 intro hge;have hge:Q.length<=k:=Su hge;rw[Zb hge] at hK;rw[<- hK];refine Gg ?_;exact⟨B,d,rfl,hownK.base hx05.size,hx05.trans hxa⟩
