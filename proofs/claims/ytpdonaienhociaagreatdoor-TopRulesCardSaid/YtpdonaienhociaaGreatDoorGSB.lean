import Derived.Test.YtpdonaienhociaaGreatDoorGSA
import Derived.Test.YtpdonaienhociaaGreatDoorGZJ
set_option linter.all false
namespace Go.Proofs.YtpdonaienhociaaGreatDoor
open Go.Se Go.RowKit Go.Sort
theorem Xgw:Tryz.prog.underlying 50=some (.slice 68):=by kernel_rfl
theorem Qgz:Ql9 Tryz.prog 50 68 chC 4 56:=⟨by kernel_rfl,⟨_,ty68_ok,rfl,rfl⟩,by68,by decide,by decide,Qge,Qrq⟩
instance:Inhabited Ch:=⟨⟨⟨#[]⟩,⟨#[]⟩,⟨#[]⟩,0⟩⟩
theorem Qxl (x:List Ch) (A:Option Addr) (c:Nat) (w:World) (hs:Sl chC 4 w A x) (hl:x.length<1000000) :
 Cal Tryz.prog 128 [.slice A x.length c] w fun r w'=>∃ A' c',r = .slice A' x.length c'/\Own chC 4 68 w.heap.size w' A' c' x/\Ext w w':=by
 refine Fi Tryz.func128 rfl _ rfl rfl (Hh ?_);refine⟨_,X9 Xgw A _ _ _ _,Hh ?_⟩;constructor
 . intro h;obtain rfl:A=none:=Su h
   have hx:x = []:=by
    cases x with
    | nil=>rfl
    | cons e x=>obtain⟨a,ha,_⟩:=hs 0 e rfl;cases ha
   subst hx;refine Hh ?_;exact⟨none,0,rfl,Own.nil,Ext.refl _⟩
 . intro h;refine Hh ?_;intro b1 w1 hn1;refine Hh ?_;have o1:=Qgz.made (base:=w.heap.size) hn1 (Zg _);refine Qq Qgz (l := []) (news:=x) rfl o1 rfl (hs.ext hn1.ext) (by simp;omega) hn1.ext.size fun A2 c2 w2 hown2 hg2 hA2 => ?_
   have hx2:=Qu hn1.ext hg2 (Xq o1);rw[Zan] at hown2 ⊢;refine Hh ?_;exact⟨A2,c2,rfl,hown2,hx2⟩
theorem Q2a (a b:Ch) (w:World):Cal Tryz.prog 130 [.agg (chC a).toArray,.agg (chC b).toArray] w fun r w'=>r = Vj (Qig a b)/\Gr w w':=by
 refine Fi Tryz.func130 rfl _ rfl rfl (Hh ?_);intro b1 w1 hn1;refine Hh ?_;intro b2 w2 hn2;have h1:At w2 b1 _ (chC a):=hn1.At.ext hn2.ext;have h2:At w2 b2 _ (chC b):=hn2.At;have hx:=(Qae hn1).trans ((Qae hn2).trans (Gr.drew w2));refine Hh ?_;refine Dr .ext [0,1,2,3,5,6,7,8,10,11,12,13,15,16,17,18,4,9,14] [19,20,21,22] (Hh ?_);replace h1:At w2.drew b1 _ _:=h1;replace h2:At w2.drew b2 _ _:=h2;generalize w2.drew=w3 at h1 h2 hx ⊢;refine⟨_,h2.one rfl,Hh ?_⟩;refine⟨_,h1.one rfl,Hh ?_⟩;refine⟨_,h1.one rfl,Hh ?_⟩;refine⟨_,h2.one rfl,Hh ?_⟩;refine⟨_,h1.one rfl,Hh ?_⟩;refine⟨_,h2.one rfl,Hh ?_⟩;refine⟨_,h1.one rfl,Hh ?_⟩;refine⟨_,h2.one rfl,Hh ?_⟩;refine(Qfn _ _ _).mono ?_;rintro _ _ ⟨rfl,rfl⟩;refine⟨Ext.refl _,Hh ?_⟩;refine(Qac _ _ _).mono ?_;rintro _ _ ⟨rfl,rfl⟩;refine⟨Ext.refl _,Hh ?_⟩;refine(Qac _ _ _).mono ?_;rintro _ _ ⟨rfl,rfl⟩;refine⟨Ext.refl _,Hh ?_⟩;refine(Qac _ _ _).mono ?_;rintro _ _ ⟨rfl,rfl⟩;refine Hh ?_;intro b6 w6 hn6;refine Hh ?_;refine(Qen [Qcy b.score a.score,Qch a.item b.item,Qch a.maker b.maker,Qch a.tags b.tags] _ _ _ (Qak (enc:=Qfu) X4 hn6) (by simp)).mono ?_;rintro _ _ ⟨rfl,rfl⟩;refine Hh ?_;exact⟨rfl,hx.trans (Qae hn6)⟩
theorem Qy7 (l:List Ch) (A:Option Addr) (c base:Nat) (w:World) (hown:Own chC 4 68 base w A c l) (hl:l.length<1000000) :
 Cal Tryz.prog 129 [.slice A l.length c,.func (.func 130) #[] #[]] w fun r w'=>r = .tuple #[]/\Sl chC 4 w' A (Qhl (ltOf Qig) l)/\∀ w0,Ext w0 w->w0.heap.size<=base->Ext w0 w':=by
 have:=Qf7 Tryz.sortChoice (by decide) Tryz.isAgg68 Tryz.sizeOf68 Qge Qrq Qig Qrr.swo ⟨_,Tryz.func129,rfl,rfl⟩ (enters_of Tryz.func130 Kr rfl) l A c base w hown hl (fun x y w' _=>Q2a x y w') (cb := #[]);refine this.mono ?_;rintro _ w' ⟨rfl,F,hp,hs,hsl,hx⟩;have:F=Qhl (ltOf Qig) l:=Qti Qrr.swo hp hs fun x _ y _ h k=>Xbz h k
 subst this;exact⟨rfl,hsl,hx⟩
section
variable {κ:Type} [DecidableEq κ]
theorem Qp5 (L:List κ) (k:κ):(Qe (L.map fun x=>(x,true)) k).getD false=decide (k∈L):=by
 induction L with
 | nil=>rfl
 | cons x L ih =>
   simp only[Zm,Qe]
   by_cases h:k=x
   . subst h;simp
   . rw[if_neg h,ih];simp[h]
theorem Qub (L:List κ) (k:κ) (h:k∉L):Xc (L.map fun x=>(x,true)) k true=(L ++ [k]).map fun x=>(x,true):=by
 induction L with
 | nil=>rfl
 | cons x L ih =>
   rw[Zr,not_or] at h;simp only[Zm,Xc,Zay];rw[if_neg h.1,ih h.2]
end
theorem Xd1:Tryz.prog.underlying 90=some (.map 9 4):=by kernel_rfl
set_option maxHeartbeats 2000000 in
theorem Q89 (l:List Ch) (A:Option Addr) (c:Nat) (w:World) (hs:Sl chC 4 w A l) (hl:l.length<1000000) :
 Cal Tryz.prog 76 [.slice A l.length c] w fun r w'=>∃ A' c',r = .slice A' (Qow l).length c'/\Own chC 4 68 w.heap.size w' A' c' (Qow l)/\Ext w w':=by
 refine Fi Tryz.func76 rfl _ rfl rfl (Hh ?_);refine(Qxl l A c w hs hl).mono ?_;rintro _ w1 ⟨A1,c1,rfl,hown1,hx1⟩;refine Gg ?_;refine(Qy7 l A1 c1 w.heap.size w1 hown1 hl).mono ?_;rintro _ w2 ⟨rfl,hs2,hf2⟩;have hx2:=hf2 w hx1 (Zg _);have hFl:l.length=(Qhl (ltOf Qig) l).length:=(Qb6 _ _).length_eq.symm;clear hown1 hf2 hx1 hs;unfold Qow;generalize Qhl (ltOf Qig) l=F at hs2 hFl ⊢;rw[hFl] at hl ⊢;refine Gg ?_;intro b3 w3 hn3;refine Gg ?_;have hm3:MapAt w3 b3 Value.string (Xj Value.bool (([]:List Bj).map fun x=>(x,true))):=MapAt.new hn3;have e3:=hn3.block;have z2:=hx2.size
 refine Qh Qb (fun(q:Nat×Option Addr×Nat×List Ch) w'=>q.1<=F.length/\Ext w w'/\q.2.2.2=(F.take q.1).foldl Qgq []/\MapAt w' b3 Value.string (Xj Value.bool ((q.2.2.2.map (·.item)).map fun x=>(x,true)))/\Own chC 4 68 w3.heap.size w' q.2.1 q.2.2.1 q.2.2.2/\Sl chC 4 w' A1 F)
  (fun | (k,B,d,R) => [(4,.map (some b3)),(5,.slice B R.length d),(13,.slice A1 F.length c1),(14,Vj F.length),(15,Vj (k:Nat))]) (fun q=>F.length-q.1) (0,none,0,[]) ⟨Zu _,hx2.trans hn3.ext,rfl,hm3,Own.nil,hs2.ext hn3.ext⟩ Rr ?_
 have z3:=hn3.size
 have hA1:∀ a,A1=some a->a.block<w2.heap.size\/F = []:=fun a ha=>by
  cases hF:F with
  | nil=>exact .inr rfl
  | cons y F =>
    rw[hF] at hs2;obtain⟨b,hb,hcb⟩:=hs2.get (k:=0) (by simp);rw[ha] at hb;cases hb;have:=cell_lt (Qs hcb);rw[add_block] at this;exact .inl this
 clear hm3 hn3 hs2 hx2;rintro ⟨k,B,d,R⟩ w4 ⟨hk,hx4,hR,hm4,hoR,hs4⟩;simp only at hk hR hm4 hoR;have hRl:R.length<=k:=(by have:=Xem [] (F.take k);rw[<- hR,Zn] at this;simp at this;omega);refine Gg ?_;constructor
 . intro hlt;have hlt:k<F.length:=Su hlt;obtain⟨a,rfl,hc⟩:=hs4.get hlt
   have hab:a.block<w2.heap.size:=by
    rcases hA1 a rfl with h | h
    . exact h
    . rw[h] at hlt;simp at hlt
   have htk:(F.take (k+1)).foldl Qgq []=Qgq R F[k]:=by rw[Za hlt,Zt,<- hR];rfl
   generalize F[k]=x at hc htk;refine Gg ?_;refine⟨a,Ix,Gg ?_⟩;refine⟨chC x,⟨rfl,hc⟩,Gg ?_⟩;intro b7 w5 hn5;refine Gg ?_;refine Qc Qb (e:=ty68) rfl hn5.At rfl rfl rfl (Qrq x) fun w6 h6 ho6 => ?_
   have h6:At w6 b7 68 (chC x):=h6;have hx46:Ext w4 w6:=ho6.ext hn5.ext (by rw[hn5.block];exact Zg _);have e5:=hn5.block;have l3:=hm4.lt;have lz:=hx4.size;replace hm4:=hm4.ext hx46;replace hoR:=hoR.ext hx46;replace hs4:=hs4.ext hx46;have hx6:=hx4.trans hx46;have z6:=hx46.size;clear ho6 hn5 hx46 hx4;refine Gg ?_;refine⟨.string x.item,h6.one rfl,Gg ?_⟩;have hlk:=Xz Xd1 (Qo Xb) (e:=ty4) ty4_ok (cl := .same) Qp hm4 x.item;rw[show ty4.zero = .bool false from rfl,Xo,Qp5] at hlk;refine⟨_,hlk,Gg ?_⟩;constructor
   . intro hq;have hq:x.item∉R.map (·.item):=Su hq;have hst:Qgq R x=R ++ [x]:=by unfold Qgq;rw[if_neg hq]
     rw[hst] at htk;refine Gg ?_;refine⟨.string x.item,h6.one rfl,Gg ?_⟩;refine Qx Xd1 (Qo Xb) hm4 x.item (.bool true) fun w7 hm7 ho7 => ?_
     rw[Xa,Qub _ _ hq] at hm7;have hx7:=ho7.ext hx6 Om;have h67:=ho7.at_ h6 Om;have hoR7:Own chC 4 68 w3.heap.size w7 B d R:=hoR.keep fun b hb=>ho7.block _ (by have:=(hoR.block hb).1;omega)
     have hs7:Sl chC 4 w7 (some a) F:=Qte hs4 fun b hb=>ho7.block _ (by cases hb;omega)
     have z7:=ho7.size;clear ho7 hm4 hoR hs4 h6 hx6 hlk;refine Gg ?_;refine⟨chC x,⟨rfl,h67.all⟩,Gg ?_⟩;intro b8 w8 hn8;refine Gg ?_;have z8:=hn8.size;refine Qq Qgz (l:=R) (news := [x]) rfl (hoR7.ext hn8.ext) rfl (Qgz.new1 (x:=x) hn8) (by simp;omega) (by have:=hn8.ext.size;omega) fun A9 c9 w9 hown9 hg9 hA9 => ?_
     have hr9:∀ i,B.map (·.block)=some i->w3.heap.size<=i:=Xq hoR7;have hx9:Ext w w9:=Qu (hx7.trans hn8.ext) hg9 fun i hi=>by have:=hr9 i hi;omega
     have hm9:=(hm7.ext hn8.ext).keep (hg9.block b3 Om fun e=>by have:=hr9 b3 e.symm;omega);have hs9:Sl chC 4 w9 (some a) F:=Qte (hs7.ext hn8.ext) fun b hb=>(by cases hb;exact hg9.block _ Om fun e=>by have:=hr9 _ e.symm;omega)
     generalize hR2:R ++ [x]=R2 at hown9 htk ⊢;have hm92:MapAt w9 b3 Value.string (Xj Value.bool ((R2.map (·.item)).map fun x=>(x,true))):=by rw[<- hR2,Zp];exact hm9
     clear hm9 hg9 hA9 hn8;refine Gg ?_;refine⟨_,wrap_succ Om,Gg ?_⟩;exact⟨(k+1,A9,c9,R2),Sj,⟨Sj,hx9,htk.symm,hm92,hown9,hs9⟩,Rr⟩
   . intro hq;have hq:x.item∈R.map (·.item):=Su hq;have hst:Qgq R x=R:=by unfold Qgq;rw[if_pos hq]
     rw[hst] at htk;refine Gg ?_;refine⟨_,wrap_succ Om,Gg ?_⟩;exact⟨(k+1,B,d,R),Sj,⟨Sj,hx6,htk.symm,hm4,hoR,hs4⟩,Rr⟩
 intro hge;have hge:F.length<=k:=Su hge;rw[Zb hge] at hR;refine Gg ?_;rw[<- hR];exact⟨B,d,rfl,hoR.base Om,hx4⟩
theorem Xgt:Tryz.prog.underlying 172=some (.map 174 3):=by kernel_rfl
theorem Q8l:Qtw Tryz.prog 174 mkV :=
 Qhw (encl:=mkC) Qb st174 (fun k=>rfl)
  (fun a b=>by
   show some (decide (a.1=b.1)&&(decide (a.2=b.2)&&true))=some (decide (a=b))
   rw[Zc7];congr 1
   by_cases h1:a.1=b.1 <;> by_cases h2:a.2=b.2 <;> simp[Prod.ext_iff,h1,h2])
  (fun k=>by obtain⟨b,s⟩:=k;cases b <;> simp[Instr.sameBits,mkC,Go.MapKept.bytes_beq])
theorem Q7c {w:World} {b1 b2 b3:Nat} {c:Caps} {T:List (Mk×Int)} (h1:At w b1 29 (Qnh c)) (h3:At w b3 172 [.map (some b2)]) (hm:MapAt w b2 mkV (Xj vi T)) (m:Mk) :
 Cal Tryz.prog 75 [mkV m,Pj b1,Pj b3] w fun r w'=>r = .bool (Qko c T m)/\Ext w w':=by
 refine Fi Tryz.func75 rfl _ rfl rfl (Hh ?_);intro b4 w1 hn1;have h4:At w1 b4 174 (mkC m):=hn1.At;have hx1:=hn1.ext;replace h1:=h1.ext hx1;replace h3:=h3.ext hx1;replace hm:=hm.ext hx1;have hlk:=Xz Xgt Q8l (e:=ty3) ty3_ok (cl := .same) Qp hm m;rw[show ty3.zero=vi 0 from rfl,Xo] at hlk;clear hn1;refine Gg ?_;refine⟨Vj c.maker,h1.one rfl,Gg ?_⟩;refine⟨.bool m.1,h4.one rfl,Gg ?_⟩;constructor
 . intro hb;refine Gg ?_;refine⟨Vj c.tag,h1.one rfl,Gg ?_⟩;refine⟨.map (some b2),fun _=>h3.one0,Gg ?_⟩;refine⟨mkC m,fun _=>⟨rfl,h4.all⟩,Gg ?_⟩;refine⟨_,fun _=>hlk,Gg ?_⟩;exact⟨by unfold Qko;rw[if_pos hb],hx1⟩
 . intro hb;refine Gg ?_;refine⟨.map (some b2),fun _=>h3.one0,Gg ?_⟩;refine⟨mkC m,fun _=>⟨rfl,h4.all⟩,Gg ?_⟩;refine⟨_,fun _=>hlk,Gg ?_⟩;exact⟨by unfold Qko;rw[if_neg (by rw[hb];simp)],hx1⟩
def Q7b (b1 b3:Nat):Value := .func (.func 75) #[] #[Pj b1,Pj b3]
theorem Qvb {w:World} {b1 b2 b3:Nat} {c:Caps} {T:List (Mk×Int)} (h1:At w b1 29 (Qnh c)) (h3:At w b3 172 [.map (some b2)]) (hm:MapAt w b2 mkV (Xj vi T)) (l:List Mk) (A:Option Addr) (cp:Nat) (hs:Sl mkC 2 w A l) (hl:l.length<1000000) :
 Cal Tryz.prog 133 [.slice A l.length cp,Q7b b1 b3] w fun r w'=>(∃ i:Int,r = Vj i/\(decide (0<=i)=l.any (Qko c T)))/\Ext w w':=by
 refine Fi Tryz.func133 rfl _ rfl rfl (Hh ?_);refine Qh Qb (fun(k:Nat) w'=>k<=l.length/\(l.take k).any (Qko c T)=false/\Ext w w') (fun k => [(0,.slice A l.length cp),(1,Q7b b1 b3),(7,Vj l.length),(8,Vj (k:Nat))]) (fun k=>l.length-k) 0 ⟨Zu _,by simp,Ext.refl _⟩ Rr ?_;rintro k w2 ⟨hk,hn,hx2⟩;refine Gg ?_;constructor
 . intro hlt;have hlt:k<l.length:=Su hlt;obtain⟨a,rfl,hc⟩:=(hs.ext hx2).get hlt;refine Gg ?_;refine⟨a,Ix,Gg ?_⟩;refine⟨mkC l[k],⟨rfl,hc⟩,Gg ?_⟩;refine(Q7c (h1.ext hx2) (h3.ext hx2) (hm.ext hx2) l[k]).mono ?_;rintro _ w3 ⟨rfl,hx3⟩;refine Gg ?_;constructor
   . intro he;have he:Qko c T l[k]=true:=Su he;refine Gg ?_;refine⟨⟨(k:Nat),rfl,?_⟩,hx2.trans hx3⟩;have:l.any (Qko c T)=true:=Zcb.2 ⟨l[k],Zx hlt,he⟩;rw[this];simp
   . intro he;have he:Qko c T l[k]=false:=Su he;refine Gg ?_;refine⟨_,wrap_succ Om,Gg ?_⟩;refine⟨k+1,Om,⟨Om,?_,hx2.trans hx3⟩,Rr⟩;rw[Za hlt,List.any_append,hn];simp[he]
 . intro hge;have hge:l.length<=k:=Su hge;rw[Zb hge] at hn;refine Gg ?_;refine⟨⟨-1,rfl,?_⟩,hx2⟩;rw[hn];rfl
theorem Qt7 {w:World} {b1 b2 b3:Nat} {c:Caps} {T:List (Mk×Int)} (h1:At w b1 29 (Qnh c)) (h3:At w b3 172 [.map (some b2)]) (hm:MapAt w b2 mkV (Xj vi T)) (l:List Mk) (A:Option Addr) (cp:Nat) (hs:Sl mkC 2 w A l) (hl:l.length<1000000) :
 Cal Tryz.prog 78 [.slice A l.length cp,Q7b b1 b3] w fun r w'=>r = .bool (l.any (Qko c T))/\Ext w w':=by
 refine Fi Tryz.func78 rfl _ rfl rfl (Hh ?_);refine(Qvb h1 h3 hm l A cp hs hl).mono ?_;rintro _ w2 ⟨⟨i,rfl,hi⟩,hx2⟩;refine Gg ?_;exact⟨by rw[hi],hx2⟩
theorem Xdp (ms:List Mk) (T:List (Mk×Int)) (m:Mk):(Qe T m).getD 0<=(Qe (ms.foldl Qgs T) m).getD 0/\(Qe (ms.foldl Qgs T) m).getD 0<=(Qe T m).getD 0+ms.length:=by
 induction ms generalizing T with
 | nil=>simp
 | cons x ms ih =>
   have h:=ih (Qgs T x)
   have h2:(Qe T m).getD 0<=(Qe (Qgs T x) m).getD 0/\(Qe (Qgs T x) m).getD 0<=(Qe T m).getD 0+1:=by
    unfold Qgs;rw[Xn]
    by_cases hm:m=x
    . rw[if_pos hm,hm];simp only[Zaj];omega
    . rw[if_neg hm];omega
   rw[Zap,Z8];omega
theorem Q8g (x:Ch) (h:x.tags.size<1000):(Qgp x).length<=1001:=by
 have h1:=Xeg (if x.maker≠⟨#[]⟩ then [((false,x.maker):Mk)] else []) (Qbs 44 x.tags);have h2:=Qqx x.tags;have h3:(if x.maker≠⟨#[]⟩ then [((false,x.maker):Mk)] else []).length<=1:=by split <;> simp
 unfold Qgp;omega
set_option maxHeartbeats 4000000 in
theorem Qvl (c:Caps) (l:List Ch) (A:Option Addr) (cp:Nat) (w:World) (hg:Gl w) (hs:Sl chC 4 w A l) (hl:l.length<1000) (ht:∀ x∈l,x.tags.size<1000) :
 Cal Tryz.prog 30 [.slice A l.length cp,.agg (Qnh c).toArray] w fun r w'=>∃ A' c',r = .slice A' (Qf1 c l).length c'/\Own chC 4 68 w.heap.size w' A' c' (Qf1 c l)/\Ext w w':=by
 refine Fi Tryz.func30 rfl _ rfl rfl (Hh ?_);intro b1 w1 hn1;have h1:At w1 b1 29 (Qnh c):=hn1.At;have e1:=hn1.block;have s1:=hn1.size;refine Gg ?_;intro b2 w2 hn2;have hm2:MapAt w2 b2 mkV (Xj vi ([]:List (Mk×Int))):=MapAt.new hn2;have e2:=hn2.block;have s2:=hn2.size;replace h1:=h1.ext hn2.ext;have hx2:=hn1.ext.trans hn2.ext;refine Gg ?_;intro b3 w3 hn3;have e3:=hn3.block;have s3:=hn3.size;refine Gg ?_;refine Qc Qb (e:=ty172) rfl hn3.At rfl rfl rfl Oj fun w4 h3 ho4 => ?_
 have h3:At w4 b3 172 [.map (some b2)]:=h3;have hx24:Ext w2 w4:=ho4.ext hn3.ext Om;have s4:=ho4.size;replace h1:=h1.ext hx24;replace hm2:=hm2.ext hx24;have hx4:=hx2.trans hx24;clear hn1 hn2 hn3 ho4 hx24 hx2;refine Gg ?_;refine(Q89 l A cp w4 (hs.ext hx4) Om).mono ?_;rintro _ w5 ⟨A5,c5,rfl,hown5,hx5⟩;have hRl:=Q1l l;have hRm:∀ x∈Qow l,x.tags.size<1000:=fun x hx=>ht x (Q1m hx)
 unfold Qf1;generalize Qow l=R at hown5 hRl hRm ⊢;have hsR:=hown5.sl Qge;have hA5:∀ a,A5=some a->w4.heap.size<=a.block/\a.block<w5.heap.size:=fun a ha=>hown5.block ha
 replace h1:=h1.ext hx5;replace h3:=h3.ext hx5;replace hm2:=hm2.ext hx5;replace hx4:=hx4.trans hx5;have s5:=hx5.size;clear hx5 hown5 hs ht;refine Gg ?_
 refine Qh Qb (fun(q:Nat×(Option Addr×Nat×List Ch)×List (Mk×Int)) w'=>q.1<=R.length/\Ext w w'/\(q.2.1.2.2,q.2.2)=(R.take q.1).foldl (Qdy c) ([],[])/\(∀ m,0<=(Qe q.2.2 m).getD 0/\(Qe q.2.2 m).getD 0<=(q.1:Int)*1001)/\At w' b1 29 (Qnh c)/\At w' b3 172 [.map (some b2)]/\MapAt w' b2 mkV (Xj vi q.2.2)/\Own chC 4 68 w5.heap.size w' q.2.1.1 q.2.1.2.1 q.2.1.2.2/\Sl chC 4 w' A5 R/\w5.heap.size<=w'.heap.size)
  (fun | (k,(B,d,S),_) => [(3,Pj b1),(5,Pj b3),(6,Q7b b1 b3),(7,.slice B S.length d),(16,.slice A5 R.length c5),(17,Vj R.length),(18,Vj (k:Nat))]) (fun q=>R.length-q.1) (0,(none,0,[]),[]) ⟨Zu _,hx4,rfl,fun m=>⟨by simp[Qe],by simp[Qe]⟩,h1,h3,hm2,Own.nil,hsR,Zg _⟩ Rr ?_
 clear h1 h3 hm2 hsR hx4;rintro ⟨k,⟨B,d,S⟩,T⟩ w6 ⟨hk,hx6,hST,hTb,h1,h3,hm,hoS,hsR,hz⟩;simp only at hk hST hTb hm hoS;refine Gg ?_;constructor
 . intro hlt;have hlt:k<R.length:=Su hlt;obtain⟨a,rfl,hc⟩:=hsR.get hlt;have htk:(R.take (k+1)).foldl (Qdy c) ([],[])=Qdy c (S,T) R[k]:=by rw[Za hlt,Zt,<- hST];rfl
   have hfull:R.foldl (Qdy c) ([],[])=(R.drop k).foldl (Qdy c) (S,T):=(by rw[hST,<- Zt,Zah]);have hxt:=hRm _ (Zx hlt);generalize R[k]=x at hc htk hxt;have hml:=Q8g x hxt;refine Gg ?_;refine⟨a,Ix,Gg ?_⟩;refine⟨chC x,⟨rfl,hc⟩,Gg ?_⟩;intro b9 w7 hn7;refine Gg ?_;refine Qc Qb (e:=ty68) rfl hn7.At rfl rfl rfl (Qrq x) fun w8 h9 ho8 => ?_
   have h9:At w8 b9 68 (chC x):=h9;have e7:=hn7.block;have hx68:Ext w6 w8:=ho8.ext hn7.ext (by rw[hn7.block];exact Zg _);have z8:=hx68.size;have l2:=hm.lt;clear ho8 hn7;refine Gg ?_;refine⟨Vj c.size,(h1.ext hx68).one rfl,Gg ?_⟩;constructor
   . intro hq;have hq:c.size<=(S.length:Int):=Su hq;refine Gg ?_;rw[hfull,Q95 hq];exact⟨B,d,rfl,(hoS.ext hx68).base Om,hx6.trans hx68⟩
   intro hq;have hq:¬ c.size<=(S.length:Int):=Su hq;refine Gg ?_;refine⟨chC x,⟨rfl,h9.all⟩,Gg ?_⟩;refine(Q30 x w8 (hg.ext (hx6.trans hx68)) hxt).mono ?_;rintro _ w9 ⟨A10,c10,rfl,hoM,hx9⟩;have hsM:=hoM.sl Qyn;have hA10:∀ a,A10=some a->w8.heap.size<=a.block:=fun a ha=>(hoM.block ha).1
   clear hoM;have hst:Qdy c (S,T) x=if(Qgp x).any (Qko c T)=true then(S,T) else(S ++ [x],(Qgp x).foldl Qgs T):=by unfold Qdy;rw[if_neg hq]
   have htkb:=Xdp (Qgp x) T;have htkb2:=fun i=>Xdp ((Qgp x).take i) T
   generalize Qgp x=M at hsM hst htkb htkb2 hml ⊢;have hx69:=hx68.trans hx9;replace h1:=h1.ext hx69;replace h3:=h3.ext hx69;replace hm:=hm.ext hx69;replace hoS:=hoS.ext hx69;replace hsR:=hsR.ext hx69;replace h9:=h9.ext hx9;replace hx6:=hx6.trans hx69;have z9:=hx69.size;clear hx68 hx9 hx69;refine Gg ?_;refine(Qt7 h1 h3 hm M A10 c10 hsM Om).mono ?_;rintro _ w10 ⟨rfl,hx10⟩;replace h1:=h1.ext hx10;replace h3:=h3.ext hx10;replace hm:=hm.ext hx10;replace hoS:=hoS.ext hx10;replace hsR:=hsR.ext hx10;replace hsM:=hsM.ext hx10;replace h9:=h9.ext hx10;replace hx6:=hx6.trans hx10;have z10:=hx10.size;clear hx10;refine Gg ?_;constructor
   . intro hany;have hany:M.any (Qko c T)=true:=Su hany;rw[hst,if_pos hany] at htk;refine Gg ?_;refine⟨_,wrap_succ Om,Gg ?_⟩;exact⟨(k+1,(B,d,S),T),Sj,⟨Sj,hx6,htk.symm,fun m=>⟨(hTb m).1,by have:=(hTb m).2;simp only;omega⟩,h1,h3,hm,hoS,hsR,Om⟩,Rr⟩
   intro hany;have hany:¬ M.any (Qko c T)=true:=Su hany;rw[hst,if_neg hany] at htk;refine Gg ?_
   refine Qh Qb (fun(q:Nat×List (Mk×Int)) w'=>q.1<=M.length/\q.2=(M.take q.1).foldl Qgs T/\Mod (fun i=>i=b2) w10 w'/\MapAt w' b2 mkV (Xj vi q.2))
    (fun | (i,_) => [(3,Pj b1),(5,Pj b3),(6,Q7b b1 b3),(7,.slice B S.length d),(9,Pj b9),(16,.slice (some a) R.length c5),(17,Vj R.length),(18,Vj (k:Nat)),(32,.slice A10 M.length c10),(33,Vj M.length),(34,Vj (i:Nat))]) (fun q=>M.length-q.1) (0,T) ⟨Zu _,rfl,Mod.refl _ _,hm⟩ Rr ?_
   rintro ⟨i,T2⟩ w11 ⟨hi,hT2,hM11,hm11⟩;simp only at hi hT2 hm11;have z11:=hM11.size;refine Gg ?_;constructor
   . intro hlt2;have hlt2:i<M.length:=Su hlt2;have hsM11:Sl mkC 2 w11 A10 M:=Q9p.stay hsM fun a ha hl=>hM11.block _ hl (by have:=hA10 a ha;omega)
     obtain⟨a2,hq2,hc2⟩:=hsM11.get hlt2;have htk2:(M.take (i+1)).foldl Qgs T=Qgs T2 M[i]:=by rw[Za hlt2,Zt,<- hT2];rfl
     have hTb2:=hTb M[i];have hTb3:=htkb2 i M[i];rw[<- hT2,Zn] at hTb3;generalize M[i]=m at hc2 htk2 hTb2 hTb3;refine Gg ?_;refine⟨a2,⟨hq2,Om,Om⟩,Gg ?_⟩;refine⟨mkC m,⟨rfl,hc2⟩,Gg ?_⟩;intro b12 w12 hn12;refine Gg ?_;refine Qc Qb (e:=ty174) rfl hn12.At rfl rfl rfl (by simp[Qg,mkC,Value.oneCell']) fun w13 h12 ho13 => ?_
     have h12:At w13 b12 174 (mkC m):=h12;have e12:=hn12.block;have hx13:Ext w11 w13:=ho13.ext hn12.ext (by rw[hn12.block];exact Zg _);have hM13:Mod (fun i=>i=b2) w10 w13:=hM11.trans (Mod.of_ext hx13);have hm13:=hm11.ext hx13;have h313:At w13 b3 172 [.map (some b2)]:=(hM13.block b3 h3.lt Om).trans h3;clear ho13 hn12;refine Gg ?_;refine Dr (Xiy b2 mkV m (Vj 0)) [0,1,2,3,4,5] [6] (Hh ?_);replace h12:At w13.drew b12 _ _:=h12;replace h313:At w13.drew b3 _ _:=h313;replace hm13:MapAt w13.drew b2 mkV (Xj vi T2):=hm13.keep rfl;have hMd:Mod (fun i=>i=b2) w10 w13.drew:=hM13.trans (Mod.of_ext (Ext.refl w13).drew);generalize w13.drew=w14 at h12 h313 hm13 hMd ⊢;refine⟨.map (some b2),Xh0 h313.one0 (by show b3≠b2;omega),Hh ?_⟩;refine⟨mkC m,⟨rfl,Xhz h12.all (by show b12≠b2;omega)⟩,Hh ?_⟩;refine⟨_,Qyi Xgt Q8l (e:=ty3) ty3_ok hm13,?_⟩;rw[show (Qe (Xj vi T2) m).getD ty3.zero=vi ((Qe T2 m).getD 0) from Xo vi _ _ 0];refine Hh ?_;refine⟨(Qe T2 m).getD 0+1,wrap_eq rfl ⟨Om,Om⟩,Hh ?_⟩;refine Qof Xgt Q8l (e:=ty3) ty3_ok hm13 m fun w15 s15 hm15 ho15 => ?_
     refine⟨⟨Qj ho15 rfl,fun L hL => ?_⟩,?_⟩
     . refine⟨_,hm15.at_,?_⟩;rw[Q9];have hLL:∀ k,Qe L k=Qe (Xj vi T2) k:=(by obtain⟨E1,c1,q1,q2⟩:=hL;obtain⟨E2,c2,q3,q4⟩:=hm13;have h1:=q1.block;rw[q3.block] at h1;have hE:strip E2=strip E1:=(by have h2:E2.map (mkE mkV)=E1.map (mkE mkV):=(by injection h1 with h1;injection h1 with h1 _;simpa using h1);exact Qgl Xf1 h2);intro k;rw[<- q2,<- q4,hE]);rw[hLL];rfl
     refine Hh ?_;refine Qog hm15 (vi ((Qe T2 m).getD 0+1)) fun w16 hm16 ho16 => ?_
     rw[Qdf,Xa] at hm16;refine Hh ?_;refine⟨_,wrap_succ Om,Gg ?_⟩;exact⟨(i+1,Qgs T2 m),Sj,⟨Sj,htk2.symm,hMd.trans ((Qj (S:=fun i=>i=b2) ho15 rfl).trans (Qj (S:=fun i=>i=b2) ho16 rfl)),hm16⟩,Rr⟩
   intro hge2;have hge2:M.length<=i:=Su hge2;rw[Zb hge2] at hT2;rw[<- hT2] at htk htkb;have h911:At w11 b9 68 (chC x):=(hM11.block b9 h9.lt Om).trans h9;have hoS11:Own chC 4 68 w5.heap.size w11 B d S:=hoS.keep fun b hb=>hM11.block _ (hoS.block hb).2 (by have:=(hoS.block hb).1;omega)
   have hsR11:Sl chC 4 w11 (some a) R:=Qgz.stay hsR fun b hb hl=>hM11.block _ hl (by have:=(hA5 b hb).1;omega)
   have hx11:Ext w w11:=Qdr hx6 (fun i hi=>by rw[hi];omega) hM11;have hSl:S.length<=k:=(by have h1:=(Q97 c (R.take k) ([],[]));obtain⟨q,hq1,hq2⟩:=h1;have h2:=congrArg Prod.fst hST;simp only at h2;rw[h2,hq1];have:=hq2.length_le;rw[Zn] at this;simp;omega);refine Gg ?_;refine⟨chC x,⟨rfl,h911.all⟩,Gg ?_⟩;intro b17 w17 hn17;refine Gg ?_;refine Qq Qgz (l:=S) (news := [x]) rfl (hoS11.ext hn17.ext) rfl (Qgz.new1 (x:=x) hn17) (by simp;omega) (by have:=hn17.ext.size;omega) fun A18 c18 w18 hown18 hg18 hA18 => ?_
   have hr18:∀ i,B.map (·.block)=some i->w5.heap.size<=i:=Xq hoS11;have hne18:∀ i,i<w5.heap.size->w18.heap[i]? = w11.heap[i]? := fun i hi=>(by have z17:=hn17.ext.size;rw[hg18.block i Om fun e=>by have:=hr18 i e.symm;omega];exact hn17.ext.block i Om)
   have hx18:Ext w w18:=Qu (hx11.trans hn17.ext) hg18 fun i hi=>by have:=hr18 i hi;omega
   have h118:At w18 b1 29 (Qnh c):=(hne18 b1 Om).trans ((hM11.block b1 h1.lt Om).trans h1);have h318:At w18 b3 172 [.map (some b2)]:=(hne18 b3 Om).trans ((hM11.block b3 h3.lt Om).trans h3);have hm18:=hm11.keep (hne18 b2 Om);have hsR18:Sl chC 4 w18 (some a) R:=Qa8 hsR11 fun b hb=>hne18 _ (hA5 b hb).2
   have z18:=hg18.size;have z17:=hn17.ext.size;generalize hS2:S ++ [x]=S2 at hown18 htk ⊢;clear hg18 hA18 hn17 hM11;refine Gg ?_;refine⟨_,wrap_succ Om,Gg ?_⟩;exact⟨(k+1,(A18,c18,S2),T2),Sj,⟨Sj,hx18,htk.symm,fun m=>⟨by have h1:=(hTb m).1;have h2:=(Xdp M T m).1;rw[<- hT2] at h2;simp only;omega,by have h1:=(hTb m).2;have h2:=(Xdp M T m).2;rw[<- hT2] at h2;simp only;omega⟩,h118,h318,hm18,hown18,hsR18,Om⟩,Rr⟩
 intro hge;have hge:R.length<=k:=Su hge;rw[Zb hge] at hST;refine Gg ?_;rw[<- hST];exact⟨B,d,rfl,hoS.base Om,hx6⟩
end Go.Proofs.YtpdonaienhociaaGreatDoor
namespace Go.Proofs.YtpdonaienhociaaGreatDoor
open Go.RowKit Go.Se Go.Sort Go.Shelf
theorem Q7o {α:Type} [Inhabited α] (val:α->Bj) {w:World} {g:Nat} {cur:Array Value} {e:TypeId} {l:List α} (hb:w.heap[g]? = some (.cells cur e (0,0))) (ht:cur.toList.take l.length=l.map fun x=>Value.string (val x)):Holds (fun x:α=>Value.string (val x)) w g 0 l.toArray:=by
 intro j hj;have hj':j<l.length:=Su hj;refine⟨?_,by simp[World.frozen?,hb]⟩;have h1:(cur.toList.take l.length)[j]? = (l.map fun x=>Value.string (val x))[j]? := by rw[ht]
 rw[Zby,if_pos hj',Zaq,Zd hj'] at h1;rw[getElem!_pos l.toArray j hj];simp only[World.cell?,hb,Zbg,List.getElem_toArray];simpa using h1
theorem Qj0 {α:Type} [Inhabited α] (val:α->Bj) (w:World) (blk off:Nat) (d:Array α) (k:Nat) (h:k≠blk):(putRow (fun x:α=>Value.string (val x)) w blk off d).heap[k]? = w.heap[k]? := by
 unfold putRow mapBlock;simp only[Zb7,if_neg (Ne.symm h)]
theorem Qhg {α:Type} [Inhabited α] (val:α->Bj) (w:World) (blk off:Nat) (d:Array α):(putRow (fun x:α=>Value.string (val x)) w blk off d).heap.size=w.heap.size:=by
 unfold putRow mapBlock;simp only[Zcf]
section
variable {P:Program} {ρ:Ren}
theorem Q40 {α:Type} [Inhabited α] (val:α->Bj) (S:SlLaysF.n6 P ρ) (S0:SlLaysF0.n6 P ρ) (cmp:α->α->Int) (hswo:Go.Sort.SWO (ltOf cmp)) (hok:Qtv P (ρ.f 6)) {f:Nat} {cb:Array Value} (eg:∀ args w,(callFunc f args).run P w = .ok (.enter f args) w)
 (l:List α) (A:Option Addr) (c base:Nat) (w:World) (hown:Own (fun x=>Qab (val x)) 1 (ρ.t 24) base w A c l) (hl:l.length<1000000)
 (hcl:∀ x y w',(∀ k,(∀ a,A=some a->k≠a.block)->k<w.heap.size->w'.heap[k]? = w.heap[k]?)->Cal P f ([.string (val x),.string (val y)]++cb.toList) w' fun r w''=>r = Vj (cmp x y)/\Gr w' w'') :
 Cal P (ρ.f 6) [.slice A l.length c,.func (.func f) #[] cb] w fun r w'=>r = .tuple #[]/\∃ F,F.Perm l/\Srt (ltOf cmp) F/\Sl (fun x=>Qab (val x)) 1 w' A F/\∀ w0,Ext w0 w->w0.heap.size<=base->Ext w0 w':=by
 by_cases h0:l = []
 . subst h0;refine Qa9 hok (AnyF.slices_SortFunc_none S0 A c _ w) ?_;rintro w' rfl;exact⟨rfl,[],Za1 _,Srt.nil,Sl.nil,fun w0 h _=>h⟩
 . have hsl:=hown.sl (fun x=>Qw (val x));have hpos:0<l.length:=Zac.2 h0;rcases hown.2 with⟨_,h1⟩ | ⟨g,cap,cur,hv,hb,hg,hc1,hc2,hc3,hc4⟩
   . omega
   injection hv with hA _ hcc;subst hA;subst hcc;have hH:Holds (fun x:α=>Value.string (val x)) w g 0 l.toArray:=Q7o val hg (by rw[Zbh] at hc4;rw[hc4,show (fun x:α=>Qab (val x))=fun x => [Value.string (val x)] from rfl,Qe8]);have hbl:g<w.heap.size:=lt_of_block hg
   have hcmp:CmpLays1 P f cb (fun x:α=>Value.string (val x)) cmp g 0 l.toArray.size w:=by
    intro m os dk _ x y
    have hkeep:∀ k,(∀ a,some (⟨g,0,none⟩:Addr)=some a->k≠a.block)->k<w.heap.size->(sortWorld (fun x:α=>Value.string (val x)) w g 0 m dk os).heap[k]? = w.heap[k]? := by
     intro k hk hk2;have hkg:k≠g:=hk ⟨g,0,none⟩ rfl;have h1:(putRow (fun x:α=>Value.string (val x)) (Go.Sort.ahead w m) g 0 dk).heap[k]? = (Go.Sort.ahead w m).heap[k]? := Qj0 val _ _ _ _ _ hkg;have hsz1:w.heap.size=(putRow (fun x:α=>Value.string (val x)) (Go.Sort.ahead w m) g 0 dk).heap.size:=by rw[Qhg val];rfl
     have h2:=(Qdz (putRow (fun x:α=>Value.string (val x)) (Go.Sort.ahead w m) g 0 dk) os).block k Om;unfold sortWorld;rw[h2,h1];rfl
    have:=(hcl x y (sortWorld (fun x:α=>Value.string (val x)) w g 0 m dk os) hkeep).2;have e1:([Value.string (val x),Value.string (val y)]++cb.toList).toArray = #[Value.string (val x),Value.string (val y)]++cb:=by simp
    rw[e1] at this;refine this.mono ?_;rintro e w' ⟨v,he,hv,q,os',hw⟩;exact⟨by rw[he,hv],q,os',hw⟩
   have hcall:=Any.slices_SortFunc S (fun x:α=>Value.string (val x)) (fun _=>rfl) cmp hswo f cb g 0 c l.toArray w eg hcmp hH hbl (by simp;omega);rw[Zbf] at hcall;refine Qa9 hok hcall ?_;rintro w' ⟨d',n,os,hp,hs,rfl⟩;have hsz:d'.size=l.length:=Su hp.1
   have hperm:d'.toList.Perm l:=by
    have:=hp.2.2;have e1:d'.extract 0 l.length=d':=by rw[<- hsz];exact Array.extract_size
    have e2:l.toArray.extract 0 l.length=l.toArray:=by simp
    rw[e1,e2] at this;simpa using this
   have hH2:Holds (fun x:α=>Value.string (val x)) (sortWorld (fun x:α=>Value.string (val x)) w g 0 n d' os) g 0 d':=(by unfold sortWorld;refine holds_grow _ _ _ _ _ _ ?_ (holds_putRow _ _ _ _ l.toArray d' (holds_ahead _ _ _ _ _ _ hH) (Su hsz));rw[Qhg val];exact hbl);refine⟨rfl,d'.toList,hperm,?_,?_,?_⟩
   . unfold Srt;rw[Zau];intro i j hi hj hij;have hi':i<d'.size:=Su hi;have hj':j<d'.size:=Su hj;have:=hs i j (Zu _) hij Om;rw[getElem!_pos d' i hi',getElem!_pos d' j hj'] at this;simpa using this
   . intro i x hi;have hlt:i<d'.size:=by have:=(Zi.1 hi).1;simpa using this
     refine⟨_,rfl,fun j v hj => ?_⟩;have hj0:j=0:=(by have:=(Zi.1 hj).1;have e:((fun x=>Qab (val x)) x).length=1:=Qw _;omega);subst hj0;have:=(hH2 i hlt).1;have hx:d'[i]! = x:=by rw[getElem!_pos d' i hlt];have:=Zi.1 hi;simpa using this.2
     rw[hx,Zbg] at this;rw[Xf,Qey,Zbh,Zc2,this];simpa [Qab] using hj
   . intro w0 h0 hb0
     have hx1:Ext w0 (putRow (fun x:α=>Value.string (val x)) (Go.Sort.ahead w n) g 0 d'):=by
      refine⟨h0.os,h0.tape,h0.output,?_,fun k hk => ?_⟩
      . rw[Qhg val];exact h0.size
      . rw[Qj0 val _ _ _ _ _ Om];exact h0.block k hk
     exact hx1.trans (Qdz _ os)
end
end Go.Proofs.YtpdonaienhociaaGreatDoor
namespace Go.Proofs.YtpdonaienhociaaGreatDoor
open Go.Se Go.RowKit Go.Sort
set_option maxHeartbeats 2000000 in
theorem Qpg (l:List Bj) (A:Option Addr) (c:Nat) (w:World) (hs:SlT w A l) (hl:l.length<1000000) :
 Cal Tryz.prog 80 [.slice A l.length c] w fun r w'=>∃ A' c',r = .slice A' (Qca l).length c'/\Own Qab 1 9 w.heap.size w' A' c' (Qca l)/\Ext w w':=by
 refine Fi Tryz.func80 rfl _ rfl rfl (Hh ?_);intro b3 w3 hn3;refine Gg ?_;have hm3:MapAt w3 b3 Value.string (Xj Value.bool (([]:List Bj).map fun x=>(x,true))):=MapAt.new hn3;have e3:=hn3.block;have s3:=hn3.size
 refine Qh Qb (fun(q:Nat×Option Addr×Nat×List Bj) w'=>q.1<=l.length/\Ext w w'/\w3.heap.size<=w'.heap.size/\q.2.2.2=(l.take q.1).foldl Qgt []/\MapAt w' b3 Value.string (Xj Value.bool (q.2.2.2.map fun x=>(x,true)))/\Own Qab 1 9 w3.heap.size w' q.2.1 q.2.2.1 q.2.2.2)
  (fun | (k,B,d,R) => [(3,.map (some b3)),(4,.slice B R.length d),(8,.slice A l.length c),(9,Vj l.length),(10,Vj (k:Nat))]) (fun q=>l.length-q.1) (0,none,0,[]) ⟨Zu _,hn3.ext,Zg _,rfl,hm3,Own.nil⟩ Rr ?_
 clear hm3 hn3;rintro ⟨k,B,d,R⟩ w4 ⟨hk,hx4,hz4,hR,hm4,hoR⟩;simp only at hk hR hm4 hoR;have hRl:R.length<=k:=(by have:=Xex [] (l.take k);rw[<- hR,Zn] at this;simp at this;omega);refine Gg ?_;constructor
 . intro hlt;have hlt:k<l.length:=Su hlt;obtain⟨a,hA,hc⟩:=(hs.ext hx4).get hlt;have htk:(l.take (k+1)).foldl Qgt []=Qgt R l[k]:=by rw[Za hlt,Zt,<- hR];rfl
   generalize l[k]=x at hc htk;refine Gg ?_;refine⟨a,⟨hA,Om,Om⟩,Gg ?_⟩;refine⟨.string x,Qs hc,Gg ?_⟩;have hlk:=Xz Xd1 (Qo Xb) (e:=ty4) ty4_ok (cl := .same) Qp hm4 x;rw[show ty4.zero = .bool false from rfl,Xo,Qp5] at hlk;refine⟨_,hlk,Gg ?_⟩;constructor
   . intro hq;have hq:x∉R:=Su hq;have hst:Qgt R x=R ++ [x]:=by unfold Qgt;rw[if_neg hq]
     rw[hst] at htk;refine Gg ?_;refine Qx Xd1 (Qo Xb) hm4 x (.bool true) fun w7 hm7 ho7 => ?_
     rw[Xa,Qub _ _ hq] at hm7;have hx7:=ho7.ext hx4 Om;have hoR7:Own Qab 1 9 w3.heap.size w7 B d R:=hoR.keep fun b hb=>ho7.block _ (by have:=(hoR.block hb).1;omega)
     have z7:=ho7.size;clear ho7 hm4 hoR hlk;refine Gg ?_;intro b8 w8 hn8;refine Gg ?_;have z8:=hn8.ext.size;refine Qq X7 (l:=R) (news := [x]) rfl (hoR7.ext hn8.ext) rfl (X7.new1 (x:=x) hn8) (by simp;omega) Om fun A9 c9 w9 hown9 hg9 hA9 => ?_
     have hr9:∀ i,B.map (·.block)=some i->w3.heap.size<=i:=Xq hoR7;have hx9:Ext w w9:=Qu (hx7.trans hn8.ext) hg9 fun i hi=>by have:=hr9 i hi;omega
     have hm9:=(hm7.ext hn8.ext).keep (hg9.block b3 Om fun e=>by have:=hr9 b3 e.symm;omega);have z9:=hg9.size;generalize hR2:R ++ [x]=R2 at hown9 htk hm9 ⊢;clear hg9 hA9 hn8;refine Gg ?_;refine⟨_,wrap_succ Om,Gg ?_⟩;exact⟨(k+1,A9,c9,R2),Sj,⟨Sj,hx9,Om,htk.symm,hm9,hown9⟩,Rr⟩
   . intro hq;have hq:x∈R:=Su hq;have hst:Qgt R x=R:=by unfold Qgt;rw[if_pos hq]
     rw[hst] at htk;refine Gg ?_;refine⟨_,wrap_succ Om,Gg ?_⟩;exact⟨(k+1,B,d,R),Sj,⟨Sj,hx4,hz4,htk.symm,hm4,hoR⟩,Rr⟩
 intro hge;have hge:l.length<=k:=Su hge;rw[Zb hge] at hR;refine Gg ?_;unfold Qca;rw[<- hR];exact⟨B,d,rfl,hoR.base Om,hx4⟩
theorem Qn4 (a:Int) (w:World):Cal Tryz.prog 197 [.int .u64 a] w fun r w'=>r = .bool false/\w'=w:=by
 refine Fi Tryz.func197 rfl _ rfl rfl (Hh ?_);exact⟨by simp,rfl⟩
theorem Qnn (a b:Int) (w:World):Cal Tryz.prog 137 [.int .u64 a,.int .u64 b] w fun r w'=>r = Vj (Qcy a b)/\w'=w:=by
 refine Fi Tryz.func137 rfl _ rfl rfl (Hh ?_);refine(Qn4 a w).mono ?_;rintro _ _ ⟨rfl,rfl⟩;refine Hh ?_;refine(Qn4 b _).mono ?_;rintro _ _ ⟨rfl,rfl⟩;refine Hh ?_;constructor
 . intro h;cases h
 intro _;refine Hh ?_;constructor
 . intro h;cases h
 intro _;refine Hh ?_;constructor
 . intro h;have h:a<b:=Su h;refine Hh ?_;exact⟨by unfold Qcy;rw[if_pos h],rfl⟩
 intro h;have h:¬ a<b:=Su h;refine Hh ?_;constructor
 . intro k;have k:b<a:=Su k;refine Hh ?_;exact⟨by unfold Qcy;rw[if_neg h,if_pos k],rfl⟩
 intro k;have k:¬ b<a:=Su k;refine Hh ?_;exact⟨by unfold Qcy;rw[if_neg h,if_neg k],rfl⟩
theorem Q61 (seed:Int) (a b:Bj) (bs:Nat) (w:World) (hb:At w bs 30 [.int .u64 seed]) (ha:a.size<1000000/\b.size<1000000):Cal Tryz.prog 136 [.string a,.string b,Pj bs] w fun r w'=>r = Vj (Q2s (Qmc seed) a b)/\Gr w w':=by
 refine Fi Tryz.func136 rfl _ rfl rfl (Hh ?_);refine Qiy (ι:=Unit) (fun _ => [(5,Vj (Q2s (Qmc seed) a b))]) (fun _ w'=>Gr w w') ?_ ?_
 . refine Qfr .ext (Pl.seq [0,1,4,5,9,10] (Pl.two 2 (Pl.seq [] (Pl.two 3 (Pl.seq [6,7,8,11,12,13,14] Pl.done) 6 (Pl.seq [3,7,8,11,12,13,14] Pl.done))) 6 (Pl.seq [2,3,7,8,11,12,13,14] Pl.done))) (by intro h;cases h) Qb mixed Kr (Hh ?_);have hx:Gr w w.drew:=Gr.drew w;have hb1:At w.drew bs _ _:=hb;generalize w.drew=w1 at hx hb1 ⊢;refine⟨.int .u64 seed,hb1.one0,Hh ?_⟩;refine⟨.int .u64 seed,hb1.one0,Hh ?_⟩;refine⟨?_,?_⟩
   . intro b2 w2 hnw2;refine⟨hnw2.ext,Hh ?_⟩;refine⟨?_,?_⟩
     . refine(Qei seed [a] (some ⟨b2,0,none⟩) 1 w2 (Qak (enc:=Qab) Qw hnw2) (by simp) (fun s hs=>by rw[Zk.1 hs];omega)).mono ?_;rintro _ w2 ⟨rfl,rfl⟩;refine⟨Ext.refl _,Hh ?_⟩;intro b3 w3 hnw3;refine⟨hnw3.ext,Hh ?_⟩;refine(Qei seed [b] (some ⟨b3,0,none⟩) 1 w3 (Qak (enc:=Qab) Qw hnw3) (by simp) (fun s hs=>by rw[Zk.1 hs];omega)).mono ?_;rintro _ w3 ⟨rfl,rfl⟩;refine⟨Ext.refl _,Hh ?_⟩;refine(Qnn _ _ _).mono ?_;rintro _ w3 ⟨rfl,rfl⟩;refine⟨Ext.refl _,Hh ?_⟩;refine(Qac _ _ _).mono ?_;rintro _ w3 ⟨rfl,rfl⟩;refine⟨Ext.refl _,Hh ?_⟩;intro b9 w9 hnw9;refine⟨hnw9.ext,Hh ?_⟩;refine(Qen [Qcy (Qmc seed a) (Qmc seed b),Qch a b] _ _ _ (Qak (enc:=Qfu) X4 hnw9) (by simp)).mono ?_;rintro _ w9 ⟨rfl,rfl⟩;refine⟨Ext.refl _,Hh ?_⟩;exact⟨(),((hx.trans (Qae hnw2)).trans (Qae hnw3)).trans (Qae hnw9),Rr⟩
     . intro b3 w3 hnw3;refine⟨hnw3.ext,Hh ?_⟩;refine(Qei seed [a] (some ⟨b2,0,none⟩) 1 w3 ((Qak (enc:=Qab) Qw hnw2).ext hnw3.ext) (by simp) (fun s hs=>by rw[Zk.1 hs];omega)).mono ?_;rintro _ w3 ⟨rfl,rfl⟩;refine⟨Ext.refl _,Hh ?_⟩;refine(Qei seed [b] (some ⟨b3,0,none⟩) 1 w3 (Qak (enc:=Qab) Qw hnw3) (by simp) (fun s hs=>by rw[Zk.1 hs];omega)).mono ?_;rintro _ w3 ⟨rfl,rfl⟩;refine⟨Ext.refl _,Hh ?_⟩;refine(Qnn _ _ _).mono ?_;rintro _ w3 ⟨rfl,rfl⟩;refine⟨Ext.refl _,Hh ?_⟩;refine(Qac _ _ _).mono ?_;rintro _ w3 ⟨rfl,rfl⟩;refine⟨Ext.refl _,Hh ?_⟩;intro b9 w9 hnw9;refine⟨hnw9.ext,Hh ?_⟩;refine(Qen [Qcy (Qmc seed a) (Qmc seed b),Qch a b] _ _ _ (Qak (enc:=Qfu) X4 hnw9) (by simp)).mono ?_;rintro _ w9 ⟨rfl,rfl⟩;refine⟨Ext.refl _,Hh ?_⟩;exact⟨(),((hx.trans (Qae hnw2)).trans (Qae hnw3)).trans (Qae hnw9),Rr⟩
   . intro b3 w2 hnw2;refine⟨hnw2.ext,Hh ?_⟩;intro b2 w3 hnw3;refine⟨hnw3.ext,Hh ?_⟩;refine(Qei seed [a] (some ⟨b2,0,none⟩) 1 w3 (Qak (enc:=Qab) Qw hnw3) (by simp) (fun s hs=>by rw[Zk.1 hs];omega)).mono ?_;rintro _ w3 ⟨rfl,rfl⟩;refine⟨Ext.refl _,Hh ?_⟩;refine(Qei seed [b] (some ⟨b3,0,none⟩) 1 w3 ((Qak (enc:=Qab) Qw hnw2).ext hnw3.ext) (by simp) (fun s hs=>by rw[Zk.1 hs];omega)).mono ?_;rintro _ w3 ⟨rfl,rfl⟩;refine⟨Ext.refl _,Hh ?_⟩;refine(Qnn _ _ _).mono ?_;rintro _ w3 ⟨rfl,rfl⟩;refine⟨Ext.refl _,Hh ?_⟩;refine(Qac _ _ _).mono ?_;rintro _ w3 ⟨rfl,rfl⟩;refine⟨Ext.refl _,Hh ?_⟩;intro b9 w9 hnw9;refine⟨hnw9.ext,Hh ?_⟩;refine(Qen [Qcy (Qmc seed a) (Qmc seed b),Qch a b] _ _ _ (Qak (enc:=Qfu) X4 hnw9) (by simp)).mono ?_;rintro _ w9 ⟨rfl,rfl⟩;refine⟨Ext.refl _,Hh ?_⟩;exact⟨(),((hx.trans (Qae hnw2)).trans (Qae hnw3)).trans (Qae hnw9),Rr⟩
 rintro _ w5 hx5;refine Hh ?_;exact⟨rfl,hx5⟩
abbrev TxS:={ x:Bj // x.size<1000000 }
instance:Inhabited TxS:=⟨⟨⟨#[]⟩,by decide⟩⟩
theorem Xb1 (f:Bj->Int):WC (fun a b:TxS=>Q2s f a.1 b.1):=⟨fun a b=>(Qrs f).anti a.1 b.1,fun h1 h2=>(Qrs f).le h1 h2⟩
set_option maxHeartbeats 2000000 in
theorem Qy0 (seed:Int) (l:List Bj) (A:Option Addr) (c:Nat) (w:World) (hs:SlT w A l) (hl:l.length<1000000) (hz:∀ x∈l,x.size<1000000) :
 Cal Tryz.prog 82 [.int .u64 seed,Vj 9223372036854775807,.slice A l.length c] w fun r w'=>∃ A' c',r = .slice A' (Qhh seed l).length c'/\Own Qab 1 9 w.heap.size w' A' c' (Qhh seed l)/\Ext w w':=by
 refine Fi Tryz.func82 rfl _ rfl rfl (Hh ?_);intro b1 w1 hn1;have h1:At w1 b1 30 [.int .u64 seed]:=hn1.At;have e1:=hn1.block;have s1:=hn1.size;refine Gg ?_;refine(Qpg l A c w1 (hs.ext hn1.ext) hl).mono ?_;rintro _ w2 ⟨A2,c2,rfl,hown2,hx2⟩;have hul:=Qga l;have huz:∀ x∈Qca l,x.size<1000000:=fun x hx=>hz x (Q5n hx)
 unfold Qhh;have hUv:=Qmy (P:=fun x:Bj=>x.size<1000000) huz;generalize Qca l=U at hown2 hul huz hUv ⊢;generalize Qmx (fun x:Bj=>x.size<1000000) U=V at hUv;have hVl:V.length=U.length:=by rw[<- hUv,Zf]
 have hownV:Own (fun x:TxS=>Qab x.1) 1 9 w1.heap.size w2 A2 c2 V:=Qyq (by rw[hUv];exact hown2);rw[<- hVl];replace h1:=h1.ext hx2;have hx:=hn1.ext.trans hx2;have l1:=h1.lt;clear hn1 hx2 hz hown2;refine Gg ?_;refine(Q40 (fun x:TxS=>x.1) Tryz.sortTxt { Tryz.sortTxt with } (fun a b:TxS=>Q2s (Qmc seed) a.1 b.1) (Xb1 _).swo ⟨_,Tryz.func135,rfl,rfl⟩ (enters_of Tryz.func136 Kr rfl) V A2 c2 w1.heap.size w2 hownV Om (cb := #[Pj b1]) fun x y w' hkw => ?_).mono ?_
 . exact Q61 seed x.1 y.1 b1 w' ((hkw b1 (fun a ha=>by have:=(hownV.block ha).1;omega) l1).trans h1) ⟨x.2,y.2⟩
 rintro _ w3 ⟨rfl,F,hp,hF,hsF,hf⟩
 have hFs:F.map (·.1)=Qhl (ltOf (Q2s (Qmc seed))) U:=by
  refine Qti (Qrs _).swo ?_ ?_ fun x _ y _ h k=>Xff h k
  . rw[<- hUv];exact hp.map _
  . unfold Srt at hF ⊢;rw[Z7];exact hF
 have hsT:SlT w3 A2 (F.map (·.1)):=Q96 hsF;have hx3:=hf w hx Om;have hFl:V.length=(F.map (·.1)).length:=by rw[Zf,hp.length_eq]
 rw[hFs] at hsT hFl;generalize Qhl (ltOf (Q2s (Qmc seed))) U=G at hsT hFl ⊢;have hle:=hownV.le;rw[hFl] at hle ⊢;have hGl:G.length<1000000:=Om;have hmin:min (max (9223372036854775807:Int) 0) ((G.length:Nat):Int)=(G.length:Nat):=Om;clear hF hsF hf hp hFs hownV hUv huz;refine Gg ?_;rw[hmin];refine⟨⟨Om,Om,Om,Om⟩,Gg ?_⟩;refine(Qnk G _ _ w3 (Qf0 hsT 0 c2 hle) hGl).mono ?_;rintro _ w4 ⟨A4,c4,rfl,hown4,hx4⟩;refine Gg ?_;exact⟨A4,c4,rfl,hown4.base hx3.size,hx3.trans hx4⟩
structure Ql7 (w:World) (b2:Nat) (F:List Bj) (A1:Option Addr) (c1:Nat):Prop where
 head:At w b2 36 [.slice A1 F.length c1]
 sl:SlT w A1 F
theorem Ql7.ext {w w':World} {b2:Nat} {F:List Bj} {A1:Option Addr} {c1:Nat} (h:Ql7 w b2 F A1 c1) (hx:Ext w w'):Ql7 w' b2 F A1 c1:=⟨h.head.ext hx,h.sl.ext hx⟩
theorem Ql7.only {w w':World} {b2 b:Nat} {F:List Bj} {A1:Option Addr} {c1:Nat} (h:Ql7 w b2 F A1 c1) (ho:Only w w' b) (h1:b≠b2) (h2:∀ x,A1=some x->b≠x.block):Ql7 w' b2 F A1 c1 :=
 ⟨ho.at_ h.head (fun e=>h1 e.symm),ho.sl h.sl fun a ha e=>h2 a ha e.symm⟩
def Qi4 (F:List Bj) (x:Bj):Bool:=decide (x∈F)
def Xh2 (b2:Nat):Value := .func (.func 83) #[] #[Pj b2]
theorem Qvp {w:World} {b2:Nat} {F:List Bj} {A1:Option Addr} {c1:Nat} (x:Bj) (h:Ql7 w b2 F A1 c1) (hF:F.length<1000000) :
 Cal Tryz.prog 83 [.string x,Pj b2] w fun r w'=>r = .bool (Qi4 F x)/\Ext w w':=by
 refine Fi Tryz.func83 rfl _ rfl rfl (Hh ?_);refine⟨.slice A1 F.length c1,h.head.one0,Gg ?_⟩;refine(Qay F A1 c1 x w h.sl Om).mono ?_;rintro _ w' ⟨rfl,rfl⟩;refine Gg ?_;exact⟨rfl,Ext.refl _⟩
theorem Qrd (b2:Nat) (F:List Bj) (A1:Option Addr) (c1:Nat) (l:List Bj) (A:Option Addr) (c:Nat) (w:World) (hp:Ql7 w b2 F A1 c1) (hF:F.length<1000000) (hs:SlT w A l) (hl:l.length<1000000) :
 Cal Tryz.prog 134 [.slice A l.length c,Xh2 b2] w fun r w'=>r = Vj (match l.findIdx? (Qi4 F) with | some i=>(i:Int) | none => -1)/\Ext w w':=by
 refine Fi Tryz.func134 rfl _ rfl rfl (Hh ?_)
 refine Qh Qb (fun(k:Nat) w'=>k<=l.length/\Ext w w'/\∀ x∈l.take k,Qi4 F x=false)
  (fun k => [(0,.slice A l.length c),(1,Xh2 b2),(7,Vj l.length),(8,Vj (k:Nat))]) (fun k=>l.length-k) 0 ⟨Zu _,Ext.refl _,by simp⟩ Rr ?_
 rintro k w1 ⟨hk,hx,hall⟩;refine Hh ?_;constructor
 . intro hlt;have hlt:k<l.length:=Su hlt;obtain⟨a,rfl,hc⟩:=(hs.ext hx).get hlt;have htk:=Qc3 l k hlt;have hfi:Qi4 F l[k]=true->l.findIdx? (Qi4 F)=some k:=fun h=>(by rw[Zab];refine⟨hlt,h,fun j hj => ?_⟩;have hjl:j<l.length:=Om;have:=hall l[j] (by rw[Zb4];exact⟨j,Om,rfl⟩);simp[this])
   generalize l[k]=x at hc htk hfi;refine Gg ?_;refine⟨a,Ix,Gg ?_⟩;refine⟨.string x,Qs hc,Gg ?_⟩;refine(Qvp x (hp.ext hx) hF).mono ?_;rintro _ w2 ⟨rfl,hx2⟩;refine Gg ?_;constructor
   . intro h;rw[hfi h];refine Gg ?_;exact⟨rfl,hx.trans hx2⟩
   . intro h;have h:Qi4 F x=false:=h;refine Gg ?_;refine⟨_,wrap_succ Om,Gg ?_⟩;refine⟨k+1,Om,⟨Om,hx.trans hx2,fun y hy => ?_⟩,Rr⟩;rw[htk] at hy;rcases Zj.1 hy with hy | hy
     . exact hall y hy
     . rw[Zk] at hy;rw[hy];exact h
 . intro hge;have hge:l.length<=k:=Su hge;rw[Zb hge] at hall;have:l.findIdx? (Qi4 F)=none:=(by rw[Zav];exact hall);rw[this];refine Gg ?_;exact⟨rfl,hx⟩
set_option maxHeartbeats 2000000 in
theorem Q5k (b2:Nat) (F:List Bj) (A1:Option Addr) (c1:Nat) (l:List Bj) (a:Addr) (c base:Nat) (w:World) (hp:Ql7 w b2 F A1 c1) (hF:F.length<1000000) (hown:Own Qab 1 9 base w (some a) c l) (hbp:a.block≠b2) (hbA:∀ x,A1=some x->a.block≠x.block) (hl:l.length<1000000) (hany:l.any (Qi4 F)=true) :
 Cal Tryz.prog 81 [.slice (some a) l.length c,Xh2 b2] w fun r w'=>r = .slice (some a) (l.filter fun e => !Qi4 F e).length c/\Own Qab 1 9 base w' (some a) c (l.filter fun e => !Qi4 F e)/\Mod (fun k=>k=a.block) w w':=by
 have hle:=hown.le
 obtain⟨i0,hi0,hq0,hb0⟩:∃ i,∃ (h:i<l.length),Qi4 F l[i]=true/\∀ j (hj:j<i),Qi4 F (l[j]'Om)=false:=by
  cases h:l.findIdx? (Qi4 F) with
  | none =>
    rw[Zav] at h;obtain⟨x,hx,hq⟩:=Zcb.1 hany;rw[h x hx] at hq;cases hq
  | some i =>
    rw[Zab] at h;obtain⟨h1,h2,h3⟩:=h;exact⟨i,h1,h2,fun j hj=>by simpa using h3 j hj⟩
 have hfi:l.findIdx? (Qi4 F)=some i0:=(by rw[Zab];exact⟨hi0,hq0,fun j hj=>by simp[hb0 j hj]⟩);have hf0:(l.take (i0+1)).filter (fun e => !Qi4 F e)=l.take i0:=(by rw[Qci _ l i0 hi0,hq0];simp only[Zcs,Zag,if_false,Zw];rw[Zcj];intro x hx;rw[Zb4] at hx;obtain⟨j,hj,rfl⟩:=hx;rw[hb0 j Om];rfl);refine Fi Tryz.func81 rfl _ rfl rfl (Hh ?_);refine(Qrd b2 F A1 c1 l (some a) c w hp hF (hown.sl Qw) hl).mono ?_;rintro _ w1 ⟨rfl,hx1⟩;rw[hfi];replace hown:=hown.ext hx1;have hp1:=hp.ext hx1;refine Gg ?_;constructor
 . intro h;simp at h
 intro _;refine Gg ?_;refine⟨_,wrap_succ Om,Gg ?_⟩
 refine Qh Qb (fun(x:Nat×Nat×List Bj) w'=>x.1<=l.length/\x.2.1<x.1/\x.2.2.length=l.length/\x.2.2.take x.2.1=(l.take x.1).filter (fun e => !Qi4 F e)/\x.2.2.drop x.1=l.drop x.1/\Own Qab 1 9 base w' (some a) c x.2.2/\Ql7 w' b2 F A1 c1/\Mod (fun k=>k=a.block) w w')
  (fun | (j,i,U) => [(0,.slice (some a) l.length c),(1,Xh2 b2),(5,Vj (i:Nat)),(6,Vj (j:Nat))]) (fun x=>l.length-x.1) (i0+1,i0,l) ⟨Sj,Sj,rfl,hf0.symm,rfl,hown,hp1,Mod.of_ext hx1⟩ Rr ?_
 clear hp1 hown hx1 hf0 hfi hb0 hq0;rintro ⟨j,i,U⟩ w2 ⟨hj,hij,hUl,hUt,hUd,hown,hp2,hM2⟩;simp only at hj hij hUl hUt hUd hown;refine Hh ?_;constructor
 . intro hlt;have hlt:j<l.length:=Su hlt;have hjU:j<U.length:=Om;obtain⟨a',ha',hc⟩:=(hown.sl Qw).get hjU;injection ha' with ha';subst ha'
   have hUj:U[j]=l[j]:=by
    have h1:(U.drop j)[0]? = (l.drop j)[0]? := by rw[hUd]
    rw[Zbz,Zbz,Zc2,Zd hjU,Zd hlt] at h1;exact Zbe h1
   have hst:=Qci (fun e => !Qi4 F e) l j hlt;rw[<- hUt] at hst;have hUd2:U.drop (j+1)=l.drop (j+1):=by rw[<- List.drop_drop,<- List.drop_drop,hUd]
   rw[hUj] at hc;generalize l[j]=v at hc hst;refine Gg ?_;refine⟨a,Ix,Gg ?_⟩;refine⟨.string v,Qs hc,Gg ?_⟩;refine(Qvp v hp2 hF).mono ?_;rintro _ w5 ⟨rfl,hx25⟩;replace hown:=hown.ext hx25;replace hp2:=hp2.ext hx25;replace hM2:=hM2.trans (Mod.of_ext hx25);clear hx25;refine Gg ?_;constructor
   . intro hq;have hq:Qi4 F v=false:=Su hq;rw[hq] at hst;simp only[Zc3,if_true] at hst;refine Gg ?_;refine⟨a,Ix,Gg ?_⟩;refine Qpa Qb (e:=ty9) rfl rfl Qw Qtm (k:=i) Om v rfl hown fun w6 hown6 ho6 => ?_
     refine Gg ?_;refine⟨_,wrap_succ Om,Gg ?_⟩;refine⟨_,wrap_succ Om,Gg ?_⟩;refine⟨(j+1,i+1,U.set i v),Sj,⟨Sj,Sj,by simp only;rw[Zbq];exact hUl,?_,?_,hown6,hp2.only ho6 hbp hbA,hM2.trans (Qj ho6 rfl)⟩,Rr⟩
     . simp only;rw[hst,List.take_set,List.take_add_one,Zd (by omega:i<U.length)];rw[Zb6 _ _ (by rw[Zn];omega)];simp[Zn,Nat.min_eq_left (by omega:i<=U.length)]
     . simp only;rw[List.drop_set_of_lt Om];exact hUd2
   . intro hq;have hq:Qi4 F v=true:=Su hq;rw[hq] at hst;simp only[Zcs,Zag,if_false,Zw] at hst;refine Gg ?_;refine⟨_,wrap_succ Om,Gg ?_⟩;exact⟨(j+1,i,U),Sj,⟨Sj,Sj,hUl,hst.symm,hUd2,hown,hp2,hM2⟩,Rr⟩
 intro hge;have hge:l.length<=j:=Su hge;rw[Zb hge] at hUt;have hil:i<U.length:=Om;have hfl:(l.filter fun e => !Qi4 F e).length=i:=by rw[<- hUt,Zn];omega
 rw[hfl];have hsl:(if((c:Nat):Int).toNat=((i:Nat):Int).toNat then some a else(some a).map (·.add (((i:Nat):Int).toNat*1)))=some (a.add (i*1)):=(by rw[Za4,Za4,if_neg Om];rfl);refine Gg ?_;refine⟨⟨Om,Om,Om,Om⟩,Gg ?_⟩;rw[hsl];refine Quk Xez ty9_ok rfl (by simp[Qg,ty9,Value.oneCell']) Qw hil hown (by simp;omega) fun w6 hown6 ho6 => ?_
 rw[hUt] at hown6;refine Gg ?_;refine⟨⟨Om,Om,Om,Om⟩,Gg ?_⟩;refine⟨?_,hown6,hM2.trans (Qj ho6 rfl)⟩;have e0:a.add 0=a:=by unfold Addr.add;simp
 simp[e0]
theorem Qtq (b2:Nat) (F:List Bj) (A1:Option Addr) (c1:Nat) (l:List Bj) (A:Option Addr) (c base:Nat) (w:World) (hp:Ql7 w b2 F A1 c1) (hF:F.length<1000000) (hown:Own Qab 1 9 base w A c l) (hb2:b2<base) (hA1:∀ x,A1=some x->x.block<base) (hl:l.length<1000000) :
 Cal Tryz.prog 81 [.slice A l.length c,Xh2 b2] w fun r w'=>r = .slice A (l.filter fun e => !Qi4 F e).length c/\Own Qab 1 9 base w' A c (l.filter fun e => !Qi4 F e)/\(∀ k,(∀ a,A=some a->k≠a.block)->k<w.heap.size->w'.heap[k]? = w.heap[k]?)/\∀ w0,Ext w0 w->w0.heap.size<=base->Ext w0 w':=by
 by_cases hany:l.any (Qi4 F)=true
 . obtain⟨a,rfl⟩:∃ a,A=some a:=by
    cases A with
    | some a=>exact⟨a,rfl⟩
    | none =>
      cases l with
      | nil=>simp at hany
      | cons x l=>obtain⟨a,ha,_⟩:=(hown.sl Qw) 0 x rfl;cases ha
   have hab:=(hown.block rfl).1;refine(Q5k b2 F A1 c1 l a c base w hp hF hown Om (fun x hx=>by have:=hA1 x hx;omega) hl hany).mono ?_;rintro _ w' ⟨rfl,ho,hM⟩;exact⟨rfl,ho,fun k hk hk2=>hM.block k hk2 (hk a rfl),fun w0 hx hb=>Qdr hx (T:=fun k=>k=a.block) (fun k hk=>Om) hM⟩
 . have hany:l.any (Qi4 F)=false:=Su hany;have hf:(l.filter fun e => !Qi4 F e)=l:=(by rw[Zcj];intro x hx;have:=List.any_eq_false.1 hany x hx;simpa using this);have hfi:l.findIdx? (Qi4 F)=none:=(by rw[Zav];intro x hx;simpa using List.any_eq_false.1 hany x hx);rw[hf];refine Fi Tryz.func81 rfl _ rfl rfl (Hh ?_);refine(Qrd b2 F A1 c1 l A c w hp hF (hown.sl Qw) hl).mono ?_;rintro _ w1 ⟨rfl,hx1⟩;rw[hfi];refine Gg ?_;constructor
   . intro _;refine Gg ?_;exact⟨rfl,hown.ext hx1,fun k _ hk2=>hx1.block k hk2,fun w0 hx _=>hx.trans hx1⟩
   . intro h;exact absurd h (by decide)
theorem Q98 {w:World} {A:Option Addr} {x:Bj} {l:List Bj} (h:SlT w A (x :: l)) (c:Nat) (hc:(x :: l).length<=c):SlT w (if c=1 then A else A.map (·.add (1*1))) l:=by
 have:=Qf0 h 1 c hc;exact this
set_option maxHeartbeats 4000000 in
theorem Xcm (seed every:Int) (main other:List Bj) (A B:Option Addr) (c d:Nat) (w:World) (hev:every<=9223372036854775807) (hs:SlT w A main) (hl:main.length<1000000) (ht:SlT w B other) (hl2:other.length<1000000) (hz:∀ x∈other,x.size<1000000) :
 Cal Tryz.prog 32 [.int .u64 seed,.slice A main.length c,.slice B other.length d,Vj every] w fun r w'=>∃ A' c',r = .slice A' (Xg9 seed main other every).length c'/\Own Qab 1 9 w.heap.size w' A' c' (Xg9 seed main other every)/\Ext w w':=by
 refine Fi Tryz.func32 rfl _ rfl rfl (Hh ?_);refine(Qpg main A c w hs hl).mono ?_;rintro _ w1 ⟨A1,c1,rfl,hown1,hx1⟩;have hul:=Qga main;unfold Xg9;generalize Qca main=F at hown1 hul ⊢;have hc1:=hown1.le;have hA1:∀ a,A1=some a->w.heap.size<=a.block/\a.block<w1.heap.size:=fun a ha=>hown1.block ha
 have hs1:=hown1.sl Qw;clear hown1 hs;refine Gg ?_;intro b2 w2 hn2;refine Gg ?_;refine Qc Qb (e:=ty36) rfl hn2.At rfl rfl rfl Oj fun w3 h3 ho3 => ?_
 have h3:At w3 b2 36 [.slice A1 F.length c1]:=h3;have e2:=hn2.block;have hx13:Ext w1 w3:=ho3.ext hn2.ext (by rw[hn2.block];exact Zg _);have s3:=ho3.size;have s2:=hn2.size;have z1:=hx1.size;clear ho3 hn2;refine Gg ?_;refine(Qy0 seed other B d w3 (ht.ext (hx1.trans hx13)) hl2 hz).mono ?_;rintro _ w4 ⟨A4,c4,rfl,hown4,hx4⟩;have hDl:(Qhh seed other).length<1000000:=(by unfold Qhh;rw[(Qb6 _ _).length_eq];have:=Qga other;omega);generalize Qhh seed other=D0 at hown4 hDl ⊢;have hf4:Ql7 w4 b2 F A1 c1:=⟨h3.ext hx4,hs1.ext (hx13.trans hx4)⟩;have hx04:=hx1.trans (hx13.trans hx4);have z4:=hx4.size;clear ht hx4 hx13 hx1 hs1 h3;refine Gg ?_;refine(Qtq b2 F A1 c1 D0 A4 c4 w3.heap.size w4 hf4 Om hown4 Om (fun x hx=>by have:=(hA1 x hx).2;omega) hDl).mono ?_;rintro _ w5 ⟨rfl,hown5,hk5,hf5⟩;have hx5:=hf5 w hx04 Om;have hA4:∀ a,A4=some a->w3.heap.size<=a.block/\a.block<w5.heap.size:=fun a ha=>hown5.block ha
 have h5:At w5 b2 36 [.slice A1 F.length c1]:=(hk5 b2 (fun a ha=>by have:=(hA4 a ha).1;omega) Om).trans hf4.head;have hs5:SlT w5 A1 F:=Qa8 hf4.sl fun a ha=>hk5 _ (fun b hb=>by have:=(hA4 b hb).1;have:=(hA1 a ha).2;omega) (by have:=(hA1 a ha).2;omega)
 have hin:(fun s=>decide (s∉F))=fun e => !Qi4 F e:=by
  funext e;unfold Qi4
  by_cases h:e∈F <;> simp[h]
 rw[hin];have hD5l:(D0.filter fun e => !Qi4 F e).length<=D0.length:=Zc _ _;generalize (D0.filter fun e => !Qi4 F e)=D at hown5 hD5l ⊢;have hc4:=hown5.le;have hsD:=hown5.sl Qw;have z5:=h5.lt;have h15:∀ a,A1=some a->a.block<w5.heap.size/\a.block≠b2:=fun a ha=>by have:=(hA1 a ha).2;omega
 have h45:∀ a,A4=some a->a.block<w5.heap.size/\a.block≠b2:=fun a ha=>by have:=hA4 a ha;omega
 have hb2w:w.heap.size<=b2:=Om;clear hown5 hk5 hf5 hf4 hx04 hown4 hin hA1 hA4;refine Gg ?_;refine⟨.slice A1 F.length c1,h5.one0,Gg ?_⟩
 refine Qh Qb (fun(q:Nat×(Option Addr×Nat×List Bj)×(Option Addr×Nat×List Bj)×(Option Addr×Nat×List Bj)) w'=>q.1<=F.length/\(q.2.1.2.2,q.2.2.1.2.2,q.2.2.2.2.2)=(List.range q.1).foldl (Qha every) ([],F,D)/\Ext w w'/\w5.heap.size<=w'.heap.size/\Own Qab 1 9 w5.heap.size w' q.2.1.1 q.2.1.2.1 q.2.1.2.2/\At w' b2 36 [.slice q.2.2.1.1 q.2.2.1.2.2.length q.2.2.1.2.1]/\SlT w' q.2.2.1.1 q.2.2.1.2.2/\q.2.2.1.2.2.length<=q.2.2.1.2.1/\(∀ a,q.2.2.1.1=some a->a.block<w5.heap.size/\a.block≠b2)/\SlT w' q.2.2.2.1 q.2.2.2.2.2/\q.2.2.2.2.2.length<=q.2.2.2.2.1/\(∀ a,q.2.2.2.1=some a->a.block<w5.heap.size/\a.block≠b2))
  (fun | (k,(La,cL,L),_,(Da,cD,Dl)) => [(3,Vj every),(9,Pj b2),(10,.slice Da Dl.length cD),(11,.slice La L.length cL),(21,Vj F.length),(22,Vj (k:Nat))]) (fun q=>F.length-q.1) (0,(none,0,[]),(A1,c1,F),(A4,c4,D)) ⟨Zu _,rfl,hx5,Zg _,Own.nil,h5,hs5,hc1,h15,hsD,hc4,h45⟩ Rr ?_
 clear hx5 h5 hs5 hc1 h15 hsD hc4 h45;rintro ⟨k,⟨La,cL,L⟩,⟨Fa,cF,Fl⟩,⟨Da,cD,Dl⟩⟩ w6 ⟨hk,hst,hx6,hz6,hoL,h6,hsF,hcF,hbF,hsD,hcD,hbD⟩;simp only at hk hst hoL h6 hsF hcF hbF hsD hcD hbD;have hinv:=Q8m every F D k hk;rw[<- hst] at hinv;simp only at hinv;refine Gg ?_;constructor
 . intro hlt;have hlt:k<F.length:=Su hlt;have htk:(List.range (k+1)).foldl (Qha every) ([],F,D)=Qha every (L,Fl,Dl) k:=by rw[Zc6,Zt,<- hst];rfl
   refine Gg ?_;refine⟨(k:Int)+1,fun _=>wrap_eq rfl ⟨Om,Om⟩,Gg ?_⟩
   refine⟨((k:Int)+1).tmod every,fun hg=>⟨by have hg:1<=every:=Su hg
                                             omega,rfl⟩,Gg ?_⟩
   constructor
   . intro hq;have hq:(1<=every/\((k:Int)+1).tmod every=0)/\0<Dl.length:=Su hq
     cases Dl with
     | nil=>simp at hq
     | cons x Dl =>
     have hmx:Qha every (L,Fl,x :: Dl) k=(L ++ [x],Fl,Dl):=(by unfold Qha;rw[if_pos ⟨hq.1.1,hq.1.2,by simp⟩];rfl);rw[hmx] at htk;obtain⟨a,rfl,hc⟩:=hsD.get (k:=0) (by simp);refine Gg ?_;refine⟨a,⟨rfl,Om,by simp⟩,Gg ?_⟩;refine⟨.string x,Qs hc,Gg ?_⟩;intro b8 w8 hn8;refine Gg ?_;have z8:=hn8.ext.size;refine Qq X7 (l:=L) (news := [x]) rfl (hoL.ext hn8.ext) rfl (X7.new1 (x:=x) hn8) (by simp;omega) Om fun A9 c9 w9 hown9 hg9 hA9 => ?_
     have hr9:∀ i,La.map (·.block)=some i->w5.heap.size<=i:=Xq hoL;have hx9:Ext w w9:=Qu (hx6.trans hn8.ext) hg9 fun i hi=>by have:=hr9 i hi;omega
     have hk9:∀ i,i<w5.heap.size->w9.heap[i]? = w6.heap[i]? := fun i hi=>(by rw[hg9.block i Om fun e=>by have:=hr9 i e.symm;omega];exact hn8.ext.block i Om)
     have h69:At w9 b2 36 [.slice Fa Fl.length cF]:=(hk9 b2 z5).trans h6;have hsF9:SlT w9 Fa Fl:=Qa8 hsF fun b hb=>hk9 _ (hbF b hb).1
     have hsD9:=Q98 (Qa8 hsD fun b hb=>hk9 _ (hbD b hb).1) cD hcD;have z9:=hg9.size;generalize hL2:L ++ [x]=L2 at hown9 htk ⊢;rw[Z8] at hcD;clear hg9 hA9 hn8;refine Gg ?_;refine⟨⟨by simp,by simp only[Z8];omega,by simp only[Z8];omega,Om⟩,Gg ?_⟩;refine⟨_,wrap_succ Om,Gg ?_⟩;refine⟨(k+1,(A9,c9,L2),(Fa,cF,Fl),((if cD=1 then some a else(some a).map (·.add (1*1))),cD-1,Dl)),Sj,⟨Sj,htk.symm,hx9,Om,hown9,h69,hsF9,hcF,hbF,hsD9,Sj,fun b hb => ?_⟩,Rr⟩;simp only at hb;split at hb
     . exact hbD b hb
     . simp at hb;subst hb;rw[add_block];exact hbD a rfl
   . intro hq;have hq:¬ ((1<=every/\((k:Int)+1).tmod every=0)/\0<Dl.length):=(by intro h;simp[h.1.1,h.1.2,h.2] at hq)
     cases Fl with
     | nil=>simp at hinv;omega
     | cons x Fl =>
     have hmx:Qha every (L,x :: Fl,Dl) k=(L ++ [x],Fl,Dl):=(by unfold Qha;rw[if_neg (fun h=>hq ⟨⟨h.1,h.2.1⟩,Zac.2 h.2.2⟩)];rfl);rw[hmx] at htk;obtain⟨a,rfl,hc⟩:=hsF.get (k:=0) (by simp);refine Gg ?_;refine⟨.slice (some a) (x :: Fl).length cF,h6.one0,Gg ?_⟩;refine⟨a,⟨rfl,Om,by simp⟩,Gg ?_⟩;refine⟨.string x,Qs hc,Gg ?_⟩;intro b8 w8 hn8;refine Gg ?_;have z8:=hn8.ext.size;refine Qq X7 (l:=L) (news := [x]) rfl (hoL.ext hn8.ext) rfl (X7.new1 (x:=x) hn8) (by simp;omega) Om fun A9 c9 w9 hown9 hg9 hA9 => ?_
     have hr9:∀ i,La.map (·.block)=some i->w5.heap.size<=i:=Xq hoL;have hx9:Ext w w9:=Qu (hx6.trans hn8.ext) hg9 fun i hi=>by have:=hr9 i hi;omega
     have hk9:∀ i,i<w5.heap.size->w9.heap[i]? = w6.heap[i]? := fun i hi=>(by rw[hg9.block i Om fun e=>by have:=hr9 i e.symm;omega];exact hn8.ext.block i Om)
     have h69:At w9 b2 36 [.slice (some a) (x :: Fl).length cF]:=(hk9 b2 z5).trans h6;have hsF9:=Q98 (Qa8 hsF fun b hb=>hk9 _ (hbF b hb).1) cF hcF;have hsD9:SlT w9 Da Dl:=Qa8 hsD fun b hb=>hk9 _ (hbD b hb).1
     have z9:=hg9.size;generalize hL2:L ++ [x]=L2 at hown9 htk ⊢;rw[Z8] at hcF;clear hg9 hA9 hn8;refine Gg ?_;refine⟨.slice (some a) (x :: Fl).length cF,h69.one0,Gg ?_⟩;refine⟨⟨by simp,by simp only[Z8];omega,by simp only[Z8];omega,Om⟩,Gg ?_⟩;refine Qc Qb (e:=ty36) rfl h69 rfl rfl rfl Oj fun w10 h10 ho10 => ?_
     have hbF':∀ b,(if cF=1 then some a else(some a).map (·.add (1*1)))=some b->b.block<w5.heap.size/\b.block≠b2:=fun b hb=>by
      split at hb
      . exact hbF b hb
      . simp at hb;subst hb;rw[add_block];exact hbF a rfl
     have h10:At w10 b2 36 [.slice (if cF=1 then some a else(some a).map (·.add (1*1))) Fl.length (cF-1)]:=h10;refine Gg ?_;refine⟨_,wrap_succ Om,Gg ?_⟩;exact⟨(k+1,(A9,c9,L2),((if cF=1 then some a else(some a).map (·.add (1*1))),cF-1,Fl),(Da,cD,Dl)),Sj,⟨Sj,htk.symm,ho10.ext hx9 hb2w,by have:=ho10.size;omega,hown9.keep fun b hb=>ho10.block _ (by have:=(hown9.block hb).1;omega),h10,ho10.sl hsF9 fun b hb=>(hbF' b hb).2,Sj,hbF',ho10.sl hsD9 fun b hb=>(hbD b hb).2,hcD,hbD⟩,Rr⟩
 intro hge;have hge:k=F.length:=(by have:F.length<=k:=Su hge;omega);subst hge;refine Gg ?_;rw[<- hst];exact⟨La,cL,rfl,hoL.base Om,hx6⟩
