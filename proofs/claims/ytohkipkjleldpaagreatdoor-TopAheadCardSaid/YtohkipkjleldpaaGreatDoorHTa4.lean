import Derived.Test.YtohkipkjleldpaaGreatDoorGZJ
import Derived.Test.YtohkipkjleldpaaGreatDoorGZG
import Derived.Test.YtohkipkjleldpaaGreatDoorGU
/- The law TopAhead. -/
set_option linter.unusedVariables false
set_option linter.unusedSimpArgs false
namespace Go.Proofs.YtohkipkjleldpaaGreatDoor
open Go.Se Go.RowKit
theorem Xeo (n:Int) (ox oy:Operand):Qq1 Tryz.prog 40 ox oy (grV n) (grV n) true :=
 Qrw Qa st40 (xs:=grC n) (ys:=grC n) (by
  show some (decide (n=n)&&(decide ((0:Int)=0)&&(decide ((0:Int)=0)&&true)))=some true
  simp)
theorem Xd6 (j:Nat):(3:Int)≠0∧((j % 3:Nat):Int)=((j:Nat):Int).tmod 3:=⟨by omega,by rw[Int.tmod_eq_emod_of_nonneg (by omega)];omega⟩
theorem Xda (k:Nat):(5:Int)≠0∧((k % 5:Nat):Int)=((k:Nat):Int).tmod 5:=⟨by omega,by rw[Int.tmod_eq_emod_of_nonneg (by omega)];omega⟩
theorem Q7e (l:List Ev) (k:Nat) (h:k<l.length):(l.take (k+1)).map Qt5=(l.take k).map Qt5 ++ [Qt5 l[k]]:=by
 rw[List.take_succ_eq_append_getElem h,List.map_append];rfl
set_option maxHeartbeats 8000000 in
theorem topAhead_spec (bs:List Nat) (A:Option Addr) (cp kk:Nat) (w:World) (hg0:Gl w) (hkn:Q12 w) (hs:Sl u8C 1 w A bs) (hb:∀ x∈bs,x<256) :
 Cal Tryz.prog 3 [.slice A bs.length cp,.int .u8 (kk:Nat)] w fun r w'=>r = .bool true∧Ext w w':=by
 have hsz:=hg0.size;refine Fi Tryz.func3 rfl _ rfl rfl (Hh ?_);refine(Quf bs A cp w hg0 hkn hs hb).mono ?_;rintro _ w1 ⟨hx1,rfl | ⟨c,every,seed,B,d,l,t,rfl,⟨hcf,hev,hsd⟩,⟨hap,hsrc⟩,hl,ht,hsl⟩⟩
 · refine Gg ?_
   intro p6 w2 hn2;refine Gg ?_;refine Qd Qa (e:=ty32) rfl hn2.At rfl rfl rfl (by simp[Qg,ty32,Value.oneCell']) fun w3 g6 ho3 => ?_
   have hx:=hx1.trans (ho3.ext hn2.ext (by rw[hn2.block];exact Nat.le_refl _));clear ho3 hn2 g6;refine Gg ?_;refine(Qhi w3 (hg0.ext hx) (hkn.ext hx)).mono ?_;rintro _ w4 ⟨rfl,hx4⟩;refine Gg ?_;constructor
   · intro _
     refine Gg ?_;refine(Qhi w4 (hg0.ext (hx.trans hx4)) (hkn.ext (hx.trans hx4))).mono ?_;rintro _ w5 ⟨rfl,hx5⟩;refine Gg ?_
     exact⟨rfl,(hx.trans hx4).trans hx5⟩
   · intro h
     simp at h
 refine Gg ?_;intro p6 w2 hn2;refine Gg ?_;refine Qd Qa (e:=ty32) rfl hn2.At rfl rfl rfl (by simp[Qg,Qas,Value.oneCell']) fun w3 g6 ho3 => ?_
 have g6:At w3 p6 32 (Qas c (Qd5 6) every seed):=g6;have hx13:Ext w1 w3:=ho3.ext hn2.ext (by rw[hn2.block];exact Nat.le_refl _);have hx:=hx1.trans hx13;replace hsl:=hsl.ext hx13;clear ho3 hn2 hx13 hx1;refine Gg ?_;refine(Qhi w3 (hg0.ext hx) (hkn.ext hx)).mono ?_;rintro _ w4 ⟨rfl,hx4⟩;replace hx:=hx.trans hx4;replace hsl:=hsl.ext hx4;replace g6:=g6.ext hx4;clear hx4 hs hb;have hD:Qt9 l:=⟨hap.may,hap.none,hsrc⟩;have z4:=hx.size;have l6:=g6.lt;refine Gg ?_;constructor
 · intro h
   simp at h
 intro _;refine Gg ?_
 refine Qh Qa (fun(q:Nat×(Option Addr×Nat×List Ev)×(Option Addr×Nat×List Ev)) w'=>q.1≤l.length∧Ext w4 w'∧q.2.1.2.2=(l.take q.1).map Qt5∧q.2.2.2.2=Qel (l.take q.1) 0∧Own evC 8 38 w4.heap.size w' q.2.1.1 q.2.1.2.1 q.2.1.2.2∧Own evC 8 38 w4.heap.size w' q.2.2.1 q.2.2.2.1 q.2.2.2.2∧(∀ a b,q.2.1.1=some a→q.2.2.1=some b→a.block≠b.block))
  (fun | (j,(Ea,cE,E),(La,cL,L)) => [(1,.int .u8 (kk:Nat)),(6,.pointer (some ⟨p6,0,none⟩)),(9,.slice Ea E.length cE),(10,.slice La L.length cL),(31,.slice B l.length d),(32,.int .i64 l.length),(33,.int .i64 (j:Nat))]) (fun q=>l.length-q.1) (0,(none,0,[]),(none,0,[])) ⟨Nat.zero_le _,Ext.refl _,rfl,rfl,Own.nil,Own.nil,fun a b h=>by cases h⟩ Rr ?_
 rintro ⟨j,⟨Ea,cE,E⟩,⟨La,cL,L⟩⟩ w5 ⟨hj,hx5,hE,hL,hoE,hoL,hne⟩;simp only at hj hE hL hoE hoL hne;have hEl:E.length≤j:=by rw[hE,List.length_map,List.length_take];omega
 have hLl:L.length≤j:=by rw[hL];refine Nat.le_trans (Qxo _ _) ?_;rw[List.length_take];omega
 refine Gg ?_;constructor
 · intro hlt
   have hlt:j<l.length:=by simpa using hlt
   obtain⟨a,rfl,hc⟩:=(hsl.ext hx5).get hlt;have htE:=Q7e l j hlt;have htL:=Q3y l j hlt;have hme:=hap.may _ (List.getElem_mem hlt);rw[← hE] at htE;rw[← hL] at htL;generalize l[j]=e at hc htE htL hme;have hta:=Qk6 (Qkw hme).1;refine Gg ?_;refine⟨a,Ix,Gg ?_⟩;refine⟨evC e,⟨rfl,hc⟩,Gg ?_⟩;intro b6 w6 hn6;refine Gg ?_;refine Qd Qa (e:=ty38) rfl hn6.At rfl rfl rfl (by simp[Qg,evC,Value.oneCell']) fun w7 h7 ho7 => ?_
   have h7:At w7 b6 38 (evC e):=h7;have e6:=hn6.block;have s5:=hx5.size;have hx57:Ext w5 w7:=ho7.ext hn6.ext (by rw[hn6.block];exact Nat.le_refl _);clear ho7 hn6;refine Gg ?_;refine⟨.int .i64 e.at_,h7.one rfl,Gg ?_⟩;refine⟨e.at_.tmod 86400,⟨by decide,rfl⟩,Gg ?_⟩;refine Qd Qa (e:=ty3) rfl h7 rfl rfl rfl (by simp[Qg,Value.oneCell']) fun w8 h8 ho8 => ?_
   have h8:At w8 b6 38 (evC (Qt5 e)):=h8;have hx58:Ext w5 w8:=ho8.ext hx57 (by omega);have hoE8:=hoE.ext hx58;have hoL8:=hoL.ext hx58;have hx8:=hx5.trans hx58;have l8:=h8.lt;have s8:=hx58.size;have hEb:∀ a,Ea=some a→a.block<w5.heap.size:=fun a ha=>(hoE.block ha).2
   have hLb:∀ a,La=some a→a.block<w5.heap.size:=fun a ha=>(hoL.block ha).2
   clear ho8 h7 hx57 hoE hoL;refine Gg ?_;refine⟨evC (Qt5 e),⟨rfl,h8.all⟩,Gg ?_⟩;intro b9 w9 hn9;refine Gg ?_;refine Qs Qkk (l:=E) (news := [Qt5 e]) rfl (hoE8.ext hn9.ext) rfl (Qkk.new1 (x:=Qt5 e) hn9) (by simp;omega) (hx8.trans hn9.ext).size fun Ea2 cE2 w10 hown10 hg10 hA10 => ?_
   have hx10:Ext w4 w10:=Qr (hx8.trans hn9.ext) hg10 (Xy (hoE8.ext hn9.ext));have z9:=hn9.ext.size;have z10:=hg10.size
   have h10:At w10 b6 38 (evC (Qt5 e)):=(hg10.block b6 (by omega) fun q=>by
    cases hq:Ea with
    | none=>rw[hq] at q;simp at q
    | some a=>rw[hq] at q;simp at q;have:=hEb a hq;omega).trans (h8.ext hn9.ext)
   have hoL10:Own evC 8 38 w4.heap.size w10 La cL L:=(hoL8.ext hn9.ext).keep fun b hb=>hg10.block b.block (by have:=hLb b hb;omega) fun q=>by
    cases hq:Ea with
    | none=>rw[hq] at q;simp at q
    | some a=>rw[hq] at q;simp at q;exact hne a b hq hb q.symm
   have hne10:∀ a b,Ea2=some a→La=some b→a.block≠b.block:=fun a b ha hb=>by
    subst ha;rcases hA10 with q | q | q
    · exact hne a b q.symm hb
    · cases hq:Ea with
      | none=>rw[hq] at q;simp at q
      | some a0=>rw[hq] at q;simp at q;rw[q];exact hne a0 b hq hb
    · simp at q
      have:=hLb b hb;omega
   have hb610:∀ a,Ea2=some a→a.block≠b6:=fun a ha=>by
    subst ha;rcases hA10 with q | q | q
    · have:=hEb a q.symm;omega
    · cases hq:Ea with
      | none=>rw[hq] at q;simp at q
      | some a0=>rw[hq] at q;simp at q;have:=hEb a0 hq;omega
    · simp at q;have:=hn9.size;have:=hn9.block;omega
   rw[← htE] at hown10 ⊢;have hE2l:((l.take (j+1)).map Qt5).length≤j+1:=by rw[List.length_map,List.length_take];omega
   generalize hE2:(l.take (j+1)).map Qt5=E2 at hown10 hE2l ⊢;clear hg10 hA10 hoE8 hoL8 hn9 h8 hx58 hx8 hne htE;refine Gg ?_;refine⟨.int .i64 (e.at_.tmod 86400),h10.one rfl,Gg ?_⟩;refine⟨((j % 3:Nat):Int),Xd6 j,Gg ?_⟩;refine⟨1+((j % 3:Nat):Int),wrap_eq rfl ⟨by omega,by omega⟩,Gg ?_⟩;refine⟨(1+((j % 3:Nat):Int))*86400,wrap_eq rfl ⟨by omega,by omega⟩,Gg ?_⟩;refine⟨e.at_.tmod 86400+(1+((j % 3:Nat):Int))*86400,wrap_eq rfl ⟨by omega,by omega⟩,Gg ?_⟩;refine Qd Qa (e:=ty9) rfl h10 rfl rfl rfl (by simp[Qg,Value.oneCell']) fun w11 h11 ho11 => ?_
   refine Gg ?_;refine Qd Qa (e:=ty3) rfl h11 rfl rfl rfl (by simp[Qg,Value.oneCell']) fun w12 h12 ho12 => ?_
   have h12:At w12 b6 38 (evC (Qpq j e)):=h12;have hx12:Ext w4 w12:=ho12.ext (ho11.ext hx10 (by omega)) (by omega);have hown12:Own evC 8 38 w4.heap.size w12 Ea2 cE2 E2:=(hown10.keep fun a ha=>ho11.block _ (hb610 a ha)).keep fun a ha=>ho12.block _ (hb610 a ha)
   have hoL12:Own evC 8 38 w4.heap.size w12 La cL L:=(hoL10.keep fun a ha=>ho11.block _ (by have:=hLb a ha;omega)).keep fun a ha=>ho12.block _ (by have:=hLb a ha;omega)
   clear ho11 ho12 h10 h11 hx10 hown10 hoL10;refine Gg ?_;refine⟨.int .i64 e.kind,h12.one rfl,Gg ?_⟩;refine⟨.int .i64 e.kind,fun _=>h12.one rfl,Gg ?_⟩;constructor
   · intro hq
     have hq:fbB e=false:=by
      have:¬ e.kind=2∧¬ e.kind=3:=by simpa using hq
      simp[fbB,this.1,this.2]
     rw[if_neg (by rw[hq];simp)] at htL;refine Gg ?_;refine⟨evC (Qpq j e),⟨rfl,h12.all⟩,Gg ?_⟩;intro b13 w13 hn13;refine Gg ?_;refine Qs Qkk (l:=L) (news := [Qpq j e]) rfl (hoL12.ext hn13.ext) rfl (Qkk.new1 (x:=Qpq j e) hn13) (by simp;omega) (hx12.trans hn13.ext).size fun La2 cL2 w14 hown14 hg14 hA14 => ?_
     have hx14:Ext w4 w14:=Qr (hx12.trans hn13.ext) hg14 (Xy (hoL12.ext hn13.ext));have z13:=hn13.ext.size
     have hoE14:Own evC 8 38 w4.heap.size w14 Ea2 cE2 E2:=(hown12.ext hn13.ext).keep fun a ha=>hg14.block a.block ((hown12.ext hn13.ext).block ha).2 fun q=>by
      cases hq:La with
      | none=>rw[hq] at q;simp at q
      | some b=>rw[hq] at q;simp at q;exact hne10 a b ha hq q
     have hne14:∀ a b,Ea2=some a→La2=some b→a.block≠b.block:=fun a b ha hb=>by
      subst hb;rcases hA14 with q | q | q
      · exact hne10 a b ha q.symm
      · cases hq:La with
        | none=>rw[hq] at q;simp at q
        | some b0=>rw[hq] at q;simp at q;rw[q];exact hne10 a b0 ha hq
      · simp at q
        have:=(hown12.block ha).2;omega
     rw[← htL] at hown14 ⊢;generalize hL2:Qel (l.take (j+1)) 0=L2 at hown14 ⊢;clear hg14 hA14 hn13 hoL12 hown12 h12 hx12 htL;refine Gg ?_;refine⟨_,wrap_succ (by omega),Gg ?_⟩
     exact⟨(j+1,(Ea2,cE2,E2),(La2,cL2,L2)),by simp only;omega,⟨by simp only;omega,hx14,hE2.symm,hL2.symm,hoE14,hown14,hne14⟩,Rr⟩
   intro hq
   have hq:fbB e=true:=by
    have hq:¬ (¬ e.kind=2∧¬ e.kind=3):=by simpa using hq
    by_cases h2:e.kind=2
    · simp[fbB,h2]
    · by_cases h3:e.kind=3
      · simp[fbB,h3]
      · exact absurd ⟨h2,h3⟩ hq
   rw[if_pos hq,List.append_nil] at htL;refine Gg ?_;refine⟨_,wrap_succ (by omega),Gg ?_⟩
   exact⟨(j+1,(Ea2,cE2,E2),(La,cL,L)),by simp only;omega,⟨by simp only;omega,hx12,hE2.symm,htL.symm,hown12,hoL12,hne10⟩,Rr⟩
 intro hge;have hge:l.length≤j:=by simpa using hge
 rw[List.take_of_length_le hge] at hE hL;have hEd:=hD.early;have hLd:=hD.late;have hsame:=Q92 hD.same;rw[← hE] at hEd hsame;rw[← hL] at hLd hsame;have hE60:E.length≤60:=by rw[hE,List.length_map];exact hl
 have hL60:L.length≤60:=by rw[hL];exact Nat.le_trans (Qxo _ _) hl
 have hx':=hx.trans hx5;have z5:=hx5.size;have g65:=g6.ext hx5;have hsE:=hoE.sl Xz;have hsLl:=hoL.sl Xz;clear hE hL hne hsl hoL hD;have hk5:(1:Int)≤1+((kk % 5:Nat):Int)∧1+((kk % 5:Nat):Int)≤1000:=by omega
 refine Gg ?_;refine⟨Qas c (Qd5 6) every seed,⟨rfl,g65.all⟩,Gg ?_⟩;refine⟨((kk % 5:Nat):Int),Xda kk,Gg ?_⟩;refine⟨((kk % 5:Nat):Int),wrap_i64 ⟨by omega,by omega⟩,Gg ?_⟩;refine⟨1+((kk % 5:Nat):Int),wrap_eq rfl ⟨by omega,by omega⟩,Gg ?_⟩;refine(Qic c hcf every seed hev _ hk5 E Ea cE w5 (hg0.ext hx') hsE (by omega) (fun e he=>(hEd e he).1) (fun e he _=>(hEd e he).2.2.2)).mono ?_;rintro _ w6 ⟨rfl,hx6⟩;rw[← hsame]
 have hnb:(Qag (Qbg (E++L))).2.length≤120:=by
  have h1:=Q2o (Qbg (E++L));have h2:=Qkn (E++L);rw[List.length_append] at h2;omega
 refine Gg ?_;intro b13 w7 hn7;refine Gg ?_;refine Qd Qa (e:=ty40) rfl hn7.At rfl rfl rfl (by simp[Qg,grV,grC,Value.oneCell']) fun w8 g13 ho8 => ?_
 have g13:At w8 b13 40 (grC ((Qag (Qbg (E++L))).2.length:Nat)):=g13;have e13:=hn7.block;have hx58:Ext w5 w8:=hx6.trans (ho8.ext hn7.ext (by rw[hn7.block];exact Nat.le_refl _));have s6:=hx6.size;have g68:=g65.ext hx58;have hoE8:=hoE.ext hx58;have hsL8:=hsLl.ext hx58;have hx8:=hx'.trans hx58;have z8:=hx58.size;have hEb:∀ a,Ea=some a→a.block<w5.heap.size:=fun a ha=>(hoE.block ha).2
 have lb13:=g13.lt;have hm2:∀ e∈E++L,Xn e=true:=fun e he=>(List.mem_append.1 he).elim (fun h=>(hEd e h).1) fun h=>(hLd e h).1
 have hd2:∀ e∈E++L,fbB e=true→e.at_<86400:=fun e he hf=>(List.mem_append.1 he).elim (fun h=>(hEd e h).2.2.2) fun h=>by rw[(hLd e h).2.2] at hf;cases hf
 have hx48:=hx5.trans hx58;clear ho8 hn7 hx58 hx6 hsE hsLl hoE hsame hEd hLd g65 hx';refine Gg ?_;refine Qv6 (ι:=Nat) (fun p => [(13,.pointer (some ⟨b13,0,none⟩)),(14,.int .i64 0),(15,.pointer (some ⟨p,0,none⟩)),(16,.int .i64 0)]) (fun p w'=>At w' b13 40 (grC ((Qag (Qbg (E++L))).2.length:Nat))∧At w' p 40 (grC ((Qag (Qbg (E++L))).2.length:Nat))∧Ext w w') ?_ ?_
 · refine Qh5 (.mods (fun k=>w4.heap.size≤k)) (Pl.seq [0,1,2,3,4,5,6] (Pl.two 7 (Pl.seq [] (Pl.two 8 (Pl.seq [9,10,11,12,13,14] Pl.done) 12 (Pl.seq [8,9,10,11,13,14] Pl.done))) 12 (Pl.seq [7,8,9,10,11,13,14] Pl.done))) (by intro h;cases h) Qa mixed (by kernel_rfl) (Hh ?_)
   have hd:Ext w8 w8.drew:=(Ext.refl w8).drew;have hxd:Ext w4 w8.drew:=hx48.trans hd;have g6d:=g68.ext hd;have g13d:=g13.ext hd;have oEd:=hoE8.ext hd;have sLd:=hsL8.ext hd;have zd:=hd.size;generalize w8.drew=wd at hxd g6d g13d oEd sLd zd ⊢;refine⟨Qas c (Qd5 6) every seed,⟨rfl,g6d.all,by show ¬ (w4.heap.size≤p6);omega⟩,Hh ?_⟩;refine⟨((kk % 5:Nat):Int),Xda kk,Hh ?_⟩;refine⟨((kk % 5:Nat):Int),wrap_i64 ⟨by omega,by omega⟩,Hh ?_⟩;refine⟨1+((kk % 5:Nat):Int),wrap_eq rfl ⟨by omega,by omega⟩,Hh ?_⟩;refine⟨?_,?_⟩
   · refine Qs Qkk (l:=E) (news:=L) rfl oEd rfl sLd (by omega) (hxd).size fun Aa ca wa howna hga hAa => ?_
     have hxa:Ext w4 wa:=Qr hxd hga (Xy oEd);have za:=hga.size
     have g13a:At wa b13 40 (grC ((Qag (Qbg (E++L))).2.length:Nat)):=(hga.block b13 (by omega) fun q=>by
      cases hq:Ea with
      | none=>rw[hq] at q;simp at q
      | some a=>rw[hq] at q;simp at q;have:=hEb a hq;omega).trans g13d
     refine⟨Qac hga (Xy oEd),Hh ?_⟩;refine⟨?_,?_⟩
     · refine(Qic c hcf every seed hev _ hk5 (E++L) Aa ca wa (hg0.ext (hx.trans hxa)) (howna.sl Xz) (by rw[List.length_append];omega) hm2 hd2).mono ?_
       rintro _ wb ⟨rfl,hxwb⟩;refine⟨Mod.of_ext hxwb,Hh ?_⟩;have zb:=hxwb.size;intro bz wc hnwc;have ebz:=hnwc.block;have sbz:=hnwc.size;refine⟨Mod.of_ext hnwc.ext,Hh ?_⟩;refine Qd Qa (e:=ty40) rfl hnwc.At rfl rfl rfl (by simp[Qg,grV,grC,Value.oneCell']) fun wz hz hoz => ?_
       have hz:At wz bz 40 (grC ((Qag (Qbg (E++L))).2.length:Nat)):=hz;refine⟨Qi hoz (by show w4.heap.size≤bz;omega),Hh ?_⟩
       exact⟨bz,⟨hoz.at_ ((g13a.ext hxwb).ext hnwc.ext) (by omega),hz,hoz.ext (hx.trans (hxa.trans (hxwb.trans hnwc.ext))) (by omega)⟩,Rr⟩
     · intro bz wb hnwb
       have ebz:=hnwb.block;have sbz:=hnwb.size;refine⟨Mod.of_ext hnwb.ext,Hh ?_⟩;refine(Qic c hcf every seed hev _ hk5 (E++L) Aa ca wb (hg0.ext (hx.trans (hxa.trans hnwb.ext))) ((howna.ext hnwb.ext).sl Xz) (by rw[List.length_append];omega) hm2 hd2).mono ?_;rintro _ wc ⟨rfl,hxwc⟩;refine⟨Mod.of_ext hxwc,Hh ?_⟩;refine Qd Qa (e:=ty40) rfl (hnwb.At.ext hxwc) rfl rfl rfl (by simp[Qg,grV,grC,Value.oneCell']) fun wz hz hoz => ?_
       have hz:At wz bz 40 (grC ((Qag (Qbg (E++L))).2.length:Nat)):=hz;refine⟨Qi hoz (by show w4.heap.size≤bz;omega),Hh ?_⟩
       exact⟨bz,⟨hoz.at_ ((g13a.ext hnwb.ext).ext hxwc) (by omega),hz,hoz.ext (hx.trans (hxa.trans (hnwb.ext.trans hxwc))) (by omega)⟩,Rr⟩
   · intro bz we hnwe
     have ebz:=hnwe.block;have sbz:=hnwe.size;refine⟨Mod.of_ext hnwe.ext,Hh ?_⟩;refine Qs Qkk (l:=E) (news:=L) rfl (oEd.ext hnwe.ext) rfl (sLd.ext hnwe.ext) (by omega) ((hxd.trans hnwe.ext)).size fun Aa ca wa howna hga hAa => ?_
     have hxa:Ext w4 wa:=Qr (hxd.trans hnwe.ext) hga (Xy (oEd.ext hnwe.ext));have za:=hga.size
     have g13a:At wa b13 40 (grC ((Qag (Qbg (E++L))).2.length:Nat)):=(hga.block b13 (by have:=hnwe.ext.size;omega) fun q=>by
      cases hq:Ea with
      | none=>rw[hq] at q;simp at q
      | some a=>rw[hq] at q;simp at q;have:=hEb a hq;omega).trans (g13d.ext hnwe.ext)
     refine⟨Qac hga (Xy (oEd.ext hnwe.ext)),Hh ?_⟩
     have gza:At wa bz 40 (grC 0):=(hga.block bz (by omega) fun q=>by
      cases hq:Ea with
      | none=>rw[hq] at q;simp at q
      | some a=>rw[hq] at q;simp at q;have:=hEb a hq;omega).trans hnwe.At
     refine(Qic c hcf every seed hev _ hk5 (E++L) Aa ca wa (hg0.ext (hx.trans hxa)) (howna.sl Xz) (by rw[List.length_append];omega) hm2 hd2).mono ?_;rintro _ wb ⟨rfl,hxwb⟩;refine⟨Mod.of_ext hxwb,Hh ?_⟩;refine Qd Qa (e:=ty40) rfl (gza.ext hxwb) rfl rfl rfl (by simp[Qg,grV,grC,Value.oneCell']) fun wz hz hoz => ?_
     have hz:At wz bz 40 (grC ((Qag (Qbg (E++L))).2.length:Nat)):=hz;refine⟨Qi hoz (by show w4.heap.size≤bz;omega),Hh ?_⟩
     exact⟨bz,⟨hoz.at_ (g13a.ext hxwb) (by omega),hz,hoz.ext (hx.trans (hxa.trans hxwb)) (by omega)⟩,Rr⟩
 rintro p w9 ⟨h13,hp,hx9⟩;refine Gg ?_;refine⟨grC ((Qag (Qbg (E++L))).2.length:Nat),fun _=>⟨rfl,h13.all⟩,Gg ?_⟩;refine⟨grC ((Qag (Qbg (E++L))).2.length:Nat),fun _=>⟨rfl,hp.all⟩,Gg ?_⟩;refine⟨true,fun _=>Xeo _ _ _,Gg ?_⟩;refine⟨grC ((Qag (Qbg (E++L))).2.length:Nat),fun _=>⟨rfl,h13.all⟩,Gg ?_⟩;refine⟨grC ((Qag (Qbg (E++L))).2.length:Nat),fun _=>⟨rfl,hp.all⟩,Gg ?_⟩;refine⟨Unit,fun _=>(.int .i64 0),fun _ w'=>Ext w9 w',(),fun hg=>((Qsa ((Qag (Qbg (E++L))).2.length:Nat) ⟨by omega,by omega⟩ w9)).mono fun r w' h=>⟨(),h.1,h.2⟩,?_⟩;intro _ w10 h2
 have hx10:Ext w9 w10:=by
  rcases h2 with⟨_,h⟩ | ⟨_,h⟩
  · exact h
  · rw[h];exact Ext.refl _
 clear h2
 conv=>whnf
 exact⟨rfl,hx9.trans hx10⟩
theorem topAheadI_spec (bs:List Nat) (A:Option Addr) (cp:Nat) (k:Int) (h1:0≤k) (w:World) (hg0:Gl w) (hkn:Q12 w) (hs:Sl u8C 1 w A bs) (hb:∀ x∈bs,x<256) :
 Cal Tryz.prog 3 [.slice A bs.length cp,.int .u8 k] w fun r w'=>r = .bool true∧Ext w w':=by
 obtain⟨m,rfl⟩:=Int.eq_ofNat_of_zero_le h1
 exact topAhead_spec bs A cp m w hg0 hkn hs hb
end Go.Proofs.YtohkipkjleldpaaGreatDoor
