/- Several texts in one: Ct, Pl5, Pl6, Sm. -/
import Derived.Test.YteabekcdcphjpaaGreatDoorGF
import Derived.Test.YteabekcdcphjpaaGreatDoorGC
import Derived.Test.YteabekcdcphjpaaGreatDoorGH
set_option linter.unusedVariables false
set_option linter.unusedSimpArgs false
namespace Go.Proofs.YteabekcdcphjpaaGreatDoor
open Go.Se Go.RowKit
theorem Qt9 (s:ByteArray) (w:World) (hs:s.size<1000000000000000000):Cal Tryz.prog 116 [.string s] w fun r w'=>r = .string (Qap s)/\w'=w:=by
 refine Fi Tryz.func116 rfl _ rfl rfl (Hh ?_)
 refine Qd Qa (fun(k:Nat) w'=>k<=s.size/\w'=w/\∀ i (hi:i<s.data.toList.length),i<k->(s.data.toList[i] == 59)=false)
  (fun k => [(0,.string s),(3,.int .i64 k)]) (fun k=>s.size-k) 0 ⟨by omega,rfl,fun i _ h=>by omega⟩ Rr ?_
 rintro k w1 ⟨hk,rfl,hall⟩
 conv=>whnf
 constructor
 . intro hlt
   have hlt:k<s.size:=by simpa using hlt
   have hlt':k<s.data.toList.length:=by simpa using hlt
   conv=>whnf
   refine⟨s.data.toList[k],⟨by omega,bytes_at s k hlt⟩,Hh ?_⟩;rw[Q9d];refine⟨fun hc => ?_,fun hc => ?_⟩
   . have hp:Qaj s=some k:=by
      unfold Qaj;rw[List.findIdx?_eq_some_iff_getElem]
      exact⟨hlt',hc,fun j hj=>by rw[hall j (by omega) hj];simp⟩
     have hr:Qap s=s.extract (k+1) s.size:=by unfold Qap;rw[hp]
     rw[hr]
     conv=>whnf
     refine⟨_,wrap_succ (by omega),Hh ?_⟩;refine⟨⟨by omega,by omega⟩,Hh ?_⟩
     exact⟨rfl,rfl⟩
   . (conv=>whnf)
     refine⟨_,wrap_succ (by omega),Hh ?_⟩;refine⟨k+1,by omega,⟨by omega,rfl,fun i hi hik => ?_⟩,Rr⟩
     by_cases e:i=k
     . subst e;exact hc
     . exact hall i hi (by omega)
 . intro hge
   have hge:s.size<=k:=by simpa using hge
   have hp:Qaj s=none:=by
    unfold Qaj;rw[List.findIdx?_eq_none_iff];intro x hx;obtain⟨i,hi,rfl⟩:=List.getElem_of_mem hx
    exact hall i hi (by have:i<s.size:=by simpa using hi
                        omega)
   have hr:Qap s=⟨#[]⟩:=by unfold Qap;rw[hp]
   rw[hr]
   conv=>whnf
   exact⟨rfl,rfl⟩
theorem Qlm (l:List Ev) (A:Option Addr) (c:Nat) (w:World) (hs:SlE w A l) (hl:l.length<1000000) :
 Cal Tryz.prog 52 [.slice A l.length c] w fun r w'=>∃ A' c',r = .slice A' (Qu l).length c'/\SlE w' A' (Qu l)/\Ext w w':=by
 refine Fi Tryz.func52 rfl _ rfl rfl (Hh ?_);intro b1 w1 hn1;conv=>whnf
 have o1:=Q12.made (base:=w.heap.size) hn1 (Nat.le_refl _)
 refine Qd Qa (fun(k:Nat×Option Addr×Nat×List Ev) w'=>k.1<=l.length/\Ext w w'/\k.2.2.2=Qu (l.take k.1)/\Own evC 8 66 w.heap.size w' k.2.1 k.2.2.1 k.2.2.2)
  (fun | (k,B,d,T) => [(0,.slice A l.length c),(3,.slice B T.length d),(4,.int .i64 k)]) (fun k=>l.length-k.1) (0,some ⟨b1,0,none⟩,0,[]) ⟨by simp,hn1.ext,rfl,o1⟩ Rr ?_
 rintro ⟨k,B,d,T⟩ w2 ⟨hk,hx2,hT,hown⟩;simp only at hk hT hown
 have hTl:T.length<=k:=by
  rw[hT];have:=List.length_filter_le thB (l.take k);rw[List.length_take] at this;unfold Qu;omega
 conv=>whnf
 constructor
 . intro hc
   have hc:k<l.length:=by simpa using hc
   obtain⟨a2,rfl,hce⟩:=(hs.ext hx2).get hc;have htk:=Xl l k hc;generalize l[k]=e at hce htk
   have hsn:Qu (l.take (k+1))=T++if thB e then [e] else []:=by
    rw[htk,hT];unfold Qu;rw[List.filter_append]
    cases h:thB e <;> simp[List.filter_cons,h]
   conv=>whnf
   repeat(refine Sg ?_;(conv=>whnf))
   refine⟨a2,Ix,Hh ?_⟩;refine⟨_,cells_at hce (k:=3) rfl,Hh ?_⟩;refine⟨a2,fun _=>Ix,Hh ?_⟩;refine⟨_,fun _=>cells_at hce (k:=3) rfl,Hh ?_⟩;refine⟨a2,fun _=>Ix,Hh ?_⟩;refine⟨_,fun _=>cells_at hce (k:=3) rfl,Hh ?_⟩;constructor
   . intro hq
     have hq:thB e=true:=by unfold thB;simp at hq ⊢;omega
     rw[hq,if_pos rfl] at hsn
     conv=>whnf
     refine⟨a2,Ix,Hh ?_⟩;refine⟨evC e,⟨rfl,hce⟩,Hh ?_⟩;intro b3 w3 hn3;conv=>whnf
     refine Qi Q12 (l:=T) (news := [e]) rfl (hown.ext hn3.ext) rfl (Q12.new1 (x:=e) hn3) (by simp;omega) ((hx2.trans hn3.ext).size) fun A' c' w4 hown4 hg4 hA4 => ?_
     have hx4:=Qh (hx2.trans hn3.ext) hg4 (Qs hown);generalize hT1:T ++ [e]=T1 at hown4 hsn ⊢
     conv=>whnf
     refine⟨_,wrap_succ (by omega),Hh ?_⟩
     exact⟨(k+1,A',c',T1),by simp only;omega,⟨by simp only;omega,hx4,hsn.symm,hown4⟩,Rr⟩
   . intro hq
     have hq:thB e=false:=by unfold thB;simp at hq ⊢;omega
     rw[hq] at hsn;simp only[Bool.false_eq_true,if_false,List.append_nil] at hsn
     conv=>whnf
     refine⟨_,wrap_succ (by omega),Hh ?_⟩
     exact⟨(k+1,B,d,T),by simp only;omega,⟨by simp only;omega,hx2,hsn.symm,hown⟩,Rr⟩
 . intro hc
   have hc:l.length<=k:=by simpa using hc
   rw[List.take_of_length_le hc] at hT;rw[<- hT]
   conv=>whnf
   exact⟨B,d,rfl,hown.sl Qab,hx2⟩
theorem Xbb (row:List St) (t:Int):(stN row t=0\/∃ s,row[stN row t-1]? = some s/\s.at_<=t)/\(stN row t=row.length\/∃ s,row[stN row t]? = some s/\t<s.at_)/\stN row t<=row.length:=by
 unfold stN
 induction row with
 | nil=>simp
 | cons a row ih =>
   rw[List.takeWhile_cons]
   by_cases h:a.at_<=t
   . rw[if_pos (by simpa using h)]
     obtain⟨i1,i2,i3⟩:=ih;simp only[List.length_cons];generalize (row.takeWhile fun s=>decide (s.at_<=t)).length=n at *;refine⟨.inr ?_,?_,by omega⟩
     . rcases i1 with rfl | ⟨s,hs,hle⟩
       . exact⟨a,by simp,h⟩
       . cases n with
         | zero=>exact⟨a,by simp,h⟩
         | succ n=>exact⟨s,by simpa using hs,hle⟩
     . rcases i2 with h2 | ⟨s,hs,hlt⟩
       . exact .inl (by omega)
       . exact .inr ⟨s,by simpa using hs,hlt⟩
   . rw[if_neg (by simpa using h)]
     exact⟨.inl rfl,.inr ⟨a,rfl,by omega⟩,by simp⟩
def thQ (name:ByteArray) (t:Int) (e:Ev):Bool:=decide (e.item=name)&&decide (e.at_<=t)
def Qfk (name:ByteArray) (es:List Ev):St:=es.foldl Qa0 (Qjw name)
theorem Qem (name:ByteArray) (es:List Ev) (e:Ev):Qfk name (es ++ [e])=Qa0 (Qfk name es) e:=by simp[Qfk]
theorem Qx4 (s:St) (e:Ev):(Qa0 s e).item.name=s.item.name:=by unfold Qa0;split <;> (try split) <;> rfl
theorem Q2q (name:ByteArray) (es:List Ev):(Qfk name es).item.name=name:=by
 induction es using Xf with
 | h0=>rfl
 | h1 l a ih=>rw[Qem,Qx4,ih]
def Qjb (name:ByteArray) (es:List Ev):It:=if es.isEmpty then Qcp else(Qfk name es).item
theorem Q39 (name:ByteArray) (es:List Ev):{ Qjb name es with name:=name }=(Qfk name es).item:=by
 unfold Qjb;have h:=Q2q name es
 cases es with
 | nil=>rfl
 | cons a es =>
   simp only[List.isEmpty_cons,Bool.false_eq_true,if_false];generalize (Qfk name (a :: es)).item=i at h ⊢;subst h
   rfl
theorem Qj0 {row:List St} {t:Int} (h:∀ s∈row,s.at_<=t):stN row t=row.length:=by
 unfold stN
 have:row.takeWhile (fun s=>decide (s.at_<=t))=row:=by
  have:=List.takeWhile_append_of_pos (l₂ := []) (p:=fun s:St=>decide (s.at_<=t)) (l₁:=row) (fun s hs=>by simpa using h s hs)
  simpa using this
 rw[this]
theorem Q6i:∀ (cs:List Ev),Rise cs->∀ (name:ByteArray) (t:Int),
 (stN (Xh cs name) t=0↔cs.filter (thQ name t) = [])/\(stN (Xh cs name) t≠0->(Xh cs name)[stN (Xh cs name) t-1]? = some (Qfk name (cs.filter (thQ name t)))):=by
 refine Xf ?_ ?_
 . intro _ name t
   simp[Xh,stN]
 . intro cs e ih h name t
   have h1:Rise cs:=(List.pairwise_append.1 h).1;have h2:=(List.pairwise_append.1 h).2.2;obtain⟨i1,i2⟩:=ih h1 name t;obtain⟨r1,r2⟩:=Qk7 cs h1 name;rw[Qcx,List.filter_append];unfold Qgy Qix
   by_cases hn:name=e.item
   . rw[if_pos hn]
     subst hn;generalize hrow:Xh cs e.item=row at *
     have hle:∀ s∈row,s.at_<=e.at_:=fun s hs=>by
      obtain⟨e',he',h3,_⟩:=r2 s hs;have:=Q4l (h2 e' he' e (by simp));omega
     by_cases ht:e.at_<=t
     . have hq:thQ e.item t e=true:=by simp[thQ,ht]
       have hall:∀ s∈row ++ [Qgo row e],s.at_<=t:=fun s hs=>by
        rcases List.mem_append.1 hs with hs | hs
        . have:=hle s hs;omega
        . simp at hs;subst hs;unfold Qgo;rw[Qhk];exact ht
       have hN:stN row t=row.length:=Qj0 fun s hs=>hall s (by simp[hs])
       rw[Qj0 hall];refine⟨by simp[List.filter_cons,hq],fun _ => ?_⟩;simp only[List.filter_cons,hq,if_true,List.filter_nil,Qem];rw[List.length_append,List.length_singleton,Nat.add_sub_cancel,List.getElem?_append_right (Nat.le_refl _),Nat.sub_self];unfold Qgo;rw[hN] at i1 i2
       congr 2
       by_cases h0:row.length=0
       . have h3:=i1.1 h0
         rw[h3,List.length_eq_zero_iff.1 h0]
         rfl
       . rw[List.getLast?_eq_getElem?,i2 h0];rfl
     . have hq:thQ e.item t e=false:=by simp[thQ,ht]
       have hN:stN (row ++ [Qgo row e]) t=stN row t:=by
        unfold stN;rw[List.takeWhile_append]
        split
        . rw[List.takeWhile_cons_of_neg (by unfold Qgo;rw[Qhk];simpa using ht)]
          simp;omega
        . rfl
       rw[hN];simp only[List.filter_cons,hq,Bool.false_eq_true,if_false,List.filter_nil,List.append_nil];refine⟨i1,fun h0 => ?_⟩;have:=(Xbb row t).2.2;rw[List.getElem?_append_left (by omega)]
       exact i2 h0
   . rw[if_neg hn]
     have hq:thQ name t e=false:=by simp[thQ,Ne.symm hn]
     simp only[List.filter_cons,hq,Bool.false_eq_true,if_false,List.filter_nil,List.append_nil]
     exact⟨i1,i2⟩
theorem Qi3 {cs:List Ev} (h:Rise cs) (name:ByteArray) (t:Int):X5 cs name t=(Qjb name (cs.filter (thQ name t)),!(cs.filter (thQ name t)).isEmpty):=by
 obtain⟨h1,h2⟩:=Q6i cs h name t;unfold X5 Qjb
 by_cases h0:stN (Xh cs name) t=0
 . have h3:=h1.1 h0
   rw[h3,h0]
   cases (Xh cs name)[0-1]? <;> rfl
 . have h3:cs.filter (thQ name t) ≠ []:=fun h=>h0 (h1.2 h)
   rw[h2 h0];simp only[if_neg h0];generalize cs.filter (thQ name t)=F at h3
   cases F with
   | nil=>exact absurd rfl h3
   | cons a es=>rfl
theorem Qjp (cs:List Ev) (name:ByteArray) (t:Int) (A:Option Addr) (c:Nat) (w:World) (hs:SlE w A cs) (hl:cs.length<1000000) (hk:∀ e∈cs,thB e=true) (hm:∀ e∈cs,Xp e=true) :
 Cal Tryz.prog 54 [.slice A cs.length c,.string name,.int .i64 t] w fun r w'=>r = .tuple #[.agg (itC (Qjb name (cs.filter (thQ name t)))).toArray,.bool (!(cs.filter (thQ name t)).isEmpty)]/\Ext w w':=by
 refine Fi Tryz.func54 rfl _ rfl rfl (Hh ?_);intro b1 w1 hn1;conv=>whnf
 intro b2 w2 hn2;conv=>whnf
 have e1:=hn1.block;have e2:=hn2.block;have s1:=hn1.size;have s2:=hn2.size;refine Qg Qa (e:=ty103) rfl hn2.At rfl rfl rfl (by simp[Qr,Value.oneCell']) fun w3 h3 ho3 => ?_
 have h3:At w3 b2 _ (itC Qcp):=h3;have s3:=ho3.size;have hx3:Ext w w3:=ho3.ext (hn1.ext.trans hn2.ext) (by omega);have h31:At w3 b1 _ (itC Qcp):=ho3.at_ (hn1.At.ext hn2.ext) (by omega);clear hn1 hn2 ho3
 conv=>whnf
 refine Qd Qa (fun(k:Nat×List Ev) w'=>k.1<=cs.length/\Ext w w'/\w3.heap.size<=w'.heap.size/\k.2=(cs.take k.1).filter (thQ name t)/\At w' b1 103 (itC Qcp)/\At w' b2 103 (itC (Qjb name k.2)))
  (fun | (k,F) => [(0,.slice A cs.length c),(1,.string name),(2,.int .i64 t),(6,.pointer (some ⟨b1,0,none⟩)),(8,.pointer (some ⟨b2,0,none⟩)),(9,.bool (!F.isEmpty)),(10,.bool (Qfk name F).born),(11,.int .i64 k)]) (fun k=>cs.length-k.1) (0,[]) ⟨by simp,hx3,Nat.le_refl _,rfl,h31,h3⟩ Rr ?_
 clear h31 h3 hx3;rintro ⟨k,F⟩ w4 ⟨hkl,hx4,hz4,hF,h41,h42⟩;simp only at hkl hF h42
 conv=>whnf
 constructor
 . intro hc
   have hc:k<cs.length:=by simpa using hc
   obtain⟨a2,rfl,hce⟩:=(hs.ext hx4).get hc;have htk:=Xl cs k hc;have hke:=hk cs[k] (List.getElem_mem hc);have hme:=hm cs[k] (List.getElem_mem hc);generalize cs[k]=e at hce htk hke hme;have htx:=Qb9 hme
   have hsn:(cs.take (k+1)).filter (thQ name t)=F++if thQ name t e then [e] else []:=by
    rw[htk,hF];rw[List.filter_append]
    cases h:thQ name t e <;> simp[List.filter_cons,h]
   conv=>whnf
   repeat(refine Sg ?_;(conv=>whnf))
   refine⟨a2,Ix,Hh ?_⟩;refine⟨evC e,⟨rfl,hce⟩,Hh ?_⟩;intro b5 w5 hn5;conv=>whnf
   have e5:=hn5.block;have s5:=hn5.size;refine Qg Qa (e:=ty66) rfl hn5.At rfl rfl rfl (by simp[Qr,evC,Value.oneCell']) fun w6 h6 ho6 => ?_
   have h6:At w6 b5 _ (evC e):=h6;have s6:=ho6.size;have hx46:Ext w4 w6:=ho6.ext hn5.ext (by omega);have hx6:=hx4.trans hx46;have h61:=h41.ext hx46;have h62:=h42.ext hx46;have b2l:=h42.lt;have b1l:=h41.lt;clear hn5 ho6 hce h41 h42 hx46 hx4
   conv=>whnf
   refine⟨_,h6.one rfl,Hh ?_⟩;refine⟨_,fun _=>h6.one rfl,Hh ?_⟩;constructor
   . intro hq
     have hq:thQ name t e=false:=by
      revert hq;unfold thQ
      by_cases k1:e.item=name <;> by_cases k2:e.at_<=t <;> simp[k1,k2] <;> omega
     rw[hq] at hsn;simp only[Bool.false_eq_true,if_false,List.append_nil] at hsn
     conv=>whnf
     refine⟨_,wrap_succ (by omega),Hh ?_⟩
     exact⟨(k+1,F),by simp only;omega,⟨by simp only;omega,hx6,by omega,hsn.symm,h61,h62⟩,Rr⟩
   . intro hq
     have hq:thQ name t e=true:=by
      revert hq;unfold thQ
      by_cases k1:e.item=name <;> by_cases k2:e.at_<=t <;> simp[k1,k2] <;> omega
     rw[hq,if_pos rfl] at hsn;have hF1:(!(F ++ [e]).isEmpty)=true:=by cases F <;> rfl
     have hit:Qjb name (F ++ [e])=(Qa0 (Qfk name F) e).item:=by
      unfold Qjb;rw[Qem,if_neg (by simp)]
     have hst:=Qem name F e;have hnm:=Q39 name F;generalize hT1:F ++ [e]=F1 at hsn hF1 hit hst;generalize Qjb name F=i0 at h62 hnm;generalize hs0:Qfk name F=s0 at hnm hit hst ⊢;generalize hs1:Qfk name F1=s1 at hst;subst hst
     have hfin:∀ w',Ext w w'->w4.heap.size<=w'.heap.size->At w' b1 103 (itC Qcp)->At w' b2 103 (itC (Qa0 s0 e).item)->k+1<=cs.length/\Ext w w'/\w3.heap.size<=w'.heap.size/\F1=(cs.take (k+1)).filter (thQ name t)/\At w' b1 103 (itC Qcp)/\At w' b2 103 (itC (Qjb name F1)) :=
      fun w' q1 q2 q3 q4=>⟨by omega,q1,by omega,hsn.symm,q3,by rw[hit];exact q4⟩
     conv=>whnf
     refine Qg Qa (e:=ty9) rfl h62 rfl rfl rfl (by simp[Qr,Value.oneCell']) fun w7 h7 ho7 => ?_
     have h7:At w7 b2 _ (itC { i0 with name:=name }):=h7;rw[hnm] at h7;have s7:=ho7.size;have hx7:=ho7.ext hx6 (by omega);have h71:=ho7.at_ h61 (by omega);have h75:=ho7.at_ h6 (by omega);clear h62 h61 h6 ho7 hx6 hnm
     conv=>whnf
     refine⟨_,h75.one rfl,Hh ?_⟩;refine⟨fun k1 => ?_,fun k1 => ?_⟩
     . have k1:e.kind=11:=by simpa using k1
       conv=>whnf
       refine Dr (.mods (fun k=>k=b2)) [0,1,3,4,6,7,8,2,5,9,10,11,12,13,14] [15] (Hh ?_);replace h75:At w7.drew b5 _ _:=h75;replace h71:At w7.drew b1 _ _:=h71;replace h7:At w7.drew b2 _ _:=h7;replace hx7:=hx7.drew;replace s7:w7.drew.heap.size=w6.heap.size:=s7;generalize w7.drew=w8 at h75 h71 h7 hx7 s7 ⊢;have hne:b5≠b2:=by omega
       refine⟨_,⟨h75.one rfl,by rw[add_block];exact hne⟩,Hh ?_⟩;refine⟨_,⟨h75.one rfl,by rw[add_block];exact hne⟩,Hh ?_⟩;refine⟨_,⟨h75.one rfl,by rw[add_block];exact hne⟩,Hh ?_⟩;refine(Qnx e.text w8 (by omega)).mono ?_;rintro _ _ ⟨rfl,rfl⟩;refine⟨Mod.refl _ _,Hh ?_⟩;refine(Qt9 e.text _ (by omega)).mono ?_;rintro _ _ ⟨rfl,rfl⟩;refine⟨Mod.refl _ _,Hh ?_⟩;refine Qg Qa (e:=ty4) rfl h7 rfl rfl rfl (by simp[Qr,Value.oneCell']) fun w9 h9 ho9 => ?_
       refine⟨Qq ho9 rfl,Hh ?_⟩;refine Qg Qa (e:=ty9) rfl h9 rfl rfl rfl (by simp[Qr,Value.oneCell']) fun w10 h10 ho10 => ?_
       refine⟨Qq ho10 rfl,Hh ?_⟩;refine Qg Qa (e:=ty9) rfl h10 rfl rfl rfl (by simp[Qr,Value.oneCell']) fun w11 h11 ho11 => ?_
       refine⟨Qq ho11 rfl,Hh ?_⟩;refine Qg Qa (e:=ty3) rfl h11 rfl rfl rfl (by simp[Qr,Value.oneCell']) fun w12 h12 ho12 => ?_
       have h12:At w12 b2 _ (itC { s0.item with listed:=true,maker:=Qaz e.text,tags:=Qap e.text,price:=e.val }):=h12;have t9:=ho9.size;have t10:=ho10.size;have t11:=ho11.size;have t12:=ho12.size;have hx12:=ho12.ext (ho11.ext (ho10.ext (ho9.ext hx7 (by omega)) (by omega)) (by omega)) (by omega);have h121:=ho12.at_ (ho11.at_ (ho10.at_ (ho9.at_ h71 (by omega)) (by omega)) (by omega)) (by omega);have h125:=ho12.at_ (ho11.at_ (ho10.at_ (ho9.at_ h75 (by omega)) (by omega)) (by omega)) (by omega);clear h7 h71 h75 h9 h10 h11 ho9 ho10 ho11 ho12 hx7
       conv=>whnf
       constructor
       . intro hb
         have hb:s0.born=false:=by rw[<- hs0];simpa using hb
         conv=>whnf
         refine⟨_,h125.one rfl,Hh ?_⟩;refine Qg Qa (e:=ty3) rfl h12 rfl rfl rfl (by simp[Qr,Value.oneCell']) fun w13 h13 ho13 => ?_
         have s13:=ho13.size
         conv=>whnf
         refine⟨_,wrap_succ (by omega),Hh ?_⟩;refine⟨(k+1,F1),by simp only;omega,hfin _ (ho13.ext hx12 (by omega)) (by omega) (ho13.at_ h121 (by omega)) ?_,⟨rfl,rfl,rfl,rfl,rfl,by rw[hF1];rfl,?_,rfl,trivial⟩⟩
         . unfold Qa0
           rw[if_pos k1,hb]
           exact h13
         . show some (Value.bool true)=some (Value.bool (Qfk name F1).born)
           rw[hs1];unfold Qa0;rw[if_pos k1]
       . intro hb
         have hb:s0.born=true:=by rw[<- hs0];simpa using hb
         conv=>whnf
         refine⟨_,wrap_succ (by omega),Hh ?_⟩;refine⟨(k+1,F1),by simp only;omega,hfin _ hx12 (by omega) h121 ?_,⟨rfl,rfl,rfl,rfl,rfl,by rw[hF1];rfl,?_,rfl,trivial⟩⟩
         . unfold Qa0
           rw[if_pos k1,hb]
           exact h12
         . show some (Value.bool (Qfk name F).born)=some (Value.bool (Qfk name F1).born)
           rw[hs1,hs0];unfold Qa0;rw[if_pos k1,hb]
     . have k1:¬ e.kind=11:=by simpa using k1
       conv=>whnf
       constructor
       . intro k2
         have k2:e.kind=13:=by simpa using k2
         conv=>whnf
         refine Qg Qa (e:=ty4) rfl h7 rfl rfl rfl (by simp[Qr,Value.oneCell']) fun w13 h13 ho13 => ?_
         have s13:=ho13.size
         conv=>whnf
         refine⟨_,wrap_succ (by omega),Hh ?_⟩;refine⟨(k+1,F1),by simp only;omega,hfin _ (ho13.ext hx7 (by omega)) (by omega) (ho13.at_ h71 (by omega)) ?_,⟨rfl,rfl,rfl,rfl,rfl,by rw[hF1];rfl,?_,rfl,trivial⟩⟩
         . unfold Qa0
           rw[if_neg k1,if_neg (by omega)]
           exact h13
         . show some (Value.bool (Qfk name F).born)=some (Value.bool (Qfk name F1).born)
           rw[hs1,hs0];unfold Qa0;rw[if_neg k1,if_neg (by omega)]
       . intro k2
         have k2:¬ e.kind=13:=by simpa using k2
         have k3:e.kind=12:=by unfold thB at hke;simp at hke;omega
         conv=>whnf
         refine⟨fun _ => ?_,fun h=>(by simp at h;omega)⟩
         conv=>whnf
         refine⟨_,h75.one rfl,Hh ?_⟩;refine Qg Qa (e:=ty3) rfl h7 rfl rfl rfl (by simp[Qr,Value.oneCell']) fun w13 h13 ho13 => ?_
         have s13:=ho13.size
         conv=>whnf
         refine⟨_,wrap_succ (by omega),Hh ?_⟩;refine⟨(k+1,F1),by simp only;omega,hfin _ (ho13.ext hx7 (by omega)) (by omega) (ho13.at_ h71 (by omega)) ?_,⟨rfl,rfl,rfl,rfl,rfl,by rw[hF1];rfl,?_,rfl,trivial⟩⟩
         . unfold Qa0
           rw[if_neg k1,if_pos k3]
           exact h13
         . show some (Value.bool (Qfk name F).born)=some (Value.bool (Qfk name F1).born)
           rw[hs1,hs0];unfold Qa0;rw[if_neg k1,if_pos k3]
 . intro hc
   have hc:cs.length<=k:=by simpa using hc
   rw[List.take_of_length_le hc] at hF;rw[<- hF];have b1l:=h41.lt
   conv=>whnf
   refine⟨_,⟨rfl,h42.all⟩,Hh ?_⟩;refine Qg Qa (e:=ty103) rfl h41 rfl rfl rfl (by simp[Qr,itC,Value.oneCell']) fun w6 h6 ho6 => ?_
   have h6:At w6 b1 _ (itC (Qjb name F)):=h6
   conv=>whnf
   refine⟨_,⟨rfl,h6.all⟩,Hh ?_⟩
   exact⟨rfl,ho6.ext hx4 (by omega)⟩
structure Sto {α:Type} (lt:α->α->Bool):Prop where
 irrefl:∀ a,lt a a=false
 trans:∀ {a b c},lt a b=true->lt b c=true->lt a c=true
 tri:∀ {a b},lt a b=false->lt b a=false->a=b
theorem Qmn:Sto bLt:=⟨X6,Qaw,Qby⟩
def SG {α:Type} (lt:α->α->Bool) (l:List α):Prop:=l.Pairwise fun x y=>lt x y=true
theorem SG.nodup {α:Type} {lt:α->α->Bool} (O:Sto lt) {l:List α} (h:SG lt l):l.Nodup:=h.imp fun h e=>by rw[e,O.irrefl] at h;cases h
theorem Qu0 {α:Type} {lt:α->α->Bool} (O:Sto lt) {a b:α} (h:lt a b=true):lt b a=false:=by
 cases hb:lt b a with
 | false=>rfl
 | true=>have:=O.trans h hb;rw[O.irrefl] at this;cases this
theorem Qjs {α:Type} {lt:α->α->Bool} (O:Sto lt) {l m:List α} (h1:SG lt l) (h2:SG lt m) (hm:∀ x,x∈l↔x∈m):l=m :=
 List.Perm.eq_of_pairwise (le:=fun a b=>lt b a=false) (fun a b _ _ h1 h2=>O.tri h2 h1) (h1.imp fun h=>Qu0 O h) (h2.imp fun h=>Qu0 O h) (Qe8 (h1.nodup O) (h2.nodup O) (fun x hx=>(hm x).1 hx) fun x hx=>(hm x).2 hx)
section
variable {α:Type} [DecidableEq α] {lt:α->α->Bool}
def Qez (lt:α->α->Bool) (l:List α) (a:α):List α :=
 if(l.dropWhile fun x=>lt x a).head? = some a then l else l.takeWhile (fun x=>lt x a)++a :: l.dropWhile (fun x=>lt x a)
theorem Qq8 (a:α):Qez lt [] a = [a]:=by simp[Qez]
theorem Qne (x:α) (l:List α) (a:α):Qez lt (x :: l) a=if lt x a=true then x :: Qez lt l a else if x=a then x :: l else a :: x :: l:=by
 unfold Qez;rw[List.takeWhile_cons,List.dropWhile_cons]
 cases h:lt x a with
 | true =>
   simp only[if_true]
   split <;> simp
 | false =>
   simp only[Bool.false_eq_true,if_false,List.head?_cons,Option.some.injEq,List.nil_append]
theorem Qhw {x a:α}:∀ {l:List α},x∈Qez lt l a↔x∈l\/x=a
 | []=>by rw[Qq8];simp
 | y :: l=>by
   have ih:=Qhw (x:=x) (a:=a) (l:=l);rw[Qne]
   split
   . rw[List.mem_cons,ih,List.mem_cons];exact or_assoc.symm
   . split
     . next h =>
       subst h;constructor
       . exact .inl
       . rintro (h | rfl)
         . exact h
         . simp
     . rw[List.mem_cons];exact or_comm
theorem Qwo (O:Sto lt) {a:α}:∀ {l:List α},SG lt l->SG lt (Qez lt l a)
 | [],_=>by rw[Qq8];exact List.pairwise_singleton _ _
 | y :: l,h=>by
   have h':=List.pairwise_cons.1 h;have ih:=Qwo O (a:=a) h'.2;rw[Qne]
   split
   . next hy =>
     refine List.pairwise_cons.2 ⟨fun x hx => ?_,ih⟩;rcases Qhw.1 hx with hx | rfl
     . exact h'.1 x hx
     . exact hy
   . next hy =>
     split
     . exact h
     . next hne =>
       have hay:lt a y=true:=by
        cases hq:lt a y with
        | true=>rfl
        | false=>exact absurd (O.tri (by simpa using hy) hq) hne
       refine List.pairwise_cons.2 ⟨fun x hx => ?_,h⟩;rcases List.mem_cons.1 hx with rfl | hx
       . exact hay
       . exact O.trans hay (h'.1 x hx)
def Qcn (lt:α->α->Bool) (l:List α):List α:=l.foldl (Qez lt) []
theorem Qf9 (l:List α) (a:α):Qcn lt (l ++ [a])=Qez lt (Qcn lt l) a:=by unfold Qcn;rw[List.foldl_append];rfl
theorem Qkh {x:α}:∀ l:List α,x∈Qcn lt l↔x∈l:=by
 refine Xf (by simp[Qcn]) fun l a ih => ?_
 rw[Qf9,Qhw,ih,List.mem_append,List.mem_singleton]
theorem Q37 (O:Sto lt):∀ l:List α,SG lt (Qcn lt l):=by
 refine Xf List.Pairwise.nil fun l a ih => ?_
 rw[Qf9]
 exact Qwo O ih
theorem Qmb (a:α):∀ l:List α,(Qez lt l a).length<=l.length+1
 | []=>by rw[Qq8];simp
 | y :: l=>by
   have ih:=Qmb a l;rw[Qne]
   split
   . simp;omega
   . split <;> simp
theorem Qfu:∀ l:List α,(Qcn lt l).length<=l.length:=by
 refine Xf (by simp[Qcn]) fun l a ih => ?_
 rw[Qf9];have:=Qmb (lt:=lt) a (Qcn lt l)
 simp;omega
end
theorem Qlo {l:List ByteArray} (h:l.Nodup):SG bLt (Qah l):=by
 have h1:=Qju l;have h2:(Qah l).Pairwise (· ≠ ·):=List.nodup_iff_pairwise_ne.1 ((Qdn l).nodup_iff.2 h);refine(List.Pairwise.and h1 h2).imp ?_;rintro a b ⟨h3,h4⟩
 cases hc:bLt a b with
 | true=>rfl
 | false=>exact absurd (Qby hc h3) h4
theorem Qun {l:List Int} (h:l.Nodup):(Qe6 l).Pairwise (· < ·):=by
 have h1:=Qn8 l;have h2:(Qe6 l).Pairwise (· ≠ ·):=List.nodup_iff_pairwise_ne.1 ((Qel l).nodup_iff.2 h);refine(List.Pairwise.and h1 h2).imp ?_;rintro a b ⟨h3,h4⟩;omega
theorem Qb3 (l:List ByteArray):SG bLt (Qbp l):=Qlo (Qfn l)
theorem Qq9 (l:List ByteArray) (s:ByteArray):Qez bLt (Qbp l) s=Qbp (l ++ [s]) :=
 Qjs Qmn (Qwo Qmn (Qb3 l)) (Qb3 _) fun x=>by rw[Qhw,X7,X7,List.mem_append,List.mem_singleton]
theorem Qui (l:List ByteArray):Qbp (Qbp l)=Qbp l:=Qkz fun x=>X7
abbrev Ad3:=ByteArray×Int×ByteArray
def adE (e:Ev):Ad3:=(e.person,e.at_,e.item)
def ahB (a b:Ad3):Bool:=if a.1=b.1 then(if a.2.1=b.2.1 then bLt a.2.2 b.2.2 else decide (a.2.1<b.2.1)) else bLt a.1 b.1
theorem Qmw {a b:Ad3}:ahB a b=true↔bLt a.1 b.1=true\/(a.1=b.1/\(a.2.1<b.2.1\/(a.2.1=b.2.1/\bLt a.2.2 b.2.2=true))):=by
 unfold ahB
 by_cases h1:a.1=b.1
 . have hi:bLt a.1 b.1=false:=by rw[h1];exact X6 _
   rw[if_pos h1]
   by_cases h2:a.2.1=b.2.1
   . rw[if_pos h2]
     constructor
     . intro h;exact .inr ⟨h1,.inr ⟨h2,h⟩⟩
     . rintro (h | ⟨_,h | ⟨_,h⟩⟩)
       . rw[hi] at h;cases h
       . omega
       . exact h
   . rw[if_neg h2,decide_eq_true_eq]
     constructor
     . intro h;exact .inr ⟨h1,.inl h⟩
     . rintro (h | ⟨_,h | ⟨h,_⟩⟩)
       . rw[hi] at h;cases h
       . exact h
       . exact absurd h h2
 . rw[if_neg h1]
   constructor
   . exact .inl
   . rintro (h | ⟨h,_⟩)
     . exact h
     . exact absurd h h1
theorem Q9t:Sto ahB where
 irrefl a:=by unfold ahB;rw[if_pos rfl,if_pos rfl];exact X6 _
 trans:=by
  intro a b c h k;rw[Qmw] at *;rcases h with h | ⟨h,h'⟩ <;> rcases k with k | ⟨k,k'⟩
  . exact .inl (Qaw h k)
  . exact .inl (k ▸ h)
  . exact .inl (h ▸ k)
  . refine .inr ⟨h.trans k,?_⟩
    rcases h' with h' | ⟨h',h2⟩ <;> rcases k' with k' | ⟨k',k2⟩
    . exact .inl (by omega)
    . exact .inl (by omega)
    . exact .inl (by omega)
    . exact .inr ⟨by omega,Qaw h2 k2⟩
 tri:=by
  intro a b h k;obtain⟨a1,a2,a3⟩:=a;obtain⟨b1,b2,b3⟩:=b;rw[<- Bool.not_eq_true,Qmw] at h k;simp only at h k;have e1:a1=b1:=Qby (by rw[<- Bool.not_eq_true];exact fun x=>h (.inl x)) (by rw[<- Bool.not_eq_true];exact fun x=>k (.inl x));subst e1
  have e2:a2=b2:=by
   rcases Int.lt_trichotomy a2 b2 with x | x | x
   . exact absurd (.inr ⟨rfl,.inl x⟩) h
   . exact x
   . exact absurd (.inr ⟨rfl,.inl x⟩) k
  subst e2;have e3:a3=b3:=Qby (by rw[<- Bool.not_eq_true];exact fun x=>h (.inr ⟨rfl,.inr ⟨rfl,x⟩⟩)) (by rw[<- Bool.not_eq_true];exact fun x=>k (.inr ⟨rfl,.inr ⟨rfl,x⟩⟩));rw[e3]
def tks (ss:Ses) (p:ByteArray):Qe3:=(Qe ss p).getD []
theorem Qmq (s:Ses) (P I:ByteArray) (T:Int) (p:ByteArray):tks (Q6v s P T I) p=if p=P then Xr (tks s P) T (Xr ((Qe (tks s P) T).getD []) I true) else tks s p:=by
 unfold tks Q6v;rw[X0]
 split <;> rfl
theorem Qgv {κ β:Type} [DecidableEq κ] {k x:κ} {v:β} {l:List (κ×β)}:x∈(Xr l k v).map (·.1)↔x∈l.map (·.1)\/x=k:=by
 rw[Qgw]
 split
 . next h =>
   constructor
   . exact .inl
   . rintro (h1 | rfl)
     . exact h1
     . exact h
 . rw[List.mem_append,List.mem_singleton]
theorem Qyg (m:Qe3) (T t:Int) (x:List (ByteArray×Bool)):X3 (Xr m T x) t=if t=T then x.map (·.1) else X3 m t:=by
 unfold X3;rw[X0]
 split <;> rfl
structure Q91 (ss:Ses) (l:List Ev):Prop where
 keys:ss.Pairwise (fun x y=>x.1≠y.1)
 ticks:∀ p,(tks ss p).Pairwise (fun x y=>x.1≠y.1)
 item:∀ p t i,i∈X3 (tks ss p) t↔∃ e∈l,e.person=p/\e.at_=t/\e.item=i
 tick:∀ p t,t∈(tks ss p).map (·.1)↔∃ e∈l,e.person=p/\e.at_=t
 person:∀ p,p∈ss.map (·.1)↔∃ e∈l,e.person=p
theorem Xba:∀ l:List Ev,Q91 (Qh5 l) l:=by
 refine Xf ⟨List.Pairwise.nil,fun p=>List.Pairwise.nil,fun p t i=>by simp[Qh5,tks,Qe,X3],fun p t=>by simp[Qh5,tks,Qe],fun p=>by simp[Qh5]⟩ fun l e ih => ?_
 rw[Qx2];refine⟨Qbk ih.keys,fun p => ?_,fun p t i => ?_,fun p t => ?_,fun p => ?_⟩
 . rw[Qmq]
   split
   . exact Qbk (ih.ticks _)
   . exact ih.ticks p
 . rw[Qmq]
   have hx:(∃ x∈l ++ [e],x.person=p/\x.at_=t/\x.item=i)↔(∃ x∈l,x.person=p/\x.at_=t/\x.item=i)\/(e.person=p/\e.at_=t/\e.item=i):=by
    constructor
    . rintro ⟨x,hx,h⟩
      rcases List.mem_append.1 hx with hx | hx
      . exact .inl ⟨x,hx,h⟩
      . rw[List.mem_singleton] at hx;subst hx;exact .inr h
    . rintro (⟨x,hx,h⟩ | h)
      . exact⟨x,by simp[hx],h⟩
      . exact⟨e,by simp,h⟩
   rw[hx,<- ih.item]
   by_cases hp:p=e.person
   . subst hp
     rw[if_pos rfl,Qyg]
     by_cases ht:t=e.at_
     . subst ht
       rw[if_pos rfl,Qgv];show (i∈X3 (tks (Qh5 l) e.person) e.at_\/i=e.item)↔_
       constructor
       . rintro (h | h)
         . exact .inl h
         . exact .inr ⟨rfl,rfl,h.symm⟩
       . rintro (h | ⟨_,_,h⟩)
         . exact .inl h
         . exact .inr h.symm
     . rw[if_neg ht]
       constructor
       . exact .inl
       . rintro (h | ⟨_,h,_⟩)
         . exact h
         . exact absurd h.symm ht
   . rw[if_neg hp]
     constructor
     . exact .inl
     . rintro (h | ⟨h,_⟩)
       . exact h
       . exact absurd h.symm hp
 . rw[Qmq]
   have hx:(∃ x∈l ++ [e],x.person=p/\x.at_=t)↔(∃ x∈l,x.person=p/\x.at_=t)\/(e.person=p/\e.at_=t):=by
    constructor
    . rintro ⟨x,hx,h⟩
      rcases List.mem_append.1 hx with hx | hx
      . exact .inl ⟨x,hx,h⟩
      . rw[List.mem_singleton] at hx;subst hx;exact .inr h
    . rintro (⟨x,hx,h⟩ | h)
      . exact⟨x,by simp[hx],h⟩
      . exact⟨e,by simp,h⟩
   rw[hx,<- ih.tick]
   by_cases hp:p=e.person
   . subst hp
     rw[if_pos rfl,Qgv];constructor
     . rintro (h | h)
       . exact .inl h
       . exact .inr ⟨rfl,h.symm⟩
     . rintro (h | ⟨_,h⟩)
       . exact .inl h
       . exact .inr h.symm
   . rw[if_neg hp]
     constructor
     . exact .inl
     . rintro (h | ⟨h,_⟩)
       . exact h
       . exact absurd h.symm hp
 . show p∈(Xr _ _ _).map (·.1)↔_
   rw[Qgv,ih.person];constructor
   . rintro (⟨x,hx,h⟩ | rfl)
     . exact⟨x,by simp[hx],h⟩
     . exact⟨e,by simp,rfl⟩
   . rintro ⟨x,hx,h⟩
     rcases List.mem_append.1 hx with hx | hx
     . exact .inl ⟨x,hx,h⟩
     . rw[List.mem_singleton] at hx;subst hx;exact .inr h.symm
def Qq3 (p:ByteArray) (k:Qe3) (t:Int):List Ad3:=(Qbp (X3 k t)).map fun i=>(p,t,i)
def Qwk (ss:Ses) (p:ByteArray):List Ad3:=(Qe6 ((tks ss p).map (·.1))).flatMap (Qq3 p (tks ss p))
def Q7s (ss:Ses):List Ad3:=(Qah (ss.map (·.1))).flatMap (Qwk ss)
theorem Qnk {β:Type} {L:List (Int×β)} (h:L.Pairwise (fun x y=>x.1≠y.1)):(L.map (·.1)).Nodup:=by
 rw[List.nodup_iff_pairwise_ne,List.pairwise_map];exact h
theorem Q7u (p:ByteArray) (k:Qe3) (t:Int):SG ahB (Qq3 p k t):=by
 unfold SG Qq3;rw[List.pairwise_map];refine List.Pairwise.imp ?_ (Qb3 (X3 k t));intro a b h
 exact Qmw.2 (.inr ⟨rfl,.inr ⟨rfl,h⟩⟩)
theorem Qi8 {p:ByteArray} {k:Qe3} {t:Int} {x:Ad3}:x∈Qq3 p k t↔x.1=p/\x.2.1=t/\x.2.2∈X3 k t:=by
 unfold Qq3;rw[List.mem_map];constructor
 . rintro ⟨i,hi,rfl⟩;exact⟨rfl,rfl,X7.1 hi⟩
 . rintro ⟨h1,h2,h3⟩;exact⟨x.2.2,X7.2 h3,by rw[<- h1,<- h2]⟩
theorem Q7r {ss:Ses} {l:List Ev} (h:Q91 ss l) (p:ByteArray):SG ahB (Qwk ss p):=by
 unfold SG Qwk;rw[List.pairwise_flatMap];refine⟨fun t _=>Q7u _ _ _,(Qun (Qnk (h.ticks p))).imp fun hlt x hx y hy => ?_⟩;obtain⟨x1,x2,_⟩:=Qi8.1 hx;obtain⟨y1,y2,_⟩:=Qi8.1 hy
 exact Qmw.2 (.inr ⟨x1.trans y1.symm,.inl (by omega)⟩)
theorem Qi7 {ss:Ses} {l:List Ev} (h:Q91 ss l) {p:ByteArray} {x:Ad3}:x∈Qwk ss p↔x.1=p/\∃ e∈l,adE e=x:=by
 unfold Qwk;rw[List.mem_flatMap];constructor
 . rintro ⟨t,_,hx⟩
   obtain⟨h1,h2,h3⟩:=Qi8.1 hx;obtain⟨e,he,e1,e2,e3⟩:=(h.item _ _ _).1 h3
   exact⟨h1,e,he,by unfold adE;rw[e1,e2,e3,<- h1,<- h2]⟩
 . rintro ⟨h1,e,he,rfl⟩
   refine⟨e.at_,Qn6.2 ((h.tick _ _).2 ⟨e,he,h1,rfl⟩),Qi8.2 ⟨h1,rfl,(h.item _ _ _).2 ⟨e,he,h1,rfl,rfl⟩⟩⟩
theorem Q7t (l:List Ev):Q7s (Qh5 l)=Qcn ahB (l.map adE):=by
 have h:=Xba l;refine Qjs Q9t ?_ (Q37 Q9t _) fun x => ?_
 . unfold SG Q7s
   rw[List.pairwise_flatMap];refine⟨fun p _=>Q7r h p,(Qlo (Qau h.keys)).imp fun hlt x hx y hy => ?_⟩;have h1:=((Qi7 h).1 hx).1;have h2:=((Qi7 h).1 hy).1
   exact Qmw.2 (.inl (by rw[h1,h2];exact hlt))
 . rw[Qkh]
   unfold Q7s;rw[List.mem_flatMap,List.mem_map];constructor
   . rintro ⟨p,_,hx⟩
     exact((Qi7 h).1 hx).2
   . rintro ⟨e,he,rfl⟩
     exact⟨e.person,Qhi.2 ((h.person _).2 ⟨e,he,rfl⟩),(Qi7 h).2 ⟨rfl,e,he,rfl⟩⟩
def Qam (gap:Int) (acc:List Sn) (a:Ad3):List Sn :=
 match acc.getLast? with
 | some g=>if g.person=a.1/\a.2.1-g.to_<=gap then acc.dropLast ++ [⟨a.1,g.from_,a.2.1,Qez bLt g.items a.2.2⟩] else acc ++ [⟨a.1,a.2.1,a.2.1,[a.2.2]⟩]
 | none=>acc ++ [⟨a.1,a.2.1,a.2.1,[a.2.2]⟩]
theorem Qgu (gap:Int) (acc:List Sn) (g:Sn) (a:Ad3):Qam gap (acc ++ [g]) a=if g.person=a.1/\a.2.1-g.to_<=gap then acc ++ [⟨a.1,g.from_,a.2.1,Qez bLt g.items a.2.2⟩] else(acc ++ [g]) ++ [⟨a.1,a.2.1,a.2.1,[a.2.2]⟩]:=by
 unfold Qam;rw[List.getLast?_append,List.getLast?_singleton,Option.some_or,List.dropLast_concat]
def allL (gap:Int) (L:List Ad3):List Sn:=L.foldl (Qam gap) []
theorem Qqk (gap:Int) (hg:0<=gap) (p:ByteArray) (t:Int):∀ (its:List ByteArray) (acc:List Sn) (f:Int) (X:List ByteArray),(its.map fun i=>((p,t,i):Ad3)).foldl (Qam gap) (acc ++ [⟨p,f,t,Qbp X⟩])=acc ++ [⟨p,f,t,Qbp (X++its)⟩]
 | [],acc,f,X=>by simp
 | i :: its,acc,f,X=>by
   have ih:=Qqk gap hg p t its acc f (X ++ [i]);rw[List.map_cons,List.foldl_cons,Qgu,if_pos ⟨rfl,by simp only;omega⟩,Qq9,ih]
   simp
theorem Q8t (i:ByteArray):Qbp [i] = [i]:=by simp[Qbp,Q3v,Qah]
theorem Q66 (gap:Int) (hg:0<=gap) (p:ByteArray) (k:Qe3) (t:Int) (hne:X3 k t ≠ []) :
 (∀ (acc:List Sn),(∀ g,acc.getLast? = some g->g.person≠p\/gap<t-g.to_)->(Qq3 p k t).foldl (Qam gap) acc=acc ++ [⟨p,t,t,Qbp (X3 k t)⟩]) /\
 (∀ (acc:List Sn) (f u:Int) (X:List ByteArray),t-u<=gap->(Qq3 p k t).foldl (Qam gap) (acc ++ [⟨p,f,u,Qbp X⟩])=acc ++ [⟨p,f,t,Qbp (X++X3 k t)⟩]):=by
 have hex:Qbp (X3 k t) ≠ []:=by
  intro h
  cases hq:X3 k t with
  | nil=>exact hne hq
  | cons y l =>
    have:y∈Qbp (X3 k t):=X7.2 (by rw[hq];simp);rw[h] at this
    simp at this
 unfold Qq3
 cases hs:Qbp (X3 k t) with
 | nil=>exact absurd hs hex
 | cons i its =>
   have hss:Qbp (i :: its)=Qbp (X3 k t):=by rw[<- hs,Qui]
   refine⟨fun acc hacc => ?_,fun acc f u X hu => ?_⟩
   . have h1:Qam gap acc (p,t,i)=acc ++ [⟨p,t,t,Qbp [i]⟩]:=by
      unfold Qam;rw[Q8t]
      cases hl:acc.getLast? with
      | none=>rfl
      | some g =>
        simp only;rw[if_neg];rintro ⟨h2,h3⟩;rcases hacc g hl with h | h
        . exact h h2
        . have h3:t-g.to_<=gap:=h3
          omega
     rw[List.map_cons,List.foldl_cons,h1,Qqk gap hg];rw[show [i]++its=i :: its from rfl,hss,hs]
   . rw[List.map_cons,List.foldl_cons,Qgu,if_pos ⟨rfl,hu⟩,Qq9,Qqk gap hg]
     have:Qbp (X ++ [i]++its)=Qbp (X++X3 k t):=Qkz fun x=>by
      have hx:x∈i :: its↔x∈X3 k t:=by rw[<- hs];exact X7
      have h4:x∈X ++ [i]++its↔x∈X\/x∈i :: its:=by simp[or_assoc]
      rw[h4,hx,List.mem_append]
     rw[this]
theorem Q0i (gap:Int) (hg:0<=gap) (p:ByteArray) (k:Qe3) (acc:List Sn) (hacc:∀ g,acc.getLast? = some g->g.person≠p):∀ ts:List Int,(∀ t∈ts,X3 k t ≠ [])->(ts.flatMap (Qq3 p k)).foldl (Qam gap) acc=acc++(Qgq gap k ts).map (Q6z p):=by
 refine Xf (fun _=>by simp[Qgq]) fun ts t ih h => ?_
 have ih:=ih fun x hx=>h x (by simp[hx])
 obtain⟨hA,hB⟩:=Q66 gap hg p k t (h t (by simp));rw[List.flatMap_append,List.foldl_append,ih,Qhv];simp only[List.flatMap_cons,List.flatMap_nil,List.append_nil];generalize Qgq gap k ts=G;clear ih;unfold Qdl
 cases hG:G.getLast? with
 | none =>
   have:G = []:=by simpa using hG
   subst this;simp only[List.map_nil,List.append_nil,List.map_cons];rw[hA acc fun g hl => .inl (hacc g hl)]
   rfl
 | some g =>
   obtain⟨G',rfl⟩:∃ G',G=G' ++ [g]:=by
    have:=List.getLast?_eq_some_iff.1 hG;obtain⟨ys,h⟩:=this
    exact⟨ys,h⟩
   simp only[List.dropLast_concat]
   by_cases hc:gap<t-g.2.1
   . rw[if_pos hc,hA _ fun g' hl => ?_]
     . simp[Q6z]
     . rw[List.map_append,<- List.append_assoc,List.map_cons,List.map_nil,List.getLast?_append,List.getLast?_singleton,Option.some_or] at hl
       injection hl with hl;subst hl
       exact .inr hc
   . rw[if_neg hc,List.map_append,<- List.append_assoc,List.map_cons,List.map_nil]
     rw[show Q6z p g=⟨p,g.1,g.2.1,Qbp g.2.2⟩ from rfl,hB _ _ _ _ (by omega),List.map_append,List.append_assoc]
     rfl
theorem Q59 {gap:Int} {ss:Ses} {p:ByteArray} {x:Sn} (h:x∈Qfz gap ss p):x.person=p:=by
 unfold Qfz at h;obtain⟨g,_,rfl⟩:=List.mem_map.1 h
 rfl
theorem Qpb (gap:Int) (hg:0<=gap) (ss:Ses) (hne:∀ p t,t∈(tks ss p).map (·.1)->X3 (tks ss p) t ≠ []):∀ (ps:List ByteArray) (acc:List Sn),ps.Nodup->(∀ g,acc.getLast? = some g->g.person∉ps)->(ps.flatMap (Qwk ss)).foldl (Qam gap) acc=acc++ps.flatMap (Qfz gap ss)
 | [],acc,_,_=>by simp
 | p :: ps,acc,hn,hl=>by
   rw[List.nodup_cons] at hn;rw[List.flatMap_cons,List.foldl_append,List.flatMap_cons];have h1:(Qwk ss p).foldl (Qam gap) acc=acc++Qfz gap ss p:=Q0i gap hg p (tks ss p) acc (fun g hg he=>hl g hg (by rw[he];simp)) _ fun t ht=>hne p t (Qn6.1 ht)
   rw[h1,Qpb gap hg ss hne ps _ hn.2 ?_,List.append_assoc];intro g hgl;rw[List.getLast?_append] at hgl
   cases hq:(Qfz gap ss p).getLast? with
   | none =>
     rw[hq,Option.none_or] at hgl
     exact fun hm=>hl g hgl (by simp[hm])
   | some x =>
     rw[hq,Option.some_or] at hgl;injection hgl with hgl;subst hgl;rw[Q59 (List.mem_of_getLast? hq)]
     exact hn.1
theorem Qk1 (gap:Int) (hg:0<=gap) (l:List Ev):allL gap (Qcn ahB (l.map adE))=Qhf gap (Qh5 l):=by
 have h:=Xba l;rw[<- Q7t];unfold allL Q7s Qhf;rw[Qpb gap hg (Qh5 l) (fun p t ht hne => ?_) _ [] ((Qdn _).nodup_iff.2 (Qau h.keys)) (by simp),List.nil_append];obtain⟨e,he,e1,e2⟩:=(h.tick p t).1 ht;have:=(h.item p t e.item).2 ⟨e,he,e1,e2,rfl⟩;rw[hne] at this
 simp at this
def Qe4 (i:Nat):Int:=((1048576/2 ^ i:Nat):Int)
theorem Qpn (i:Nat):Qe4 (i+1)=(Qe4 i).tdiv 2:=by
 unfold Qe4;rw[Int.tdiv_eq_ediv_of_nonneg (Int.natCast_nonneg _),Nat.pow_succ,<- Nat.div_div_eq_div_mul];generalize 1048576/2 ^ i=m;omega
theorem Qft {i:Nat} (h:21<=i):Qe4 i=0:=by
 unfold Qe4;have:2 ^ 21<=2 ^ i:=Nat.pow_le_pow_right (by omega) h;rw[Nat.div_eq_of_lt (by omega)]
 rfl
theorem Q31 {i:Nat} (h:i<=20):0<Qe4 i:=by
 unfold Qe4;have h1:2 ^ i<=2 ^ 20:=Nat.pow_le_pow_right (by omega) h;have h2:0<2 ^ i:=Nat.pow_pos (by omega);have:0<1048576/2 ^ i:=Nat.div_pos (by omega) h2;omega
theorem Qi9 (i:Nat):0<=Qe4 i/\Qe4 i<=1048576:=by
 unfold Qe4;have:=Nat.div_le_self 1048576 (2 ^ i);generalize 1048576/2 ^ i=m at this ⊢;omega
theorem Qoq {age half:Int} (h:¬ age<0):Xq age half=Qe4 (age/max half 1).toNat:=by
 unfold Xq;rw[if_neg h];have h2:0<=age/max half 1:=Int.ediv_nonneg (by omega) (by omega)
 split
 . rw[Qft (by omega)]
 . unfold Qe4
   rw[Int.fdiv_eq_ediv_of_nonneg _ (Int.le_of_lt (Int.pow_pos (by omega)))]
   simp
theorem Qh8 {age half:Int} (h:age<0):Xq age half=0:=by unfold Xq;rw[if_pos h]
theorem Qua (r:ByteArray):Qap (Qmj r)=r:=by
 have hl:(Qmj r).data.toList=59 :: r.data.toList:=by unfold Qmj;simp
 have hp:Qaj (Qmj r)=some 0:=by unfold Qaj;rw[hl];rfl
 unfold Qap;rw[hp];simp only
 apply Q3i
 have h2:∀ s:ByteArray,s.toList=s.data.toList:=fun s=>by rw[ByteArray.toList_eq]
 rw[h2,h2,Qe7,hl]
 have:(Qmj r).size=r.size+1:=by
  have:=congrArg List.length hl
  simpa using this
 rw[this]
 simp
 exact List.take_of_length_le (by simp)
theorem Q6o (s:ByteArray):Xd (Qmj (Qap s))=Xd s:=by rw[Qe1,Qua,Qe1 s]
theorem Qk3:Xd (Qmj ⟨#[]⟩) = []:=by rw[Qe1,Qua,if_pos rfl]
def Xbv (l:List ByteArray):Prop:=(∀ t∈l,Qn t=true)/\SG bLt l/\l.length<=8
theorem Xbg {l:List ByteArray} (h:Qgp l=true) (h8:l.length<=8):Xbv l:=by
 unfold Qgp at h;rw[List.all_eq_true] at h
 have hk:∀ i (hi:i<l.length),Qn l[i]=true/\(i=0\/bLt (l.getD (i-1) .empty) l[i]=true):=fun i hi=>by
  have:=h i (List.mem_range.2 hi);unfold Qoh at this;rw[getD_lt hi] at this
  simpa using this
 refine⟨fun t ht => ?_,?_,h8⟩
 . obtain⟨i,hi,rfl⟩:=List.getElem_of_mem ht
   exact(hk i hi).1
 . have hs:∀ d i (hi:i+d+1<l.length),bLt (l[i]'(by omega)) (l[i+d+1]'hi)=true:=by
    intro d
    induction d with
    | zero =>
      intro i hi;have:=(hk (i+1) hi).2;rw[Nat.add_sub_cancel,getD_lt (by omega)] at this;rcases this with h | h
      . omega
      . exact h
    | succ d ih =>
      intro i hi;have h1:=ih i (by omega);have:=(hk (i+(d+1)+1) hi).2;rw[show i+(d+1)+1-1=i+d+1 by omega,getD_lt (by omega)] at this;rcases this with h | h
      . omega
      . exact Qaw h1 h
   unfold SG;rw[List.pairwise_iff_getElem];intro i j hi hj hij;have:=hs (j-i-1) i (by omega);have e:i+(j-i-1)+1=j:=by omega
   simp only[e] at this
   exact this
theorem Xbc (name:ByteArray):∀ es:List Ev,(∀ e∈es,Xp e=true)->Xbv (Xd (Qmj (Qfk name es).item.tags)):=by
 refine Xf (fun _ => ?_) fun es e ih h => ?_
 . show Xbv (Xd (Qmj ⟨#[]⟩))
   rw[Qk3]
   exact⟨by simp,List.Pairwise.nil,by simp⟩
 . have ih:=ih fun x hx=>h x (by simp[hx])
   have he:=h e (by simp);rw[Qem];unfold Qa0
   split
   . next hk =>
     show Xbv (Xd (Qmj (Qap e.text)))
     rw[Q6o]
     have hl:Qbu e.text=true:=by
      rcases Qbd (Qb1.1 he).kind with hq | hq | hq | hq | hq | hq | hq
      all_goals first | (exfalso;omega) | exact hq.2.2.2.1
     unfold Qbu at hl;simp only[Bool.and_eq_true] at hl
     exact Xbg hl.2.1 (by simpa using hl.2.2)
   . split
     . exact ih
     . exact ih
theorem Qwq (name:ByteArray) (es:List Ev) (h:∀ e∈es,Xp e=true):Xbv (Xd (Qmj (Qjb name es).tags)):=by
 unfold Qjb
 split
 . show Xbv (Xd (Qmj ⟨#[]⟩))
   rw[Qk3]
   exact⟨by simp,List.Pairwise.nil,by simp⟩
 . exact Xbc name es h
def Qoj (cs:List Ev) (e:Ev):List ByteArray:=if e.item=⟨#[]⟩ then [] else Xd (Qmj (Qjb e.item (cs.filter (thQ e.item e.at_))).tags)
def Q15 (z:List Ev):List Ev×List Row:=z.foldl (fun s e=>(s.1 ++ [e],s.2++if peB e=true then [(e,Qoj (Qu s.1) e)] else [])) ([],[])
def Qha (z:List Ev):List Row:=(Q15 z).2
theorem Xa1:∀ z:List Ev,(Q15 z).1=z:=by
 refine Xf rfl fun z e ih => ?_
 unfold Q15 at *;rw[List.foldl_append];simp only[List.foldl_cons,List.foldl_nil];rw[ih]
theorem Qej (z:List Ev) (e:Ev):Qha (z ++ [e])=Qha z++if peB e=true then [(e,Qoj (Qu z) e)] else []:=by
 have h:=Xa1 z;unfold Qha Q15 at *;rw[List.foldl_append];simp only[List.foldl_cons,List.foldl_nil];rw[h]
theorem Q5z (z:List Ev):(Qha z).map (·.1)=Qfi z:=by
 induction z using Xf with
 | h0=>rfl
 | h1 z e ih =>
   rw[Qej];unfold Qfi at *;rw[List.filter_append,List.map_append,ih]
   cases h:peB e <;> simp[h]
theorem Qx8 {l:List ByteArray} {t x:ByteArray}:x∈Qb4 l t↔x∈l\/(x=t/\Qn t=true):=by
 unfold Qb4
 split
 . next h =>
   rw[List.mem_append,List.mem_singleton];have hn:Qn t=true:=by simp at h;exact h.1
   simp[hn]
 . next h =>
   constructor
   . exact .inl
   . rintro (h1 | ⟨rfl,h2⟩)
     . exact h1
     . rw[h2,Bool.true_and,Bool.not_eq_true,Bool.not_eq_false',Lib.containsS_iff] at h
       exact h
theorem Qu5 {x:ByteArray} (tg:List ByteArray):x∈Qbt tg↔x∈tg/\Qn x=true:=by
 have:∀ (tg l:List ByteArray),x∈tg.foldl Qb4 l↔x∈l\/(x∈tg/\Qn x=true):=by
  intro tg
  induction tg with
  | nil=>intro l;simp
  | cons t tg ih =>
    intro l;rw[List.foldl_cons,ih,Qx8,List.mem_cons];constructor
    . rintro ((h | ⟨rfl,h⟩) | ⟨h1,h2⟩)
      . exact .inl h
      . exact .inr ⟨.inl rfl,h⟩
      . exact .inr ⟨.inr h1,h2⟩
    . rintro (h | ⟨rfl | h1,h2⟩)
      . exact .inl (.inl h)
      . exact .inl (.inr ⟨rfl,h2⟩)
      . exact .inr ⟨h1,h2⟩
 unfold Qbt;rw[this]
 simp
theorem Qx9 (tg:List ByteArray):(Qbt tg).Nodup:=by
 have:∀ (tg l:List ByteArray),l.Nodup->(tg.foldl Qb4 l).Nodup:=by
  intro tg
  induction tg with
  | nil=>intro l h;exact h
  | cons t tg ih =>
    intro l h;rw[List.foldl_cons];refine ih _ ?_;unfold Qb4
    split
    . next hc =>
      have hn:t∉l:=by
       intro hm;have:=(Lib.containsS_iff _ _).2 hm;rw[this] at hc
       simp at hc
      rw[List.nodup_append];refine⟨h,by simp,?_⟩;intro a ha b hb;rw[List.mem_singleton] at hb;subst hb
      exact fun e=>hn (e ▸ ha)
    . exact h
 exact this tg [] List.nodup_nil
theorem Qd2 {z:List Ev} (h:∀ e∈z,Xp e=true):∀ e∈Qu z,Xp e=true:=fun e he=>h e (List.mem_filter.1 he).1
theorem Qh6 {z:List Ev} (h:Rise z):Rise (Qu z):=h.sublist List.filter_sublist
theorem Q6n {cs:List Ev} (hr:Rise cs) (hm:∀ e∈cs,Xp e=true) (ht:∀ e∈cs,thB e=true) (e:Ev) (x:ByteArray):x∈Qbt (Qbj cs e)↔x∈Qoj cs e:=by
 have hsub:∀ y∈cs.filter (thQ e.item e.at_),Xp y=true:=fun y hy=>hm y (List.mem_filter.1 hy).1
 have htg:=Qwq e.item (cs.filter (thQ e.item e.at_)) hsub;rw[Qu5];unfold Qbj Qoj;rw[Qi3 hr];simp only
 by_cases h0:cs.filter (thQ e.item e.at_) = []
 . rw[h0]
   simp only[List.isEmpty_nil,Bool.not_true,Bool.false_eq_true,if_false,List.not_mem_nil,false_and];have:Xd (Qmj (Qjb e.item []).tags) = []:=Qk3;rw[this]
   simp
 . have h1:(cs.filter (thQ e.item e.at_)).isEmpty=false:=by simpa using h0
   rw[h1];simp only[Bool.not_false,if_true]
   have h2:e.item≠⟨#[]⟩:=by
    intro hi
    cases hq:cs.filter (thQ e.item e.at_) with
    | nil=>exact h0 hq
    | cons y l =>
      have hy:y∈cs.filter (thQ e.item e.at_):=by rw[hq];simp
      have hyc:=List.mem_filter.1 hy
      have hyi:y.item=e.item:=by
       have:=hyc.2;unfold thQ at this
       simp at this
       exact this.1
      have hyn:Qn y.item=true:=by
       have hk:=ht y hyc.1;unfold thB at hk;simp only[decide_eq_true_eq] at hk;rcases Qbd (Qb1.1 (hm y hyc.1)).kind with hq | hq | hq | hq | hq | hq | hq
       all_goals first | (exfalso;omega) | exact hq.2.2.1
      rw[hyi,hi] at hyn
      exact absurd hyn (by decide)
   rw[if_neg h2];constructor
   . exact fun h=>h.1
   . exact fun h=>⟨h,htg.1 x h⟩
def Qsv (half now:Int) (R:List Row) (t:ByteArray):Int:=((R.filter fun r=>decide (t∈r.2)).map fun r=>Ql1 half now r.1).sum
theorem Qu8 (half now:Int) (R:List Row) (r:Row) (t:ByteArray):Qsv half now (R ++ [r]) t=Qsv half now R t+if t∈r.2 then Ql1 half now r.1 else 0:=by
 unfold Qsv;rw[List.filter_append,List.map_append,List.sum_append]
 by_cases h:t∈r.2 <;> simp[h]
theorem Qny (R:List Row) (r:Row) (person:ByteArray):rowsOf (R ++ [r]) person=rowsOf R person++if r.1.person=person then [r] else []:=by
 unfold rowsOf;rw[List.filter_append]
 by_cases h:r.1.person=person <;> simp[h]
theorem Qqw (width:Int) (z:List Ev) (e:Ev):(Ql width (z ++ [e])).rs=(Ql width z).rs++if peB e=true then [(e,Qbt (Qbj (Qu z) e))] else []:=by
 have hc:=(Qeu width z).1;rw[Qc7];unfold Qd7 peB thB
 by_cases h1:e.kind=11\/e.kind=12\/e.kind=13
 . simp[h1]
 . rw[if_neg h1]
   by_cases h2:e.kind=14
   . simp[h2]
   . rw[if_neg h2,<- hc]
     simp only[h1,h2,decide_false,Bool.not_false,Bool.and_self,if_true]
     split <;> rfl
theorem Q80 (width half now:Int) (person t:ByteArray):∀ z:List Ev,Rise z->(∀ e∈z,Xp e=true)->Q61 half now (rowsOf (Ql width z).rs person) t=Qsv half now (rowsOf (Qha z) person) t:=by
 refine Xf (fun _ _=>by simp[Ql,Q0e,rowsOf,Q61,Qsv,Qha,Q15]) fun z e ih hr hm => ?_
 have hr1:Rise z:=(List.pairwise_append.1 hr).1;have hm1:∀ x∈z,Xp x=true:=fun x hx=>hm x (by simp[hx])
 have ih:=ih hr1 hm1;rw[Qqw,Qej]
 cases hp:peB e with
 | false=>simpa using ih
 | true =>
   rw[if_pos rfl,if_pos rfl,Qny,Qny];simp only
   by_cases hq:e.person=person
   . rw[if_pos hq,if_pos hq,Qu8,<- ih]
     have hs:=Q6n (Qh6 hr1) (Qd2 hm1) (fun x hx=>(List.mem_filter.1 hx).2) e t;unfold Q61;rw[List.filter_append,List.map_append,List.sum_append]
     congr 1
     by_cases h1:t∈Qoj (Qu z) e
     . rw[if_pos h1]
       by_cases h2:e.at_<=now
       . simp[h2,hs.2 h1]
       . have:Ql1 half now e=0:=by
          unfold Ql1;rw[Qh8 (by omega)]
          simp
         simp[h2,this]
     . rw[if_neg h1]
       have h3:¬ t∈Qbt (Qbj (Qu z) e):=fun h=>h1 (hs.1 h)
       simp[h3]
   . rw[if_neg hq,if_neg hq,List.append_nil,List.append_nil,ih]
theorem Qf6 (width:Int):∀ z:List Ev,Rise z->(∀ e∈z,Xp e=true)->∀ r∈(Ql width z).rs,Xp r.1=true/\r.2.Nodup/\r.2.length<=8:=by
 refine Xf (fun _ _ r hr=>by simp[Ql,Q0e] at hr) fun z e ih hR hm => ?_
 have hr1:Rise z:=(List.pairwise_append.1 hR).1;have hm1:∀ x∈z,Xp x=true:=fun x hx=>hm x (by simp[hx])
 have ih:=ih hr1 hm1;rw[Qqw];intro r hr;rcases List.mem_append.1 hr with hr | hr
 . exact ih r hr
 . split at hr
   . rw[List.mem_singleton] at hr
     subst hr;refine⟨hm e (by simp),Qx9 _,Nat.le_trans (Qu4 _) ?_⟩;unfold Qbj
     split
     . rw[Qi3 (Qh6 hr1)]
       exact(Qwq e.item _ fun y hy=>Qd2 hm1 y (List.mem_filter.1 hy).1).2.2
     . simp
   . simp at hr
abbrev Ct:=ByteArray×Int
def Qc2 (x:Ct):List Value := [.string x.1,.int .i64 x.2]
theorem Ql6 (x:Ct):(Qc2 x).length=2:=rfl
theorem Qqr (x:Ct):∀ u∈Qc2 x,u.oneCell'=true:=by simp[Qc2,Value.oneCell']
theorem Qc9:Qsr Tryz.prog 53 98 Qc2 2 24:=⟨by kernel_rfl,⟨_,ty98_ok,rfl,rfl⟩,by98,by decide,by decide,Ql6,Qqr⟩
theorem Qve {z:List Ev} (h:∀ e∈z,Xp e=true):∀ e∈z.filter wpB,Xp e=true:=fun e he=>h e (List.mem_filter.1 he).1
theorem Qif {e:Ev} (h:Xp e=true):0<=e.at_/\e.at_<=1099511627776:=by
 have:=(Qb1.1 h).at_
 exact this
theorem Qpi {c:Cfg} (h:Qij c=true):(1<=c.half/\c.half<=1099511627776)/\(1<=c.width/\c.width<=1099511627776)/\(1<=c.span/\c.span<=1099511627776)/\c.span.tmod c.width=0/\(0<=c.gap/\c.gap<=1099511627776)/\(0<=c.floor/\c.floor<=1048576)/\(0<=c.crowd/\c.crowd<=1048576):=by
 unfold Qij inB at h;simp only[Bool.and_eq_true,decide_eq_true_eq] at h;obtain⟨⟨⟨⟨⟨⟨h1,h2⟩,h3⟩,h4⟩,h5⟩,h6⟩,h7⟩:=h
 exact⟨h1,h2,h3,h4,h5,h6,h7⟩
theorem Qkg {n:Int} (h:1<=n/\n<=1099511627776):Qv n=n:=by unfold Qv;omega
theorem Qg0 {t width:Int} (hw:1<=width) (h:-4398046511104<=t/\t<=4398046511104) : -4398046511104<=t/width/\t/width<=4398046511104:=by
 constructor
 . rw[Int.le_ediv_iff_mul_le (by omega)]
   have : -4398046511104*width <= -4398046511104*1:=Int.mul_le_mul_of_nonpos_left (by omega) (by omega);omega
 . rcases Int.lt_or_le t 0 with h1 | h1
   . have:=Int.ediv_neg_of_neg_of_pos h1 (show 0<width by omega)
     omega
   . have:=Int.ediv_le_self width h1
     omega
theorem Qiv {w:World} {T:Nat->Prop} (person:ByteArray):∀ {D:List (Ev×SV)} {rs:List Row},Qa1 w T D rs->Qa1 w T (X9 D person) (rowsOf rs person)
 | [],rs,h=>by
   have:rs = []:=by have:=h.len;simpa using this.symm
   subst this
   exact h
 | d :: D,[],h=>by have:=h.len;simp at this
 | d :: D,r :: rs,h=>by
   have h0:=h.ev 0 d r rfl rfl;have hT:Qa1 w T D rs:=⟨by have:=h.len;simpa using this,fun i d r hd hr=>h.ev (i+1) d r hd hr⟩;have ih:=Qiv person hT;unfold X9 rowsOf at *;simp only[List.filter_cons,h0.1]
   split
   . refine⟨by simp[ih.len],fun i d' r' hd hr => ?_⟩
     cases i with
     | zero =>
       simp at hd hr
       subst hd;subst hr
       exact h0
     | succ i=>exact ih.ev i d' r' (by simpa using hd) (by simpa using hr)
   . exact ih
theorem Qa1.ext {w w1:World} {T:Nat->Prop} {D:List (Ev×SV)} {rs:List Row} (h:Qa1 w T D rs) (hT:∀ k,T k->k<w.heap.size) (hx:Ext w w1):Qa1 w1 T D rs :=
 ⟨h.len,fun i d r hd hr=>by
  obtain⟨h1,h2,h3,h4⟩:=h.ev i d r hd hr
  exact⟨h1,h2,h3.ext hx,h4⟩⟩
theorem Qwh {w w1 w2:World} {T:Nat->Prop} (hx:Ext w w1) (hT:∀ k,T k->w.heap.size<=k) (hM:Mod T w1 w2):Ext w w2 :=
 (Xe (Mod.of_ext (S:=fun _=>False) hx) (hM.mono fun k _ hk => .inr (hT k hk))).ext fun _ _ h=>h
theorem Qhb (e:Ev) (w:World):Cal Tryz.prog 117 [evV e] w fun r w'=>r = .int .i64 (Qw e)/\Ext w w':=by
 refine Fi Tryz.func117 rfl _ rfl rfl (Hh ?_);intro b w1 hn;have hb:=hn.At
 conv=>whnf
 refine⟨_,hb.one rfl,Hh ?_⟩;refine⟨fun h1 => ?_,fun h1 => ?_⟩
 . have h1:e.kind=1:=by simpa using h1
   conv=>whnf
   exact⟨by unfold Qw;rw[if_pos h1],hn.ext⟩
 have h1:¬ e.kind=1:=by simpa using h1
 conv=>whnf
 refine⟨fun h2 => ?_,fun h2 => ?_⟩
 . have h2:e.kind=2:=by simpa using h2
   conv=>whnf
   exact⟨by unfold Qw;rw[if_neg h1,if_pos h2],hn.ext⟩
 have h2:¬ e.kind=2:=by simpa using h2
 conv=>whnf
 refine⟨fun h3 => ?_,fun h3 => ?_⟩
 . have h3:e.kind=3:=by simpa using h3
   conv=>whnf
   exact⟨by unfold Qw;rw[if_neg h1,if_neg h2,if_pos h3],hn.ext⟩
 have h3:¬ e.kind=3:=by simpa using h3
 conv=>whnf
 refine⟨fun h4 => ?_,fun h4 => ?_⟩
 . have h4:e.kind=4:=by simpa using h4
   conv=>whnf
   refine⟨_,hb.one rfl,Hh ?_⟩
   exact⟨by unfold Qw;rw[if_neg h1,if_neg h2,if_neg h3,if_pos h4],hn.ext⟩
 have h4:¬ e.kind=4:=by simpa using h4
 conv=>whnf
 exact⟨by unfold Qw;rw[if_neg h1,if_neg h2,if_neg h3,if_neg h4],hn.ext⟩
def Qdb (c:Cfg) (z:List Ev):List Sn:=Qhf (Qvl c.gap) (Qh5 (z.filter wpB))
end Go.Proofs.YteabekcdcphjpaaGreatDoor
