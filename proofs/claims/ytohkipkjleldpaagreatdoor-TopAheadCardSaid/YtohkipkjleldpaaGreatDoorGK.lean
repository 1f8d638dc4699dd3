/- Several texts in one: SkC, Gt1, Sc2, Sc3, Sc4, Sc5, Sc6. -/
import Derived.Test.YtohkipkjleldpaaGreatDoorGN
import Derived.Test.YtohkipkjleldpaaGreatDoorGI
import Derived.Test.YtohkipkjleldpaaGreatDoorGZK
import Derived.Test.YtohkipkjleldpaaGreatDoorGH
import Derived.Test.YtohkipkjleldpaaGreatDoorGC
set_option linter.unusedVariables false
set_option linter.unusedSimpArgs false
namespace Go.Proofs.YtohkipkjleldpaaGreatDoor
open Go.Se Go.RowKit Go.Sort
theorem Qfg (a:ByteArray) (w:World):Cal Tryz.prog 65 [.string a] w fun r w'=>r = .bool false∧w'=w:=by
 refine Fi Tryz.func65 rfl _ rfl rfl (Hh ?_)
 exact⟨by simp,rfl⟩
theorem Qcj (a b:ByteArray) (w:World):Cal Tryz.prog 34 [.string a,.string b] w fun r w'=>r = .int .i64 (Qd7 a b)∧w'=w:=by
 refine Fi Tryz.func34 rfl _ rfl rfl (Hh ?_);refine(Qfg a w).mono ?_;rintro _ _ ⟨rfl,rfl⟩
 conv=>whnf
 refine(Qfg b _).mono ?_;rintro _ _ ⟨rfl,rfl⟩
 conv=>whnf
 constructor
 · intro h;cases h
 intro _
 conv=>whnf
 constructor
 · intro h;cases h
 intro _
 conv=>whnf
 constructor
 · intro h
   have h:bLt a b=true:=h
   conv=>whnf
   exact⟨by unfold Qd7;rw[if_pos h],rfl⟩
 intro h;have h:bLt a b=false:=h
 conv=>whnf
 constructor
 · intro k
   have k:bLt b a=true:=by
    have k:(!(bLt a b||decide (a=b)))=true:=k
    cases hh:bLt b a with
    | true=>rfl
    | false =>
      have:=Qa9 h hh;subst this
      simp at k
   conv=>whnf
   exact⟨by unfold Qd7;rw[h,if_neg (by simp),if_pos k],rfl⟩
 intro k
 have k:bLt b a=false:=by
  have k:(!(bLt a b||decide (a=b)))=false:=k;rw[h] at k;have:a=b:=by simpa using k
  subst this
  exact h
 conv=>whnf
 exact⟨by unfold Qd7;rw[h,k,if_neg (by simp),if_neg (by simp)],rfl⟩
theorem Qlr (a:Int) (w:World):Cal Tryz.prog 266 [.int .i64 a] w fun r w'=>r = .bool false∧w'=w:=by
 refine Fi Tryz.func266 rfl _ rfl rfl (Hh ?_)
 exact⟨by simp,rfl⟩
theorem Qi6 (a b:Int) (w:World):Cal Tryz.prog 199 [.int .i64 a,.int .i64 b] w fun r w'=>r = .int .i64 (Qd0 a b)∧w'=w:=by
 refine Fi Tryz.func199 rfl _ rfl rfl (Hh ?_);refine(Qlr a w).mono ?_;rintro _ _ ⟨rfl,rfl⟩
 conv=>whnf
 refine(Qlr b _).mono ?_;rintro _ _ ⟨rfl,rfl⟩
 conv=>whnf
 constructor
 · intro h;cases h
 intro _
 conv=>whnf
 constructor
 · intro h;cases h
 intro _
 conv=>whnf
 constructor
 · intro h
   have h:a<b:=by simpa using h
   conv=>whnf
   exact⟨by unfold Qd0;rw[if_pos h],rfl⟩
 intro h;have h:¬ a<b:=by simpa using h
 conv=>whnf
 constructor
 · intro k
   have k:b<a:=by simpa using k
   conv=>whnf
   exact⟨by unfold Qd0;rw[if_neg h,if_pos k],rfl⟩
 intro k;have k:¬ b<a:=by simpa using k
 conv=>whnf
 exact⟨by unfold Qd0;rw[if_neg h,if_neg k],rfl⟩
def Q66 (a b:Ct):Int:=orL [Qd0 b.2 a.2,Qd7 a.1 b.1]
def Qlz (a b:Ct):Bool:=decide (b.2<a.2)||(decide (a.2=b.2)&&bLt a.1 b.1)
theorem Qpx:ltOf Q66=Qlz:=by
 funext a b
 unfold ltOf Q66 Qlz orL Qd0 Qd7;rcases Int.lt_trichotomy b.2 a.2 with h | h | h
 · simp[h]
 · rw[h]
   cases h1:bLt a.1 b.1 <;> cases h2:bLt b.1 a.1 <;> simp
 · have h1:¬ b.2<a.2:=by omega
   have h2:¬ a.2=b.2:=by omega
   simp[h,h1,h2]
theorem Qxs {a b:Ct}:Qlz a b=true↔b.2<a.2∨(a.2=b.2∧bLt a.1 b.1=true):=by simp[Qlz]
theorem Qxt {a b:Ct}:Qlz a b=false↔¬ b.2<a.2∧(a.2=b.2→bLt a.1 b.1=false):=by
 rw[← Bool.not_eq_true,Qxs];constructor
 · intro h
   refine⟨fun h1=>h (.inl h1),fun h1 => ?_⟩
   cases hb:bLt a.1 b.1 with
   | false=>rfl
   | true=>exact absurd (.inr ⟨h1,hb⟩) h
 · rintro ⟨h1,h2⟩ (h3 | ⟨h3,h4⟩)
   · exact h1 h3
   · rw[h2 h3] at h4;cases h4
theorem Qfj:Go.Sort.SWO Qlz where
 irrefl x:=by rw[Qxt];exact⟨by omega,fun _=>Xj _⟩
 trans x y z h k:=by
  rw[Qxs] at *;rcases h with h | ⟨h,h'⟩ <;> rcases k with k | ⟨k,k'⟩
  · exact .inl (by omega)
  · exact .inl (by omega)
  · exact .inl (by omega)
  · exact .inr ⟨by omega,Qa2 h' k'⟩
 ntrans x y z h k:=by
  rw[Qxt] at *;refine⟨by omega,fun he => ?_⟩;have h1:=h.1;have k1:=k.1
  exact Qeq (h.2 (by omega)) (k.2 (by omega))
end Go.Proofs.YtohkipkjleldpaaGreatDoor
namespace Go.Proofs.YtohkipkjleldpaaGreatDoor
open Go.Se Go.RowKit
theorem Q6j:Tryz.prog.underlying 374=some (.map 9 2):=by kernel_rfl
theorem Qvm (w:World) (S:Nat→Prop) (p:Nat) (half:Int) (rs:List Row) (h:Qar w S p half rs) (hm:∀ r∈rs,Xn r.1=true) (hl:rs.length<1000000) (person:ByteArray) :
 Cal Tryz.prog 195 [.pointer (some ⟨p,0,none⟩),.string person] w fun r w'=>∃ A c,r = .slice A (Xb ((Qbc (X0 rs).follows person (hist (evs rs) person)).map (·.1))).length c∧Own Qav 1 9 w.heap.size w' A c (Xb ((Qbc (X0 rs).follows person (hist (evs rs) person)).map (·.1)))∧Ext w w':=by
 obtain⟨bp,b,D,L,R,Tg,h⟩:=h;have hhd:=Qnr h.tags person;have hown:=(h.rows.own person).1;have hsl0:=hown.sl Qh1;have hfl:=h.maps.follows
 have hdl:(Qak D person).length≤rs.length:=by
  rw[← h.tags.len];exact List.length_filter_le _ _
 have hmp:∀ e∈hist (evs rs) person,Xn e=true:=fun e he=>by
  obtain⟨r,hr,rfl⟩:=List.mem_map.1 (List.mem_filter.1 he).1
  exact hm r hr
 have hmd:∀ d∈Qak D person,Xn d.1=true:=fun d hd=>hmp _ (by rw[← hhd];exact List.mem_map.2 ⟨d,hd,rfl⟩)
 rw[← hhd];refine Fi Tryz.func195 rfl _ rfl rfl (Hh ?_);refine⟨.map (some b.follows),h.head.one rfl,Gg ?_⟩;refine Cal.mono (R:=fun r w'=>∃ A c,r = .slice A (Xb ((Qbc (X0 rs).follows person ((Qak D person).map (·.1))).map (·.1))).length c∧Own Qav 1 9 w.heap.size w' A c (Xb ((Qbc (X0 rs).follows person ((Qak D person).map (·.1))).map (·.1)))∧Ext w w') ?_ ?_
 rotate_left
 · rintro _ w1 ⟨A,c,rfl,h1,h2⟩;refine Gg ?_
   exact⟨A,c,rfl,h1,h2⟩
 refine Fi Tryz.func196 rfl _ rfl rfl (Hh ?_);intro b1 w1 hn1;refine Gg ?_;have hm1:MapAt w1 b1 Value.string []:=MapAt.new hn1;have hx1:=hn1.ext;have e1:=hn1.block;refine⟨.map (some bp),(h.head.ext hx1).one rfl,Gg ?_⟩;have hrows:=h.rows.look Qix Xc (e:=ty283) ty283_ok rfl person (cl := .ext) (Qid h.rows.map.lt);refine⟨_,fun w' hw=>(by cases hw;exact hrows w1 hx1),Gg ?_⟩;clear hrows hhd;generalize (X0 rs).follows=fl at *;generalize Qak D person=row at *;generalize (rowAt L person).1=A at *;generalize (rowAt L person).2=c at *
 refine Qh Qa (fun(q:Nat×List (ByteArray×Bool)) w'=>q.1≤row.length∧Ext w w'∧q.2=Qbc fl person ((row.take q.1).map (·.1))∧MapAt w' b1 Value.string (Xm Value.bool q.2))
  (fun | (k,_) => [(1,.string person),(2,.int .i64 7),(3,.map (some b.follows)),(9,.map (some b1)),(18,.slice A row.length c),(19,.int .i64 row.length),(20,.int .i64 k)]) (fun q=>row.length-q.1) (0,[]) ⟨by simp,hx1,rfl,hm1⟩ Rr ?_
 rintro ⟨k,m⟩ w2 ⟨hk,hx2,hmm,hmap⟩;simp only at hk hmm hmap;refine Gg ?_;constructor
 · intro hlt
   have hlt:k<row.length:=by simpa using hlt
   obtain⟨a,hA,hc⟩:=(hsl0.ext hx2).get hlt;subst hA
   have htk:Qbc fl person ((row.take (k+1)).map (·.1))=if(row[k]).1.kind=7∧(Qe fl (person,(row[k]).1.text)).getD false=true then Q7 m (row[k]).1.text true else m:=by
    rw[List.take_succ_eq_append_getElem hlt,List.map_append,List.map_cons,List.map_nil,Qfe,← hmm]
   generalize row[k]=d at hc htk;refine Gg ?_;refine⟨a,Ix,Gg ?_⟩;refine⟨Qhc d,⟨rfl,hc⟩,Gg ?_⟩;intro b3 w3 hn3;refine Gg ?_;refine Qd Qa (e:=ty282) rfl hn3.At rfl rfl rfl (Qh2 _) fun w4 h4 ho4 => ?_
   have e3:=hn3.block;have hx24:Ext w2 w4:=ho4.ext hn3.ext (by omega);have hx4:Ext w w4:=hx2.trans hx24;have hmap4:=hmap.ext hx24;have h4:At w4 b3 282 (Qhc d):=h4;clear ho4;refine Gg ?_;refine⟨.int .i64 d.1.kind,h4.one rfl,Gg ?_⟩;refine⟨.string d.1.text,fun _=>h4.one rfl,Gg ?_⟩;have hlk:=X7 Qhp Qay (e:=ty4) ty4_ok (cl := .same) Qm (hfl.ext hx4) ((person,d.1.text):LK)
   have hz:(Qe (Xm Value.bool fl) ((person,d.1.text):LK)).getD (ty4).zero = .bool ((Qe fl (person,d.1.text)).getD false):=by
    unfold Xm;rw[Qf1];cases Qe fl (person,d.1.text) <;> rfl
   rw[hz] at hlk;refine⟨_,fun _=>hlk,?_⟩;generalize (Qe fl (person,d.1.text)).getD false=hv at htk ⊢;refine Gg ?_;constructor
   · intro hc1
     have hc1:d.1.kind=7∧hv=true:=by simpa using hc1
     rw[if_pos hc1] at htk;refine Gg ?_;refine⟨.string d.1.text,h4.one rfl,Gg ?_⟩;refine Qq Qna (Qo Xc) hmap4 d.1.text _ fun w7 hmap7 ho7 => ?_
     have hx7:Ext w w7:=ho7.ext hx4 (by omega)
     have hmap7:MapAt w7 b1 Value.string (Xm Value.bool (Q7 m d.1.text true)):=by
      have e:Q7 (Xm Value.bool m) d.1.text (.bool true)=Xm Value.bool (Q7 m d.1.text true):=by unfold Xm;rw[Qgt]
      rw[← e];exact hmap7
     refine Gg ?_;refine⟨_,wrap_succ (by omega),Gg ?_⟩
     exact⟨(k+1,Q7 m d.1.text true),by simp only;omega,⟨by simp only;omega,hx7,htk.symm,hmap7⟩,Rr⟩
   · intro hc1
     have hc1:¬ (d.1.kind=7∧hv=true):=by simpa using hc1
     rw[if_neg hc1] at htk;refine Gg ?_;refine⟨_,wrap_succ (by omega),Gg ?_⟩
     exact⟨(k+1,m),by simp only;omega,⟨by simp only;omega,hx4,htk.symm,hmap4⟩,Rr⟩
 · intro hge
   have hge:row.length≤k:=by simpa using hge
   rw[List.take_of_length_le hge] at hmm
   have hkeys:∀ x∈m,x.1.size≤1000000:=by
    intro x hx;have hx1:x.1∈m.map (·.1):=List.mem_map.2 ⟨x,hx,rfl⟩;rw[hmm,Qnq] at hx1;obtain⟨e,he,_,h2,_⟩:=hx1;obtain⟨d,hd,rfl⟩:=List.mem_map.1 he;have:=Qfl (hmd d hd);rw[← h2];omega
   have hml:m.length≤row.length:=by
    have:∀ h:List Ev,(Qbc fl person h).length≤h.length:=by
     refine Qu (by simp[Qbc]) fun l e ih => ?_
     rw[Qfe];have:=Qcp e.text true (Qbc fl person l)
     split <;> simp <;> omega
    have:=this (row.map (·.1));rw[← hmm] at this
    simpa using this
   rw[← hmm];have hvk:(Xm Value.bool m).map (·.1)=m.map (·.1):=by simp[Xm]
   refine Gg ?_;refine(Qnu (some b1) w2).mono ?_;rintro _ w3 ⟨rfl,hc3,hx3⟩;refine Gg ?_;refine(Qkd hc3 (hmap.ext hx3) (by intro x hx;obtain⟨y,hy,rfl⟩:=List.mem_map.1 hx;exact hkeys y hy) (by simp[Xm];omega)).mono ?_;rintro _ w4 ⟨A4,c4,rfl,ho,hx4⟩;rw[hvk] at ho ⊢;refine Gg ?_
   exact⟨A4,c4,rfl,Qlf ho (Nat.le_trans hx2.size hx3.size),hx2.trans (hx3.trans hx4)⟩
open Go.Maps Go.Sort Go.Shelf
theorem Qgv (w:World) (p:Nat) (width n:Int) (bs br:Nat) (hp:At w p 214 [vi width,vi n,.map (some bs),.map (some br)]) (hw:1≤width∧width≤1099511627776) (t:Int) (ht:-9223372036854775807≤t∧t≤9223372036854775807) :
 Cal Tryz.prog 160 [.pointer (some ⟨p,0,none⟩),.int .i64 t] w fun r w'=>r = .int .i64 (t/width)∧w'=w:=by
 have hd:t.tdiv width=t/width+if 0≤t∨width ∣ t then 0 else width.sign:=Int.tdiv_eq_ediv
 have hm:=Int.tmod_eq_emod (a:=t) (b:=width);have hs:width.sign=1:=Int.sign_eq_one_of_pos (by omega);have h5:0≤t % width:=Int.emod_nonneg _ (by omega);have h6:t % width<width:=Int.emod_lt_of_pos _ (by omega);have hna:(width.natAbs:Int)=width:=by omega
 rw[hs] at hd
 have hr1 : -9223372036854775807≤t/width:=by
  have:=Int.ediv_emod_unique (a:=t) (b:=width) (r:=t % width) (q:=t/width) (by omega);rcases Int.lt_or_le t 0 with h | h
  · have:t≤t/width:=by
     rw[Int.le_ediv_iff_mul_le (by omega)];have:t*width≤t*1:=Int.mul_le_mul_of_nonpos_left (by omega) (by omega);omega
    omega
  · have:=Int.ediv_nonneg h (show 0≤width by omega);omega
 have hr2:t/width≤9223372036854775806∨(0≤t∧t/width≤t):=by
  rcases Int.lt_or_le t 0 with h | h
  · left
    have:=Int.ediv_neg_of_neg_of_pos h (show 0<width by omega);omega
  · right;exact⟨h,Int.ediv_le_self _ h⟩
 refine Fi Tryz.func160 rfl _ rfl rfl (Hh ?_);refine⟨_,hp.one0,Hh ?_⟩
 by_cases hc:0≤t∨width ∣ t
 · rw[if_pos hc] at hd hm
   refine⟨t/width,⟨by omega,wrap_eq (by omega) ⟨by omega,by omega⟩⟩,Hh ?_⟩;refine Qb Qa (Hh ?_);refine⟨_,hp.one0,Hh ?_⟩;refine⟨t.tmod width,⟨by omega,rfl⟩,Hh ?_⟩;constructor
   · intro q
     have q:t.tmod width<0:=by simpa using q
     omega
   · intro _
     conv=>whnf
     exact⟨rfl,rfl⟩
 · rw[if_neg hc] at hd hm
   have hneg:t<0:=by omega
   have hd0:=Int.ediv_neg_of_neg_of_pos hneg (show 0<width by omega);refine⟨t/width+1,⟨by omega,wrap_eq (by omega) ⟨by omega,by omega⟩⟩,Hh ?_⟩;refine Qb Qa (Hh ?_);refine⟨_,hp.one0,Hh ?_⟩;refine⟨t.tmod width,⟨by omega,rfl⟩,Hh ?_⟩;constructor
   · intro _
     conv=>whnf
     refine⟨t/width,wrap_eq (by omega) ⟨by omega,by omega⟩,Hh ?_⟩
     exact⟨rfl,rfl⟩
   · intro q
     have q:¬ t.tmod width<0:=by simpa using q
     omega
theorem Qj8 (w:World) (S:Nat→Prop) (p:Nat) (width n:Int) (s:Qae) (h:Qmw w S p width n s) :
 Cal Tryz.prog 348 [.pointer (some ⟨p,0,none⟩)] w fun r w'=>r = .int .i64 width∧Ext w w':=by
 obtain⟨bs,br,L,R,h⟩:=h;refine Fi Tryz.func348 rfl _ rfl rfl (Hh ?_);refine⟨_,h.head.one rfl,Hh ?_⟩
 exact⟨rfl,Ext.refl _⟩
theorem Qmw.ext {w w1:World} {S:Nat→Prop} {p:Nat} {width n:Int} {s:Qae} (h:Qmw w S p width n s) (hx:Ext w w1):Qmw w1 S p width n s:=h.keep fun k hk hs=>⟨hx.block k hk,hs⟩
theorem Xd9:Tryz.prog.underlying 91=some (.pointer (Tryz.prog.pointee 91)):=by kernel_rfl
end Go.Proofs.YtohkipkjleldpaaGreatDoor
namespace Go.Proofs.YtohkipkjleldpaaGreatDoor
open Go.Se Go.RowKit
def ones (_:Nat):Int:=1
end Go.Proofs.YtohkipkjleldpaaGreatDoor
