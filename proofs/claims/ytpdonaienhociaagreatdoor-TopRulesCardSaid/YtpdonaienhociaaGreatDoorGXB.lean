import Derived.Test.YtpdonaienhociaaGreatDoorGM
set_option linter.all false
namespace Go.Proofs.YtpdonaienhociaaGreatDoor
open Go.Se Go.RowKit
theorem Qp9 (name:Bj) (t:Int):∀ cs:List Ev,t∈(Qz cs name).map (·.at_)↔∃ x∈cs,x.item=name/\x.at_=t:=by
 refine Qv (by simp[Qz]) fun cs e ih => ?_
 have hx:(∃ x∈cs ++ [e],x.item=name/\x.at_=t)↔(∃ x∈cs,x.item=name/\x.at_=t)\/(e.item=name/\e.at_=t):=by
  constructor
  . rintro ⟨x,hx,h⟩;rcases Zj.1 hx with hx | hx
    . exact .inl ⟨x,hx,h⟩
    . rw[Zk] at hx;subst hx;exact .inr h
  . rintro (⟨x,hx,h⟩ | h)
    . exact⟨x,by simp[hx],h⟩
    . exact⟨e,by simp,h⟩
 rw[Qba,hx,<- ih];unfold Qff Ql4
 by_cases hn:name=e.item
 . subst hn;rw[if_pos rfl,Zp,Zj,Zm,Zb8,Zk];have:(Qfb (Qz cs e.item) e).at_=e.at_:=Qf8 _ _;rw[this];constructor
   . rintro (h | h)
     . exact .inl h
     . exact .inr ⟨rfl,h.symm⟩
   . rintro (h | ⟨_,h⟩)
     . exact .inl h
     . exact .inr h.symm
 . rw[if_neg hn];constructor
   . exact .inl
   . rintro (h | ⟨h,_⟩)
     . exact h
     . exact absurd h.symm hn
def Qdj (cs:List Ev) (t:Int) (name:Bj):Bool:=(Xw cs name t).2&&(Xw cs name t).1.listed
theorem Xbs (it:It) (w:World):Cal Tryz.prog 308 [.agg (itC it).toArray] w fun r w'=>r = .bool true/\Ext w w':=by
 refine Fi Tryz.func308 rfl _ rfl rfl (Hh ?_);intro b w1 hn;refine Gg ?_;exact⟨rfl,hn.ext⟩
theorem Q9v {w:World} {S:Nat->Prop} {bm:Nat} {cs:List Ev} {L:List (Bj×(Option Addr×Nat))} (h:Qbm stC 9 141 w S bm (Qz cs) L):L.length<=cs.length:=by
 have hn:(L.map (·.1)).Nodup:=Qam h.keys;have hs:∀ x∈L.map (·.1),x∈cs.map (·.item):=fun x hx=>(by obtain⟨y,hy,rfl⟩:=Zh.1 hx;have hne:=h.ne y hy;obtain⟨s,hs⟩:=List.exists_mem_of_ne_nil _ hne;obtain⟨e,he,hi,_⟩:=(Qp9 y.1 s.at_ cs).1 (Zh.2 ⟨s,hs,rfl⟩);exact Zh.2 ⟨e,he,hi⟩)
 have:=Qd3 hn hs;simpa using this
theorem Xdq {α:Type} (rows:Bj->List α) (L:List (Bj×(Option Addr×Nat))):(toV rows L).map (·.1)=L.map (·.1):=by unfold toV;rw[Zy];rfl
set_option maxHeartbeats 1000000 in
theorem Qz4 (w:World) (S:Nat->Prop) (p:Nat) (cs:List Ev) (h:Qgb w S p cs) (t:Int) (hl:∀ name,(Qz cs name).length<1000000000000) (hcl:cs.length<100000) :
 Cal Tryz.prog 307 [Pj p,Vj t,.func (.func 308) #[] #[]] w fun r w'=>∃ A c K,r = .slice A (Xi K).length c/\SlT w' A (Xi K)/\K.Nodup/\(∀ x,x∈K↔Qdj cs t x=true)/\K.length<1000000/\(∀ a,A=some a->w.heap.size<=a.block)/\Ext w w':=by
 obtain⟨bm,L,hC⟩:=id h;have hLl:=Q9v hC.rows;have hkn:(L.map (·.1)).Nodup:=Qam hC.rows.keys
 have hin:∀ x,Qdj cs t x=true->x∈L.map (·.1):=fun x hx=>by
  rw[Qmr]
  cases hq:Qe L x with
  | some v=>rfl
  | none =>
    have h0:=hC.rows.all x hq;unfold Qdj Xw at hx;rw[h0] at hx;simp at hx
 have hmap:=hC.rows.map;refine Fi Tryz.func307 rfl _ rfl rfl (Hh ?_);refine⟨.map (some bm),hC.head.one rfl,Gg ?_⟩;refine map_range Qwz hmap fun w3 hi3 hx3 => ?_
 have hs3:w.heap.size<w3.heap.size:=hi3.lt;generalize hr:w.heap.size=r at hi3 hs3 ⊢;refine Gg ?_
 refine Qh Qb (fun(q:List (Bj×Value)×Option Addr×Nat×List Bj) w'=>Ext w w'/\Iter w' r bm Value.string (toV (Qz cs) L) q.1/\q.2.2.2=(q.1.map (·.1)).filter (Qdj cs t)/\q.1.length<=L.length/\Own Qab 1 9 w3.heap.size w' q.2.1 q.2.2.1 q.2.2.2/\w3.heap.size<=w'.heap.size)
  (fun | (vs,A,c,K) => [(0,Pj p),(1,Vj t),(2,.func (.func 308) #[] #[]),(7,.slice A K.length c),(15,Pj r)]) (fun q=>L.length-q.1.length) ([],none,0,[]) ⟨hx3,hi3,rfl,Zu _,Own.nil,Zg _⟩ Rr ?_
 clear hi3 hx3;rintro ⟨vs,A,c,K⟩ w4 ⟨hx4,hi4,hK,hvl,hown,h34⟩;simp only at hi4 hK hvl hown;have hKl:K.length<=vs.length:=(by rw[hK];have:=Zc (Qdj cs t) (vs.map (·.1));rw[Zf] at this;exact this);refine Hh ?_;refine Qe9 hi4 (fun hp => ?_) (fun x w5 hxin hnew hlt hi5 ho5 hen => ?_)
 . refine Gg ?_;constructor
   . intro hh;cases hh
   intro _;have hpk:(vs.map (·.1)).Perm (L.map (·.1)):=(by have:=hp.map (·.1);rw[Xdq] at this;exact this);have hKn:K.Nodup:=by rw[hK];exact(hpk.nodup_iff.2 hkn).sublist Zaw
   have hKm:∀ x,x∈K↔Qdj cs t x=true:=fun x=>(by rw[hK,Ze];exact⟨fun h=>h.2,fun h=>⟨hpk.mem_iff.2 (hin x h),h⟩⟩)
   refine Gg ?_;refine(Qly K A c w3.heap.size w4 hown Om).mono ?_;rintro _ w5 ⟨rfl,hsl,hx5⟩;refine Gg ?_;refine⟨A,c,K,?_,hsl,hKn,hKm,Om,fun a ha=>by have:=(hown.block ha).1;omega,hx5 w hx4 Om⟩;rw[Qcf]
 . have hx5:=ho5.ext hx4 Om;have hown5:Own Qab 1 9 w3.heap.size w5 A c K:=hown.keep fun a ha=>ho5.block _ (by have:=(hown.block ha).1;omega)
   have hlt:vs.length<L.length:=by simpa [toV] using hlt
   have hsn:((vs ++ [x]).map (·.1)).filter (Qdj cs t)=K++if Qdj cs t x.1=true then [x.1] else []:=by
    rw[Zp,Zq,hK];congr 1
    by_cases hq:Qdj cs t x.1=true
    . simp[hq]
    . simp[hq]
   have s5:=ho5.size;refine Gg ?_;constructor
   . intro _;refine Gg ?_;refine Qaw (hen w5 rfl rfl) ?_;refine Gg ?_;refine(Q7 w5 S p cs (h.ext hx5) x.1 t (hl x.1)).mono ?_;rintro _ w6 ⟨rfl,hx6⟩;refine Gg ?_;intro b9 w7 hn7;refine Gg ?_;refine Qc Qb (e:=ty59) rfl hn7.At rfl rfl rfl (by simp[Qg,itC,Value.oneCell']) fun w8 h9 ho8 => ?_
     have h9:At w8 b9 59 (itC (Xw cs x.1 t).1):=h9;have hx58:Ext w5 w8:=ho8.ext (hx6.trans hn7.ext) (by rw[hn7.block];exact hx6.size);clear ho8 hn7 hx6;refine Gg ?_;refine⟨.bool (Xw cs x.1 t).1.listed,fun _=>h9.one rfl,Gg ?_⟩;refine⟨itC (Xw cs x.1 t).1,fun _=>⟨rfl,h9.all⟩,Gg ?_⟩;refine⟨Unit,fun _=>(.bool true),fun _ w'=>Ext w8 w',(),fun hg=>((Xbs (Xw cs x.1 t).1 w8)).mono fun r w' h=>⟨(),h.1,h.2⟩,?_⟩;intro _ w9 h2
     have hx89:Ext w8 w9:=by
      rcases h2 with⟨_,h⟩ | ⟨_,h⟩
      . exact h
      . rw[h];exact Ext.refl _
     clear h2;refine Hh ?_;have hx59:=hx58.trans hx89;have hi9:=hi5.ext hx59;have hown9:=hown5.ext hx59;have hx9:=hx5.trans hx59;have s9:=hx59.size;clear hx58 hx89 h9 hi5 hown5;refine Gg ?_;constructor
     . intro hq;have hq:Qdj cs t x.1=true:=(by have:(((Xw cs x.1 t).2&&(Xw cs x.1 t).1.listed)&&true)=true:=hq;rw[Zc7] at this;exact this);rw[if_pos hq] at hsn;refine Gg ?_;intro bb wb hnb;refine Gg ?_;refine Qq X7 (l:=K) (news := [x.1]) rfl (hown9.ext hnb.ext) rfl (X7.new1 (x:=x.1) hnb) (by simp;omega) (by have:=hnb.size;omega) fun A6 c6 w6 hown6 hg6 hA6 => ?_
       have hr6:∀ k,A.map (·.block)=some k->w3.heap.size<=k:=Xq (hown9.ext hnb.ext);have hx6:Ext w w6:=Qu (hx9.trans hnb.ext) hg6 (fun k hk=>by have:=hr6 k hk;omega);have hi6:Iter w6 r bm Value.string (toV (Qz cs) L) (vs ++ [x]):=(by have hib:=hi9.ext hnb.ext;have hbl:=hmap.lt;exact hib.keep (hg6.block bm hib.map.lt fun e=>by have:=hr6 bm e.symm;omega) (hg6.block r hib.lt fun e=>by have:=hr6 r e.symm;omega));have sb:=hnb.size;have s6:=hg6.size;generalize K ++ [x.1]=K2 at hown6 hsn ⊢;refine Gg ?_;exact⟨(vs ++ [x],A6,c6,K2),by simp;omega,⟨hx6,hi6,hsn.symm,by simp;omega,hown6,Om⟩,Rr⟩
     . intro hq;have hq:¬ Qdj cs t x.1=true:=fun h=>(by have:(((Xw cs x.1 t).2&&(Xw cs x.1 t).1.listed)&&true)=false:=hq;rw[Zc7] at this;unfold Qdj at h;rw[this] at h;cases h)
       rw[if_neg hq,Zw] at hsn;refine Gg ?_;exact⟨(vs ++ [x],A,c,K),by simp;omega,⟨hx9,hi9,hsn.symm,by simp;omega,hown9,Om⟩,Rr⟩
   . intro hh;cases hh
theorem Qyo (w:World) (S:Nat->Prop) (p:Nat) (cs:List Ev) (h:Qgb w S p cs) (t:Int) (hl:∀ name,(Qz cs name).length<1000000000000) (hcl:cs.length<100000) :
 Cal Tryz.prog 227 [Pj p,Vj t] w fun r w'=>∃ A c K,r = .slice A (Xi K).length c/\SlT w' A (Xi K)/\K.Nodup/\(∀ x,x∈K↔Qdj cs t x=true)/\K.length<1000000/\(∀ a,A=some a->w.heap.size<=a.block)/\Ext w w':=by
 refine Fi Tryz.func227 rfl _ rfl rfl (Hh ?_);refine(Qz4 w S p cs h t hl hcl).mono ?_;rintro _ w2 ⟨A,c,K,rfl,h2,h3,h4,h5,h6,h7⟩;refine Gg ?_;exact⟨A,c,K,rfl,h2,h3,h4,h5,h6,h7⟩
theorem Q32 (w:World) (S:Nat->Prop) (p:Nat) (cs:List Ev) (h:Qgb w S p cs) (t:Int) (hl:∀ name,(Qz cs name).length<1000000000000) (hcl:cs.length<100000) :
 Cal Tryz.prog 227 [Pj p,Vj t] w fun r w'=>∃ A c K,r = .slice A (Xi K).length c/\SlT w' A (Xi K)/\K.Nodup/\(∀ x,x∈K↔Qdj cs t x=true)/\K.length<1000000/\Ext w w' :=
 (Qyo w S p cs h t hl hcl).mono fun r w' ⟨A,c,K,h1,h2,h3,h4,h5,_,h6⟩=>⟨A,c,K,h1,h2,h3,h4,h5,h6⟩
def Qgk (l:List Ct):List Ct:=l.mergeSort fun a b => !Qlm b a
theorem Xci (a b c:Ct) (h1:Qlm b a=false) (h2:Qlm c b=false):Qlm c a=false:=by
 unfold Qlm at *;simp only[Bool.or_eq_false_iff,decide_eq_false_iff_not,Zb9] at *;refine⟨Om,?_⟩
 by_cases e:c.2=a.2
 . right
   have e1:b.2=a.2:=Om;have e2:c.2=b.2:=Om;have q1:bLt b.1 a.1=false:=h1.2.elim (fun h=>absurd e1 h) id;have q2:bLt c.1 b.1=false:=h2.2.elim (fun h=>absurd e2 h) id
   cases hc:bLt c.1 a.1 with
   | false=>rfl
   | true =>
     cases hb:bLt a.1 b.1 with
     | true=>rw[Qbv hc hb] at q2;cases q2
     | false=>rw[Qbw hb q1,q2] at hc;cases hc
 . exact .inl e
theorem Q3y (a b:Ct):((!Qlm b a)||(!Qlm a b))=true:=by
 cases h:Qlm b a with
 | false=>rfl
 | true =>
   cases h2:Qlm a b with
   | false=>rfl
   | true =>
     unfold Qlm at h h2;simp only[Zbi,decide_eq_true_eq,Zl] at h h2;exfalso;have e:a.2=b.2:=Om;have q1:bLt b.1 a.1=true:=by rcases h with h | h;omega;exact h.2
     have q2:bLt a.1 b.1=true:=by rcases h2 with h | h;omega;exact h.2
     have:=Qbv q1 q2;rw[Xr] at this;cases this
theorem Qf3 (l:List Ct):(Qgk l).Perm l:=Zbs _ _
theorem Xab (l:List Ct):Srt Qlm (Qgk l):=by
 have:=Za8 (le:=fun a b => !Qlm b a) (fun a b c h1 h2=>by
  simp only[Zai] at *;exact Xci a b c h1 h2) Q3y l
 exact this.imp fun h=>Su h
theorem Qth {F L:List Ct} (hp:F.Perm L) (hs:Srt Qlm F):F=Qgk L:=by
 refine Qk8 (hp.trans (Qf3 L).symm) hs (Xab L) fun x _ y _ h1 h2 => ?_
 unfold Qlm at h1 h2;simp only[Bool.or_eq_false_iff,decide_eq_false_iff_not,Zb9] at h1 h2;have e2:x.2=y.2:=Om;have e1:x.1=y.1:=(by have q1:bLt x.1 y.1=false:=h1.2.elim (fun h=>absurd e2 h) id;have q2:bLt y.1 x.1=false:=h2.2.elim (fun h=>absurd e2.symm h) id;exact Qbw q1 q2);exact Prod.ext e1 e2
def Qcp (z:List Ev) (now:Int):List Bj:=Qcc (((Ql z).map (·.item)).filter (Qdj (Ql z) now))
def Qg1 (s:Qld) (half now:Int):List Ct:=((s.map (·.1)).map fun k=>(k,Qby s half k now)).filter fun x=>decide (0<x.2)
def Qn6 (S:List Sn):List Bj:=Qcc (S.flatMap (·.items))
def Qem (S:List Sn) (a:Bj):List Bj:=Qcc ((S.flatMap (·.items)).filter fun b => !decide (a=b)&&decide (0<Qdt S a b))
theorem Xhe {S:List Sn} {a:Bj}:0<Qa0 S a↔a∈S.flatMap (·.items):=by
 unfold Qa0 hasB;rw[List.length_pos_iff_exists_mem,Zbb];simp only[Ze,decide_eq_true_eq]
theorem Xf8 {S:List Sn} {a b:Bj} (h:0<Qdt S a b):b∈S.flatMap (·.items):=by
 unfold Qdt hasB at h;rw[List.length_pos_iff_exists_mem] at h;obtain⟨s,hs⟩:=h;simp only[Ze,Zl,decide_eq_true_eq] at hs;exact Zbb.2 ⟨s,hs.1,hs.2.2⟩
theorem Xcg {m:List (Bj×Int)} (h:∀ x∈m,0<x.2) {a:Bj}:a∈m.map (·.1)↔0<(Qe m a).getD 0:=by
 rw[Qmr]
 cases hq:Qe m a with
 | none=>simp
 | some v=>simpa using h (a,v) (Qbi hq)
theorem Qso {S:List Sn} {a b:Bj}:b∈(S.flatMap (·.items)).filter (fun b => !decide (a=b)&&decide (0<Qdt S a b))↔a≠b/\0<Qdt S a b:=by
 rw[Ze,Zl,Zai,decide_eq_false_iff_not,decide_eq_true_eq];exact⟨fun h=>h.2,fun h=>⟨Xf8 h.2,h⟩⟩
theorem TabIs.near {sg:List (Bj×Int)} {ct:Qw9} {S:List Sn} (h:TabIs sg ct S) {a:Bj} {m:List (Bj×Int)} (hm:Qe ct a=some m) (hn:m.Pairwise (fun x y=>x.1≠y.1)):Xi (m.map (·.1))=Qem S a:=by
 refine Qiz (Qam hn) fun x => ?_
 rw[Xcg (h.pos.2 (a,m) (Qbi hm)),Qso];have:=h.ct a x;rw[hm] at this;simp only[Zaj] at this;rw[this]
 by_cases hx:a=x
 . simp[hx]
 . rw[if_neg hx];exact⟨fun h=>⟨hx,Om⟩,fun h=>by have:=h.2;omega⟩
theorem TabIs.near0 {sg:List (Bj×Int)} {ct:Qw9} {S:List Sn} (h:TabIs sg ct S) {a:Bj} (hm:Qe ct a=none):Qem S a = []:=by
 have:∀ x,x∉Qem S a:=fun x hx=>(by unfold Qem at hx;rw[X5,Qso] at hx;have h2:=h.ct a x;rw[hm] at h2;rw[if_neg hx.1] at h2;have h3:(Qe ((none:Option (List (Bj×Int))).getD []) x).getD 0=0:=rfl;rw[h3] at h2;omega)
 cases hq:Qem S a with
 | nil=>rfl
 | cons y l=>exact absurd (by rw[hq];simp) (this y)
theorem Q5e {z:List Ev} (hm:∀ e∈z,X0 e=true) {e:Ev} (he:e∈Ql z):Qr e.item=true:=by
 obtain⟨h1,h2⟩:=Ze.1 he;have hk:=Qbj (Qb9.1 (hm e h1)).kind;have h3:e.kind=11\/e.kind=12\/e.kind=13:=by simpa [thB] using h2
 rcases hk with⟨h,_⟩ | ⟨h,_⟩ | ⟨h,_⟩ | ⟨_,_,h,_⟩ | ⟨_,_,h,_⟩ | ⟨_,_,h,_⟩ | ⟨h,_⟩
 . omega
 . omega
 . omega
 . exact h
 . exact h
 . exact h
 . omega
theorem Qtt {z:List Ev} (hm:∀ e∈z,X0 e=true) {e:Ev} (he:e∈z.filter wpB):Qr e.person=true/\Qr e.item=true:=by
 obtain⟨h1,h2⟩:=Ze.1 he;exact Qeq (hm e h1) (by simpa [wpB] using h2)
def ItB (i:It):Prop:=i.maker.size<1000/\i.tags.size<1000/\(0<=i.price/\i.price<=1099511627776)/\(0<=i.stock/\i.stock<=1099511627776)/\0<=i.born/\i.born<=1099511627776
theorem Qya (name:Bj):ItB { Qbt with name:=name }:=by
 have h:(⟨#[]⟩:Bj).size=0:=rfl;unfold ItB Qbt;simp only[h];omega
theorem Xjz {s:St} {e:Ev} (h:ItB s.item) (he:X0 e=true) (hk:e.kind=11\/e.kind=12\/e.kind=13):ItB (Qb8 s e).item:=by
 have hc:=Qbj (Qb9.1 he).kind;have ha:=(Qb9.1 he).at_;obtain⟨h1,h2,h3,h4,h5⟩:=h;have hr:=Qj4 e.text;have ht:=Qdc he;unfold Qb8;split
 . next k =>
   have hl:Qc1 e.text=true/\0<=e.val/\e.val<=1048576:=by
    rcases hc with⟨h,_⟩ | ⟨h,_⟩ | ⟨h,_⟩ | ⟨_,_,_,h⟩ | ⟨h,_⟩ | ⟨h,_⟩ | ⟨h,_⟩
    . omega
    . omega
    . omega
    . exact h
    . omega
    . omega
    . omega
   have hn:Qr (Qcm e.text)=true:=(by have:=hl.1;unfold Qc1 at this;simp only[Zl] at this;exact this.1.2);have hs:=Qds hn;refine⟨by show (Qcm e.text).size<1000;omega,by show (Qa7 e.text).size<1000;omega,by show 0<=e.val/\e.val<=_;omega,h4,?_⟩;show 0<=(if s.born=true then s.item.born else e.at_)/\(if s.born=true then s.item.born else e.at_)<=_
   split
   . exact h5
   . exact ha
 . split
   . next k =>
     have hl:0<=e.val/\e.val<=1048576:=by
      rcases hc with⟨h,_⟩ | ⟨h,_⟩ | ⟨h,_⟩ | ⟨h,_⟩ | ⟨_,_,_,_,h⟩ | ⟨h,_⟩ | ⟨h,_⟩
      . omega
      . omega
      . omega
      . omega
      . exact h
      . omega
      . omega
     exact⟨h1,h2,h3,by show 0<=e.val/\e.val<=_;omega,h5⟩
   . exact⟨h1,h2,h3,h4,h5⟩
theorem Q2l:∀ cs:List Ev,(∀ e∈cs,X0 e=true/\(e.kind=11\/e.kind=12\/e.kind=13))->∀ name,∀ s∈Qz cs name,ItB s.item:=by
 refine Qv (fun _ name s hs=>by simp[Qz] at hs) fun l e ih h name s hs => ?_
 have ih:=ih (fun x hx=>h x (by simp[hx]));obtain⟨he,hk⟩:=h e (by simp);rw[Qba] at hs;unfold Qff Ql4 at hs;split at hs
 . rcases Zj.1 hs with hs | hs
   . exact ih _ s hs
   . rw[Zk] at hs;subst hs;unfold Qfb;refine Xjz ?_ he hk
     cases hq:(Qz l e.item).getLast? with
     | none=>exact Qya _
     | some s=>exact ih _ s (Zbn hq)
 . exact ih name s hs
theorem Xfc {z:List Ev} (hm:∀ e∈z,X0 e=true) (name:Bj) (t:Int):ItB (Xw (Ql z) name t).1:=by
 have hb:=Q2l (Ql z) (fun e he=>⟨hm e (Ze.1 he).1,by simpa [thB] using (Ze.1 he).2⟩) name;unfold Xw;split
 . next s hs =>
   split
   . exact Qya ⟨#[]⟩
   . exact hb s (Zax hs)
 . exact Qya ⟨#[]⟩
theorem Qvq (z:List Ev) (now:Int):(Qcp z now).length<=z.length:=by
 unfold Qcp;have h1:=Qmu (((Ql z).map (·.item)).filter (Qdj (Ql z) now));have h2:=Zc (Qdj (Ql z) now) ((Ql z).map (·.item));have h3:(Ql z).length<=z.length:=Zc thB z;rw[Zf] at h2;omega
theorem Q65:∀ l:List Ev,(Qik l).length<=l.length/\∀ x∈Qik l,∃ e∈l,e.item=x.1:=by
 refine Qv ⟨by simp[Qik],fun x hx=>by simp[Qik] at hx⟩ fun l e ih => ?_
 rw[Qnr,Zo,Za0];unfold Qq2;split
 . exact⟨Om,fun x hx=>by obtain⟨u,hu,h⟩:=ih.2 x hx;exact⟨u,by simp[hu],h⟩⟩
 . have:=Qb3 e.item (Xc ((Qe (Qik l) e.item).getD []) e.at_ ((Qe ((Qe (Qik l) e.item).getD []) e.at_).getD 0+Qy e)) (Qik l);refine⟨Om,fun x hx => ?_⟩;rcases Qbp hx with h | hx
   . exact⟨e,by simp,by rw[h]⟩
   . obtain⟨u,hu,h⟩:=ih.2 x hx;exact⟨u,by simp[hu],h⟩
theorem Xc4 (width:Int):∀ l:List Ev,(Qt1 width l).length<=l.length/\∀ x∈Qt1 width l,∃ e∈l,e.item=x.1.1:=by
 refine Qv ⟨by simp[Qt1],fun x hx=>by simp[Qt1] at hx⟩ fun l e ih => ?_
 rw[Qs3,Zo,Za0];unfold Qq1;split
 . exact⟨Om,fun x hx=>by obtain⟨u,hu,h⟩:=ih.2 x hx;exact⟨u,by simp[hu],h⟩⟩
 . have:=Qb3 (e.item,e.at_/Xd width) ((Qe (Qt1 width l) (e.item,e.at_/Xd width)).getD 0+Qy e) (Qt1 width l);refine⟨Om,fun x hx => ?_⟩;rcases Qbp hx with h | hx
   . exact⟨e,by simp,by rw[h]⟩
   . obtain⟨u,hu,h⟩:=ih.2 x hx;exact⟨u,by simp[hu],h⟩
def Xhi (l:List Ev) (q:Sn):Prop:=(∃ e∈l,e.person=q.person)/\(∃ e∈l,e.at_=q.from_)/\(∃ e∈l,e.at_=q.to_)/\∀ i∈q.items,∃ e∈l,e.item=i
theorem Xgk {gap:Int} {l:List Ev} {acc:List Sn} {e:Ev} (he:e∈l) (h:∀ q∈acc,Xhi l q):∀ q∈Qbn gap acc (adE e),Xhi l q:=by
 intro q hq;have hone:Xhi l ⟨(adE e).1,(adE e).2.1,(adE e).2.1,[(adE e).2.2]⟩:=⟨⟨e,he,rfl⟩,⟨e,he,rfl⟩,⟨e,he,rfl⟩,fun i hi=>⟨e,he,by rw[Zk] at hi;rw[hi];rfl⟩⟩;unfold Qbn at hq;split at hq
 . next g hg =>
   have hgm:=h g (Zbn hg);split at hq
   . rcases Zj.1 hq with hq | hq
     . exact h q (List.dropLast_subset _ hq)
     . rw[Zk] at hq;subst hq;refine⟨⟨e,he,rfl⟩,hgm.2.1,⟨e,he,rfl⟩,fun i hi => ?_⟩;rcases Qjo.1 hi with hi | hi
       . exact hgm.2.2.2 i hi
       . exact⟨e,he,by rw[hi];rfl⟩
   . rcases Zj.1 hq with hq | hq
     . exact h q hq
     . rw[Zk] at hq;subst hq;exact hone
 . rcases Zj.1 hq with hq | hq
   . exact h q hq
   . rw[Zk] at hq;subst hq;exact hone
theorem all_in (gap:Int) (l:List Ev):∀ L:List Ad3,(∀ a∈L,a∈l.map adE)->∀ q∈allL gap L,Xhi l q:=by
 refine Qv (fun _ q hq=>by simp[allL] at hq) fun L a ih h => ?_
 rw[Qi6];obtain⟨e,he,rfl⟩:=Zh.1 (h a (by simp));exact Xgk he (ih fun x hx=>h x (by simp[hx]))
theorem Xij (c:Cfg) (z:List Ev):∀ q∈Qg0 c z,Xhi (z.filter wpB) q:=by
 intro q hq;unfold Qg0 at hq;rw[<- Xaa _ (Q7e _).1] at hq;exact all_in _ _ _ (fun a ha=>(Qqj _).1 ha) q hq
theorem Qr7 (c:Cfg) (z:List Ev) {x:Bj} (h:x∈(Qg0 c z).flatMap (·.items)):x∈(z.filter wpB).map (·.item):=by
 obtain⟨q,hq,hx⟩:=Zbb.1 h;obtain⟨e,he,rfl⟩:=(Xij c z q hq).2.2.2 x hx;exact Zh.2 ⟨e,he,rfl⟩
theorem Xam {z:List Ev} {K:List Bj} (hn:K.Nodup) (h:∀ x∈K,x∈(z.filter wpB).map (·.item)):K.length<=z.length:=by
 have h1:=Qd3 hn h;have h2:=Zc wpB z;rw[Zf] at h1;omega
theorem Q7x (c:Cfg) (z:List Ev):(Qn6 (Qg0 c z)).length<=z.length:=Xam (Qcs _) fun x hx=>by
 unfold Qn6 at hx;exact Qr7 c z (X5.1 hx)
theorem Xcn (c:Cfg) (z:List Ev) (a:Bj):(Qem (Qg0 c z) a).length<=z.length:=Xam (Qcs _) fun x hx=>by
 unfold Qem at hx;exact Qr7 c z (Ze.1 (X5.1 hx)).1
theorem Q8o {c:Cfg} {z:List Ev} (hm:∀ e∈z,X0 e=true) {a x:Bj} (h:x∈Qem (Qg0 c z) a):Qr x=true:=by
 unfold Qem at h;obtain⟨e,he,rfl⟩:=Zh.1 (Qr7 c z (Ze.1 (X5.1 h)).1);exact(Qtt hm he).2
open Go.Maps Go.Sort Go.Shelf
theorem Qqm (mb:Option Nat) (w:World):Cal Tryz.prog 351 [.map mb] w fun r w'=>r = .func (.func 387) #[] #[Pj w.heap.size]/\w'.cell? ⟨w.heap.size,0,none⟩=some (.map mb)/\Ext w w' :=
 Qfw Tryz.keys351 ⟨_,Tryz.func351,rfl,rfl⟩ mb w
theorem Qwi {w:World} {Bm b:Nat} {L:List (Bj×Value)} (hc:w.cell? ⟨Bm,0,none⟩=some (.map (some b))) (hm:MapAt w b Value.string L) (hk:∀ x∈L,x.1.size<=1000000) (hl:L.length<=1000000000) :
 Cal Tryz.prog 38 [.func (.func 387) #[] #[Pj Bm]] w fun r w'=>∃ A c,r = .slice A (Xi (L.map (·.1))).length c/\Own Qab 1 9 w.heap.size w' A c (Xi (L.map (·.1)))/\Ext w w':=by
 obtain⟨N,Q,h1,h2,h3⟩:=Qg8 { Tryz.keys351 with } hc hm hk hl;exact Qdo Tryz.sorted38 Qwl (enters_of Tryz.func94 Kr rfl) (enters_of Tryz.func387 Kr rfl) ⟨_,Tryz.func38,rfl,rfl⟩ h2 h1 h3
theorem Qze {w:World} {Bm:Nat} (hc:w.cell? ⟨Bm,0,none⟩=some (.map none)) :
 Cal Tryz.prog 38 [.func (.func 387) #[] #[Pj Bm]] w fun r w'=>∃ A c,r = .slice A 0 c/\Own Qab 1 9 w.heap.size w' A c []/\Ext w w':=by
 have:=Qdo Tryz.sorted38 Qwl (enters_of Tryz.func94 Kr rfl) (enters_of Tryz.func387 Kr rfl) ⟨_,Tryz.func38,rfl,rfl⟩ (l := []) (fun ss (h:ss = [])=>by rw[h];exact Za1 _) (Zu _) (AnyZ.keys_gives_nil { Tryz.keys351 with } Fence.wide 2 trivial rfl Bm w (cell_lt hc) hc);simp only[Qf5,Qo2,Zam] at this;exact this
theorem Q39 (w:World) (S:Nat->Prop) (p:Nat) (Ss:List Sn) (h:Qbu w S p Ss) (a:Bj) (hn:∀ x∈Qem Ss a,x.size<=1000000) (hl:(Qem Ss a).length<=1000000) :
 Cal Tryz.prog 300 [Pj p,.string a] w fun r w'=>∃ A c,r = .slice A (Qem Ss a).length c/\SlT w' A (Qem Ss a)/\(∀ a,A=some a->w.heap.size<=a.block)/\Ext w w':=by
 obtain⟨t,sh,hp,⟨sg,ct,b1,b2,hL,hI⟩,_⟩:=h;refine Fi Tryz.func300 rfl _ rfl rfl (Hh ?_);refine⟨_,hp.one rfl,Gg ?_⟩;refine⟨_,hL.head.one rfl,Gg ?_⟩;rcases hL.ct.look Qaz Qw1 (Qo Xb) (e:=ty153) ty153_ok rfl a with⟨hno,hrd⟩ | ⟨bt,m,Sk,hsome,hrd,hIv,_,_⟩
 . have h0:=hI.near0 hno;rw[h0];refine⟨_,hrd .same Qp,Gg ?_⟩;refine(Qqm none w).mono ?_;rintro _ w1 ⟨rfl,hc1,hx1⟩;refine Gg ?_;refine(Qze hc1).mono ?_;rintro _ w2 ⟨A2,c2,rfl,ho2,hx2⟩;refine Gg ?_;exact⟨A2,c2,rfl,ho2.sl Qw,fun a ha=>Zv hx1.size (ho2.block ha).1,hx1.trans hx2⟩
 . have hm:=hIv.2;have hkn:m.Pairwise (fun x y=>x.1≠y.1):=(by have:=hm.keys;unfold Xj at this;rw[Z7] at this;exact this);have hit:=hI.near hsome hkn;have hk1:(Xj vi m).map (·.1)=m.map (·.1):=by unfold Xj;rw[Zy];rfl
   have hsl:m.length<=1000000:=(by have:=congrArg List.length hit;rw[Qcf,Zf] at this;omega);have hk:∀ x∈Xj vi m,x.1.size<=1000000:=fun x hx=>(by have h1:x.1∈(Xj vi m).map (·.1):=Zh.2 ⟨x,hx,rfl⟩;rw[hk1,<- Qf4,hit] at h1;exact hn _ h1)
   refine⟨_,hrd .same Qp,Gg ?_⟩;refine(Qqm (some bt) w).mono ?_;rintro _ w1 ⟨rfl,hc1,hx1⟩;refine Gg ?_;refine(Qwi hc1 (hm.ext hx1) hk (by unfold Xj;rw[Zf];omega)).mono ?_;rintro _ w2 ⟨A2,c2,rfl,ho2,hx2⟩;rw[hk1,hit] at ho2 ⊢;refine Gg ?_;exact⟨A2,c2,rfl,ho2.sl Qw,fun a ha=>Zv hx1.size (ho2.block ha).1,hx1.trans hx2⟩
