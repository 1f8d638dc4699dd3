import Derived.Test.YtpdonaienhociaaGreatDoorGXB
import Derived.Test.YtpdonaienhociaaGreatDoorGX
set_option linter.all false
namespace Go.Proofs.YtpdonaienhociaaGreatDoor
open Go.Se Go.RowKit Go.Sort
section
variable {α:Type}
def Qhl (lt:α->α->Bool) (L:List α):List α:=L.mergeSort fun a b => !lt b a
theorem Qb6 (lt:α->α->Bool) (L:List α):(Qhl lt L).Perm L:=Zbs _ _
theorem Xac {lt:α->α->Bool} (h:Go.Sort.SWO lt) (L:List α):Srt lt (Qhl lt L):=by
 have:=Za8 (le:=fun a b => !lt b a) (fun a b c h1 h2=>by
  simp only[Zai] at *;exact h.ntrans c b a h2 h1) (fun a b=>by
  cases h1:lt b a with
  | false=>rfl
  | true =>
    cases h2:lt a b with
    | false=>rfl
    | true=>have:=h.trans _ _ _ h1 h2;rw[h.irrefl] at this;cases this) L
 exact this.imp fun h=>Su h
theorem Qti {lt:α->α->Bool} (h:Go.Sort.SWO lt) {F L:List α} (hp:F.Perm L) (hs:Srt lt F) (ht:∀ x∈L,∀ y∈L,lt x y=false->lt y x=false->x=y):F=Qhl lt L :=
 Qk8 (hp.trans (Qb6 lt L).symm) hs (Xac h L) fun x hx y hy=>ht x (hp.mem_iff.1 hx) y (hp.mem_iff.1 hy)
def Qmx (P:α->Prop) [DecidablePred P] (L:List α):List { x // P x }:=L.filterMap fun x=>if h:P x then some ⟨x,h⟩ else none
theorem Qmy {P:α->Prop} [DecidablePred P]:∀ {L:List α},(∀ x∈L,P x)->(Qmx P L).map (·.1)=L
 | [],_=>rfl
 | x :: L,h=>by
   have ih:=Qmy (L:=L) fun y hy=>h y (by simp[hy])
   have hx:P x:=h x (by simp);unfold Qmx at ih ⊢;rw[List.filterMap_cons,dif_pos hx];simp only[Zm,ih]
theorem Q1t {P:α->Prop} [DecidablePred P]:∀ F:List { x // P x },Qmx P (F.map (·.1))=F
 | []=>rfl
 | x :: F=>by
   have ih:=Q1t F;unfold Qmx at ih ⊢;rw[Zm,List.filterMap_cons,dif_pos x.2];simp only[ih]
theorem Xak {P:α->Prop} [DecidablePred P] {L M:List α} (h:L.Perm M):(Qmx P L).Perm (Qmx P M):=h.filterMap _
theorem Qh3 {P:α->Prop} [DecidablePred P] {L:List α} {x:{ x // P x }}:x∈Qmx P L↔x.1∈L:=by
 unfold Qmx;rw[List.mem_filterMap];constructor
 . rintro ⟨y,hy,h⟩;split at h
   . cases h;exact hy
   . cases h
 . intro h;exact⟨x.1,h,by rw[dif_pos x.2]⟩
theorem Qra {P:α->Prop} [DecidablePred P] {lt:{ x // P x }->{ x // P x }->Bool} (h:Go.Sort.SWO lt) {F:List { x // P x }} {L:List α} (hp:(F.map (·.1)).Perm L) (hs:Srt lt F)
 (ht:∀ x∈Qmx P L,∀ y∈Qmx P L,lt x y=false->lt y x=false->x=y):F=Qhl lt (Qmx P L):=by
 refine Qti h ?_ hs ht;have:=Xak (P:=P) hp;rw[Q1t] at this;exact this
end
theorem key_inj {β:Type} {L:List (Bj×β)} (h:(L.map (·.1)).Nodup) {x y:Bj×β} (hx:x∈L) (hy:y∈L) (e:x.1=y.1):x=y:=by
 induction L with
 | nil=>simp at hx
 | cons a l ih =>
   rw[Zm,Zbc] at h;rcases Zr.1 hx with h1 | h1 <;> rcases Zr.1 hy with h2 | h2
   . rw[h1,h2]
   . subst h1;exact absurd (Zh.2 ⟨y,h2,e.symm⟩) h.1
   . subst h2;exact absurd (Zh.2 ⟨x,h1,e⟩) h.1
   . exact ih h.2 h1 h2
instance:DecidablePred Qrj:=fun x=>by unfold Qrj;exact inferInstance
theorem Q60 {a b:RiS} (h:ltOf Qii a b=false) (k:ltOf Qii b a=false):a.1.1=b.1.1:=by
 have hw:WC Qii:=(by rw[Qnm];refine WC.lex (WC.flip (Xbe (fun x:RiS=>riR x.1) fun x => ?_)) (WC.lex (WC.flip (Q14 fun x:RiS=>x.1.2.1)) (Qi1 fun x:RiS=>x.1.1));have:=x.2.2.1;unfold riR;simp only;omega);have e:Qii a b=0:=(by unfold ltOf at h k;simp only[decide_eq_false_iff_not] at h k;have:=hw.anti b a;omega);rw[Qnm] at e;unfold Qt0 at e;split at e
 . rename_i h1;exact absurd e h1
 split at e
 . rename_i h1;exact absurd e h1
 exact Qbx.1 e
def Xic (c:Cfg) (z:List Ev) (now:Int):List Ri :=
 Qce (Qi c.width z).ps ((Qis c now-2*c.span)/Xd c.width) ((Qis c now-c.span)/Xd c.width) (Qis c now/Xd c.width) c.floor
  (Qcv (Qi c.width z).ps ((Qis c now-c.span)/Xd c.width) (Qis c now/Xd c.width))
def Xib (c:Cfg) (z:List Ev) (now:Int):List RiS:=Qhl (ltOf Qii) (Qmx Qrj (Xic c z now))
theorem Qq3 (s:Qal) (a b d f lo hi:Int):((Qce s a b d f (Qcv s lo hi)).map (·.1)).Nodup:=by
 have h:(Qce s a b d f (Qcv s lo hi)).map (·.1)=((Qcv s lo hi).filter fun k=>decide (f<=(Xc7 s a b d k).2.1)):=by
  unfold Qce;generalize Qcv s lo hi=K
  induction K with
  | nil=>rfl
  | cons k K ih =>
    rw[Zm]
    by_cases hq:f<=(Xc7 s a b d k).2.1
    . rw[Zbk (Su hq),Zbk (Su hq),Zm,ih];rfl
    . rw[Zbl (Su hq),Zbl (Su hq),ih]
 rw[h];exact(Qcs _).sublist Zaw
theorem Xid {s:Qal} {a b d f lo hi:Int} {F:List RiS} (hp:(F.map (·.1)).Perm (Qce s a b d f (Qcv s lo hi))) (hs:Srt (ltOf Qii) F):F=Qhl (ltOf Qii) (Qmx Qrj (Qce s a b d f (Qcv s lo hi))) :=
 Qra Qur hp hs fun x hx y hy h1 h2=>Subtype.ext (key_inj (Qq3 s a b d f lo hi) (Qh3.1 hx) (Qh3.1 hy) (Q60 h1 h2))
abbrev Nr:=Bj×(Int×Int)
def Qp3 (x:Nr):Prop:=Qki 100000000 x.2
instance:DecidablePred Qp3:=fun x=>by unfold Qp3 Qki;exact inferInstance
abbrev NrS:={ x:Nr // Qp3 x }
instance:Inhabited NrS:=⟨⟨(⟨#[]⟩,0,1),by unfold Qp3 Qki;simp⟩⟩
def Xfg (a b:Nr):Int:=orL [Qpj b.2 a.2,Qch a.1 b.1]
def Qjd (a b:NrS):Int:=Xfg a.1 b.1
theorem Qup:Qjd=Qt0 (fun a b:NrS=>Qpj b.1.2 a.1.2) (fun a b:NrS=>Qch a.1.1 b.1.1):=by
 funext a b;unfold Qjd Xfg Qt0 orL
 by_cases h1:Qpj b.1.2 a.1.2=0
 . by_cases h3:Qch a.1.1 b.1.1=0 <;> simp[h1,h3]
 . simp[h1]
theorem Q0l:WC Qjd:=by
 rw[Qup];refine WC.lex (WC.flip (Xbe (fun x:NrS=>x.1.2) fun x => ?_)) (Qi1 fun x:NrS=>x.1.1);have:=x.2.2.2.1;omega
theorem Quq:SWO (ltOf Qjd):=Q0l.swo
theorem Q6z {a b:NrS} (h:ltOf Qjd a b=false) (k:ltOf Qjd b a=false):a.1.1=b.1.1:=by
 have e:Qjd a b=0:=(by unfold ltOf at h k;simp only[decide_eq_false_iff_not] at h k;have:=Q0l.anti b a;omega);rw[Qup] at e;unfold Qt0 at e;split at e
 . rename_i h1;exact absurd e h1
 exact Qbx.1 e
def Qgx (S:List Sn) (floor:Int) (a:Bj):List Nr:=((Qem S a).filter fun b=>decide (floor<=(Qdt S a b:Int))).map fun b=>(b,Qgw S a b)
def Qdv (K:List Bj) (m:List Nr) (x:Nr):List Nr :=
 if x.1∈K then m else match Qe m x.1 with
  | none=>Xc m x.1 x.2
  | some o=>if Qv2 o x.2=true then Xc m x.1 x.2 else m
def Qne (S:List Sn) (floor:Int) (K:List Bj):List Nr:=(K.flatMap (Qgx S floor)).foldl (Qdv K) []
def Q6a (S:List Sn) (floor:Int) (items:List Bj):List NrS:=Qhl (ltOf Qjd) (Qmx Qp3 (Qne S floor (Qcc items)))
theorem Qi8 {K:List Bj} {Q:Nr->Prop}:∀ (l:List Nr) (m:List Nr),(m.Pairwise fun x y=>x.1≠y.1)->(∀ x∈m,x.1∉K/\Q x)->(∀ x∈l,Q x) ->
 ((l.foldl (Qdv K) m).Pairwise fun x y=>x.1≠y.1)/\∀ x∈l.foldl (Qdv K) m,x.1∉K/\Q x
 | [],m,hm,hk,_=>⟨hm,hk⟩
 | y :: l,m,hm,hk,hl=>by
   rw[Zap];have hy:=hl y (by simp)
   have hset:y.1∉K->((Xc m y.1 y.2).Pairwise fun x y=>x.1≠y.1)/\∀ x∈Xc m y.1 y.2,x.1∉K/\Q x:=fun hyk=>⟨Qaf hm,fun x hx=>by
    rcases Qbp hx with h | h
    . rw[h];exact⟨hyk,hy⟩
    . exact hk x h⟩
   have hst:((Qdv K m y).Pairwise fun x y=>x.1≠y.1)/\∀ x∈Qdv K m y,x.1∉K/\Q x:=by
    unfold Qdv;split
    . exact⟨hm,hk⟩
    . next h =>
      split
      . exact hset h
      . split
        . exact hset h
        . exact⟨hm,hk⟩
   exact Qi8 l _ hst.1 hst.2 fun x hx=>hl x (by simp[hx])
theorem Q8p {S:List Sn} (hS:S.length<1000) {floor:Int} {a:Bj}:∀ x∈Qgx S floor a,Qp3 x:=fun x hx=>by
 unfold Qgx at hx;obtain⟨b,_,rfl⟩:=Zh.1 hx;have hN:(S.length:Int)*S.length<=100000000:=(by have:(S.length:Int)*S.length<=1000*1000:=Zbw Om Om Om Om;omega);exact Qyh hN Om a b
theorem Qxg {S:List Sn} (hS:S.length<1000) (floor:Int) (K:List Bj):((Qne S floor K).map (·.1)).Nodup/\∀ x∈Qne S floor K,x.1∉K/\Qp3 x:=by
 have h:=Qi8 (K:=K) (Q:=Qp3) (K.flatMap (Qgx S floor)) [] (by simp) (by simp) (fun x hx=>by
  obtain⟨a,_,hx⟩:=Zbb.1 hx;exact Q8p hS x hx)
 exact⟨Qam h.1,h.2⟩
theorem Xhj {S:List Sn} (hS:S.length<1000) {floor:Int} {items:List Bj} {F:List NrS} (hp:(F.map (·.1)).Perm (Qne S floor (Qcc items))) (hs:Srt (ltOf Qjd) F):F=Q6a S floor items :=
 Qra Quq hp hs fun x hx y hy h1 h2=>Subtype.ext (key_inj (Qxg hS floor _).1 (Qh3.1 hx) (Qh3.1 hy) (Q6z h1 h2))
theorem Q6b {S:List Sn} (hS:S.length<1000) {floor:Int} {items:List Bj}:((Q6a S floor items).map fun x=>x.1.1).Nodup:=by
 have h:=(Qxg hS floor (Qcc items));have h1:((Q6a S floor items).map fun x=>x.1.1).Perm ((Qne S floor (Qcc items)).map (·.1)):=(by have:=(Qb6 (ltOf Qjd) (Qmx Qp3 (Qne S floor (Qcc items)))).map (·.1);rw[Qmy fun x hx=>(h.2 x hx).2] at this;have:=this.map (·.1);rw[Zy] at this;exact this);exact h1.nodup_iff.2 h.1
def Qlg (z:List Ev) (person:Bj):List Ev:=(Qej z person).filter fun e=>decide (0<Qy e)
def Xjq (z:List Ev) (person:Bj):List Bj:=(Qlg z person).map (·.item)
def Qlk (half now:Int) (m:List Ct) (e:Ev):List Ct:=Xc m e.item ((Qe m e.item).getD 0+Qp1 half now e)
def Qfi (half now:Int) (l:List Ev):List Ct:=l.foldl (Qlk half now) []
theorem Qhx (half now:Int) (l:List Ev) (e:Ev):Qfi half now (l ++ [e])=Qlk half now (Qfi half now l) e:=by unfold Qfi;rw[Zt];rfl
def Qpw (half now:Int) (l:List Ev) (x:Bj):Int:=((l.filter fun e=>decide (e.item=x)).map (Qp1 half now)).sum
theorem Qqq (half now:Int) (l:List Ev) (e:Ev) (x:Bj):Qpw half now (l ++ [e]) x=Qpw half now l x+if e.item=x then Qp1 half now e else 0:=by
 unfold Qpw;rw[Zq,Zp,Zbd];congr 1
 by_cases h:e.item=x
 . simp[h]
 . simp[h]
theorem Qkt (half now:Int):∀ l:List Ev,(Qfi half now l).Pairwise (fun x y=>x.1≠y.1) :=
 Qv (by simp[Qfi]) fun l e ih=>by rw[Qhx];exact Qaf ih
theorem Qqp (half now:Int) (x:Bj):∀ l:List Ev,Qe (Qfi half now l) x=if x∈l.map (·.item) then some (Qpw half now l x) else none:=by
 refine Qv (by simp[Qfi,Qe]) fun l e ih => ?_
 rw[Qhx,Qqq];unfold Qlk;rw[Xn,Zp,Zm,Zb8]
 by_cases h:x=e.item
 . subst h;rw[if_pos rfl,if_pos (by simp),if_pos rfl,ih]
   by_cases h2:e.item∈l.map (·.item)
   . rw[if_pos h2];rfl
   . rw[if_neg h2]
     have:Qpw half now l e.item=0:=by
      unfold Qpw;rw[List.filter_eq_nil_iff.2]
      . rfl
      . intro y hy hq;exact h2 (Zh.2 ⟨y,hy,Su hq⟩)
     rw[this];rfl
 . rw[if_neg h,ih];have h3:¬ e.item=x:=fun q=>h q.symm
   by_cases h2:x∈l.map (·.item)
   . rw[if_pos h2,if_pos (by simp[h2]),if_neg h3,Int.add_zero]
   . rw[if_neg h2,if_neg (by simp only[Zj,Zk];rintro (q | q);exact h2 q;exact h q)]
theorem Qoc (half now:Int) (x:Bj):∀ l:List Ev,(∀ e∈l,X0 e=true)->0<=Qpw half now l x/\Qpw half now l x<=l.length*5242880:=by
 refine Qv (by simp[Qpw]) fun l e ih hm => ?_
 have h1:=ih fun y hy=>hm y (by simp[hy])
 have h2:=Qh4 (half:=half) (now:=now) (hm e (by simp));rw[Qqq,Zo,Z8,Zam];split
 . constructor
   . omega
   . push_cast;omega
 . constructor
   . omega
   . push_cast;omega
theorem Qvh {half now:Int} {l:List Ev} {x:Ct} (h:x∈Qfi half now l):x.1∈l.map (·.item)/\x.2=Qpw half now l x.1:=by
 have:=Qdk (Qkt half now l) (k:=x.1) (v:=x.2) h;rw[Qqp] at this;split at this
 . next h1=>exact⟨h1,(Zbe this).symm⟩
 . cases this
theorem Qug (name:Bj):∀ cs:List Ev,∀ s∈Qz cs name,s.item.name=name:=by
 refine Qv (by simp[Qz]) fun cs e ih => ?_
 rw[Qba];unfold Qff Ql4
 by_cases hn:name=e.item
 . subst hn;rw[if_pos rfl];intro s hs;rcases Zj.1 hs with hs | hs
   . exact ih s hs
   . rw[Zk] at hs;subst hs;unfold Qfb;rw[Qzk]
     cases hl:(Qz cs e.item).getLast? with
     | none=>rfl
     | some s0=>exact ih s0 (Zbn hl)
 . rw[if_neg hn];exact ih
theorem Q2k {cs:List Ev} {name:Bj} {t:Int} (h:(Xw cs name t).2=true):(Xw cs name t).1.name=name:=by
 unfold Xw at *;split at h
 . next s hs =>
   split at h
   . cases h
   . next hne =>
     rw[if_neg hne];exact Qug name cs s (Zax hs)
 . cases h
theorem Q79 {cs:List Ev} {name:Bj} {t:Int} (h:Qdj cs t name=true):(Xw cs name t).1.name=name:=Q2k (by
 unfold Qdj at h;rw[Zl] at h;exact h.1)
theorem Qku {cs:List Ev} {t:Int} {x:Bj} (h:Qdj cs t x=true):x∈cs.map (·.item):=by
 cases hr:Qz cs x with
 | nil =>
   unfold Qdj Xw at h;rw[hr] at h;simp at h
 | cons s l =>
   obtain⟨e,he,hi,_⟩:=(Qp9 x s.at_ cs).1 (by rw[hr];simp);exact Zh.2 ⟨e,he,hi⟩
theorem Qu1:∀ l:List Ev,(Qik l).Pairwise (fun x y=>x.1≠y.1):=by
 refine Qv (by simp[Qik]) fun l e ih => ?_
 rw[Qnr];unfold Qq2;split
 . exact ih
 . exact Qaf ih
theorem Qky {z:List Ev} {now:Int} {x:Bj}:x∈Qcp z now↔Qdj (Ql z) now x=true:=by
 unfold Qcp;rw[X5,Ze];exact⟨fun h=>h.2,fun h=>⟨Qku h,h⟩⟩
def Qij (rs:List Row) (person item:Bj):Bool:=(Qe (Xk rs).done (person,item)).getD false
def Q5w (rs:List Row) (person item:Bj):Bool:=(Qe (Xk rs).hidden (person,item)).getD false
def keepR (rs:List Row) (person:Bj) (x:Ct):Bool := !(decide (x.2<=0)||(Qij rs person x.1||Q5w rs person x.1))
def thC (z:List Ev) (now:Int):List It:=(Qcp z now).map fun n=>(Xw (Ql z) n now).1
def Xhu (t:It):Ct:=(t.name,t.born)
def Q1a (z:List Ev) (now:Int) (q:It->Bool):List Ct:=Qgk (((thC z now).filter q).map Xhu)
def Xg8 (z:List Ev) (person:Bj) (t:It):Bool:=Q0t z person t.maker
def Xix (c:Cfg) (now:Int) (t:It):Bool:=decide (now-t.born<=c.span)
def Xjk (c:Cfg) (z:List Ev) (person:Bj) (now:Int):List Ct:=Qgk ((Qfi c.half now (Qlg z person)).filter (keepR (Qi c.width z).rs person))
def Qev (c:Cfg) (z:List Ev) (person:Bj) (now:Int) (r:Nat):List Bj :=
 if r=0 then(Qgk (Qg1 (Qi c.width z).ds (Xd c.half) now)).map (·.1)
 else if r=1 then(Xib c z now).map fun x=>x.1.1
 else if r=2 then(Q6a (Qg0 c z) 1 (Xjq z person)).map fun x=>x.1.1
 else if r=3 then(Q1a z now (Xg8 z person)).map (·.1)
 else if r=4 then(Q1a z now (Xix c now)).map (·.1)
 else if r=5 then(Xjk c z person now).map (·.1)
 else []
def Qgy (c:Cfg) (z:List Ev) (person:Bj) (now r limit:Int):List Bj :=
 if 0<=r/\r<=5/\0<=now/\now<=1099511627776 then(Qev c z person now r.toNat).take limit.toNat else []
theorem Q8n {z:List Ev} {now:Int} {K:List Bj} (hn:K.Nodup) (hm:∀ x,x∈K↔Qdj (Ql z) now x=true):Xi K=Qcp z now :=
 Qiz hn fun x=>by
  rw[hm,Ze];exact⟨fun h=>⟨Qku h,h⟩,fun h=>h.2⟩
theorem Qk7 (l:List Ct):((Qgk l).map (·.1)).Perm (l.map (·.1)):=(Qf3 l).map _
theorem Q5i {s:Qld} (h:s.Pairwise fun x y=>x.1≠y.1) (half now:Int):((Qg1 s half now).map (·.1)).Nodup:=by
 have hn:=Qam h
 have:∀ K:List Bj,(((K.map fun k=>(k,Qby s half k now)).filter fun x=>decide (0<x.2)).map (·.1))=K.filter fun k=>decide (0<Qby s half k now):=by
  intro K
  induction K with
  | nil=>rfl
  | cons k K ih =>
    rw[Zm]
    by_cases hq:0<Qby s half k now
    . rw[Zbk (Su hq),Zbk (Su hq),Zm,ih]
    . rw[Zbl (Su hq),Zbl (Su hq),ih]
 unfold Qg1;rw[this];exact hn.sublist Zaw
theorem Qww (z:List Ev) (now:Int):(thC z now).map (·.name)=Qcp z now:=by
 unfold thC;rw[Zy]
 conv=>rhs;rw[<- List.map_id (Qcp z now)]
 exact Za7 fun x hx=>Q79 (Qky.1 hx)
theorem Qsr (z:List Ev) (now:Int) (q:It->Bool):((Q1a z now q).map (·.1)).Perm (((thC z now).filter q).map (·.name)):=by
 unfold Q1a;refine(Qk7 _).trans ?_;rw[Zy];exact Za1 _
theorem Qvr (z:List Ev) (now:Int) (q:It->Bool):((Q1a z now q).map (·.1)).Nodup:=by
 refine(Qsr z now q).nodup_iff.2 ?_;have h:(Qcp z now).Nodup:=Qcs _;rw[<- Qww] at h;exact h.sublist (Zaw.map _)
theorem Q34 {z:List Ev} {now:Int} {q:It->Bool} {x:Bj} (h:x∈(Q1a z now q).map (·.1)):Qdj (Ql z) now x=true:=by
 have h1:=(Qsr z now q).mem_iff.1 h;obtain⟨t,ht,rfl⟩:=Zh.1 h1;have h2:=(Ze.1 ht).1;have:t.name∈(thC z now).map (·.name):=Zh.2 ⟨t,h2,rfl⟩;rw[Qww] at this;exact Qky.1 this
theorem Qx0 {L:List Ct} (h:L.Pairwise fun x y=>x.1≠y.1) (q:Ct->Bool):((L.filter q).map (·.1)).Nodup:=(Qam h).sublist (Zaw.map _)
theorem Q57 (c:Cfg) (z:List Ev) (person:Bj) (now:Int):((Xjk c z person now).map (·.1)).Nodup:=(Qk7 _).nodup_iff.2 (Qx0 (Qkt _ _ _) _)
theorem Q9g (c:Cfg) (z:List Ev) (now:Int):((Xib c z now).map fun x=>x.1.1).Nodup:=by
 have h:((Xib c z now).map fun x=>x.1.1).Perm (((Qmx Qrj (Xic c z now)).map (·.1)).map (·.1)):=by
  have:=(Qb6 (ltOf Qii) (Qmx Qrj (Xic c z now))).map fun x=>x.1.1
  rw[Zy];exact this
 refine h.nodup_iff.2 ?_
 have hs:∀ L:List Ri,(((Qmx Qrj L).map (·.1)).map (·.1)).Sublist (L.map (·.1)):=by
  intro L
  induction L with
  | nil=>exact List.Sublist.refl _
  | cons x L ih =>
    unfold Qmx at ih ⊢;rw[List.filterMap_cons]
    by_cases hx:Qrj x
    . rw[dif_pos hx];simp only[Zm];exact ih.cons_cons _
    . rw[dif_neg hx];exact ih.cons _
 exact(Qq3 _ _ _ _ _ _ _).sublist (hs _)
theorem Qq5 {c:Cfg} {z:List Ev} (hS:(Qg0 c z).length<1000) (person:Bj) (now:Int) (r:Nat):(Qev c z person now r).Nodup:=by
 unfold Qev;split
 . refine(Qk7 _).nodup_iff.2 (Q5i ?_ _ _);rw[(Qc0 c.width z).1];exact Qu1 _
 split
 . exact Q9g c z now
 split
 . exact Q6b hS
 split
 . exact Qvr _ _ _
 split
 . exact Qvr _ _ _
 split
 . exact Q57 _ _ _ _
 . exact List.nodup_nil
theorem Qyw {c:Cfg} {z:List Ev} (hS:(Qg0 c z).length<1000) (person:Bj) (now r limit:Int):(Qgy c z person now r limit).Nodup:=by
 unfold Qgy;split
 . exact(Qq5 hS person now _).sublist (Zcz _ _)
 . exact List.nodup_nil
theorem Q9m {c:Cfg} {z:List Ev} {person:Bj} {now r limit:Int} {x:Bj} (h:x∈Qgy c z person now r limit):x∈Qev c z person now r.toNat:=by
 unfold Qgy at h;split at h
 . exact Zbo h
 . cases h
end Go.Proofs.YtpdonaienhociaaGreatDoor
namespace Go.Proofs.YtpdonaienhociaaGreatDoor
open Go.Se Go.RowKit
def Qmg (e:Ev):Bool:=decide (Qy e<=0)
def dV:Value := .func (.func 220) #[] #[]
theorem Qnq (e:Ev) (w:World):Cal Tryz.prog 220 [evV e] w fun r w'=>r = .bool (Qmg e)/\Ext w w':=by
 refine Fi Tryz.func220 rfl _ rfl rfl (Hh ?_);intro b1 w1 hn1;refine Gg ?_;have h1:At w1 b1 77 (evC e):=hn1.At;refine⟨evC e,⟨rfl,h1.all⟩,Gg ?_⟩;refine(Qcu e w1).mono ?_;rintro _ w2 ⟨rfl,hx2⟩;refine Gg ?_;exact⟨rfl,hn1.ext.trans hx2⟩
theorem Quw (l:List Ev) (A:Option Addr) (c:Nat) (w:World) (hs:SlE w A l) (hl:l.length<1000000) :
 Cal Tryz.prog 298 [.slice A l.length c,dV] w fun r w'=>r = Vj (match l.findIdx? (Qmg) with | some i=>(i:Int) | none => -1)/\Ext w w':=by
 refine Fi Tryz.func298 rfl _ rfl rfl (Hh ?_)
 refine Qh Qb (fun(k:Nat) w'=>k<=l.length/\Ext w w'/\∀ x∈l.take k,Qmg x=false)
  (fun k => [(0,.slice A l.length c),(1,dV),(7,Vj l.length),(8,Vj (k:Nat))]) (fun k=>l.length-k) 0 ⟨Zu _,Ext.refl _,by simp⟩ Rr ?_
 rintro k w1 ⟨hk,hx,hall⟩;refine Hh ?_;constructor
 . intro hlt;have hlt:k<l.length:=Su hlt;obtain⟨a,rfl,hc⟩:=(hs.ext hx).get hlt;have htk:=Qc3 l k hlt;have hfi:Qmg l[k]=true->l.findIdx? (Qmg)=some k:=fun h=>(by rw[Zab];refine⟨hlt,h,fun j hj => ?_⟩;have hjl:j<l.length:=Om;have:=hall l[j] (by rw[Zb4];exact⟨j,Om,rfl⟩);simp[this])
   generalize l[k]=x at hc htk hfi;refine Gg ?_;refine⟨a,Ix,Gg ?_⟩;refine⟨evC x,⟨rfl,hc⟩,Gg ?_⟩;refine(Qnq x w1).mono ?_;rintro _ w2 ⟨rfl,hx2⟩;refine Gg ?_;constructor
   . intro h;rw[hfi h];refine Gg ?_;exact⟨rfl,hx.trans hx2⟩
   . intro h;have h:Qmg x=false:=h;refine Gg ?_;refine⟨_,wrap_succ Om,Gg ?_⟩;refine⟨k+1,Om,⟨Om,hx.trans hx2,fun y hy => ?_⟩,Rr⟩;rw[htk] at hy;rcases Zj.1 hy with hy | hy
     . exact hall y hy
     . rw[Zk] at hy;rw[hy];exact h
 . intro hge;have hge:l.length<=k:=Su hge;rw[Zb hge] at hall;have:l.findIdx? (Qmg)=none:=(by rw[Zav];exact hall);rw[this];refine Gg ?_;exact⟨rfl,hx⟩
set_option maxHeartbeats 2000000 in
theorem Q63 (l:List Ev) (a:Addr) (c base:Nat) (w:World) (hown:Own evC 8 77 base w (some a) c l) (hl:l.length<1000000) (hany:l.any (Qmg)=true) :
 Cal Tryz.prog 219 [.slice (some a) l.length c,dV] w fun r w'=>r = .slice (some a) (l.filter fun e => !Qmg e).length c/\Own evC 8 77 base w' (some a) c (l.filter fun e => !Qmg e)/\Mod (fun k=>k=a.block) w w':=by
 have hle:=hown.le
 obtain⟨i0,hi0,hq0,hb0⟩:∃ i,∃ (h:i<l.length),Qmg l[i]=true/\∀ j (hj:j<i),Qmg (l[j]'Om)=false:=by
  cases h:l.findIdx? (Qmg) with
  | none =>
    rw[Zav] at h;obtain⟨x,hx,hq⟩:=Zcb.1 hany;rw[h x hx] at hq;cases hq
  | some i =>
    rw[Zab] at h;obtain⟨h1,h2,h3⟩:=h;exact⟨i,h1,h2,fun j hj=>by simpa using h3 j hj⟩
 have hfi:l.findIdx? (Qmg)=some i0:=(by rw[Zab];exact⟨hi0,hq0,fun j hj=>by simp[hb0 j hj]⟩);have hf0:(l.take (i0+1)).filter (fun e => !Qmg e)=l.take i0:=(by rw[Qci _ l i0 hi0,hq0];simp only[Zcs,Zag,if_false,Zw];rw[Zcj];intro x hx;rw[Zb4] at hx;obtain⟨j,hj,rfl⟩:=hx;rw[hb0 j Om];rfl);refine Fi Tryz.func219 rfl _ rfl rfl (Hh ?_);refine(Quw l (some a) c w (hown.sl Qag) hl).mono ?_;rintro _ w1 ⟨rfl,hx1⟩;rw[hfi];replace hown:=hown.ext hx1;refine Gg ?_;constructor
 . intro h;simp at h
 intro _;refine Gg ?_;refine⟨_,wrap_succ Om,Gg ?_⟩
 refine Qh Qb (fun(x:Nat×Nat×List Ev) w'=>x.1<=l.length/\x.2.1<x.1/\x.2.2.length=l.length/\x.2.2.take x.2.1=(l.take x.1).filter (fun e => !Qmg e)/\x.2.2.drop x.1=l.drop x.1/\Own evC 8 77 base w' (some a) c x.2.2/\Mod (fun k=>k=a.block) w w')
  (fun | (j,i,U) => [(0,.slice (some a) l.length c),(1,dV),(5,Vj (i:Nat)),(6,Vj (j:Nat))]) (fun x=>l.length-x.1) (i0+1,i0,l) ⟨Sj,Sj,rfl,hf0.symm,rfl,hown,Mod.of_ext hx1⟩ Rr ?_
 clear hown hx1 hf0 hfi hb0 hq0;rintro ⟨j,i,U⟩ w2 ⟨hj,hij,hUl,hUt,hUd,hown,hM2⟩;simp only at hj hij hUl hUt hUd hown;refine Hh ?_;constructor
 . intro hlt;have hlt:j<l.length:=Su hlt;have hjU:j<U.length:=Om;obtain⟨a',ha',hc⟩:=(hown.sl Qag).get hjU;injection ha' with ha';subst ha'
   have hUj:U[j]=l[j]:=by
    have h1:(U.drop j)[0]? = (l.drop j)[0]? := by rw[hUd]
    rw[Zbz,Zbz,Zc2,Zd hjU,Zd hlt] at h1;exact Zbe h1
   have hst:=Qci (fun e => !Qmg e) l j hlt;rw[<- hUt] at hst;have hUd2:U.drop (j+1)=l.drop (j+1):=by rw[<- List.drop_drop,<- List.drop_drop,hUd]
   rw[hUj] at hc;generalize l[j]=v at hc hst;refine Gg ?_;refine⟨a,Ix,Gg ?_⟩;refine⟨evC v,⟨rfl,hc⟩,Gg ?_⟩;intro b7 w3 hn3;refine Gg ?_;refine Qc Qb (e:=ty77) rfl hn3.At rfl rfl rfl (Qbg v) fun w4 h7 ho4 => ?_
   have h7:At w4 b7 77 (evC v):=h7;have hx24:Ext w2 w4:=ho4.ext hn3.ext (by rw[hn3.block];exact Zg _);clear ho4 hn3;refine Gg ?_;refine⟨evC v,⟨rfl,h7.all⟩,Gg ?_⟩;refine(Qnq v w4).mono ?_;rintro _ w5 ⟨rfl,hx5⟩;have hx25:=hx24.trans hx5;have h75:=h7.ext hx5;replace hown:=hown.ext hx25;replace hM2:=hM2.trans (Mod.of_ext hx25);clear hx24 hx5 hx25 h7;refine Gg ?_;constructor
   . intro hq;have hq:Qmg v=false:=Su hq;rw[hq] at hst;simp only[Zc3,if_true] at hst;refine Gg ?_;refine⟨evC v,⟨rfl,h75.all⟩,Gg ?_⟩;refine⟨a,Ix,Gg ?_⟩;refine Qpa Qb (e:=ty77) rfl rfl Qag Qbg (k:=i) Om v rfl hown fun w6 hown6 ho6 => ?_
     refine Gg ?_;refine⟨_,wrap_succ Om,Gg ?_⟩;refine⟨_,wrap_succ Om,Gg ?_⟩;refine⟨(j+1,i+1,U.set i v),Sj,⟨Sj,Sj,by simp only;rw[Zbq];exact hUl,?_,?_,hown6,hM2.trans (Qj ho6 rfl)⟩,Rr⟩
     . simp only;rw[hst,List.take_set,List.take_add_one,Zd (by omega:i<U.length)];rw[Zb6 _ _ (by rw[Zn];omega)];simp[Zn,Nat.min_eq_left (by omega:i<=U.length)]
     . simp only;rw[List.drop_set_of_lt Om];exact hUd2
   . intro hq;have hq:Qmg v=true:=Su hq;rw[hq] at hst;simp only[Zcs,Zag,if_false,Zw] at hst;refine Gg ?_;refine⟨_,wrap_succ Om,Gg ?_⟩;exact⟨(j+1,i,U),Sj,⟨Sj,Sj,hUl,hst.symm,hUd2,hown,hM2⟩,Rr⟩
 intro hge;have hge:l.length<=j:=Su hge;rw[Zb hge] at hUt;have hil:i<U.length:=Om;have hfl:(l.filter fun e => !Qmg e).length=i:=by rw[<- hUt,Zn];omega
 rw[hfl];have hsl:(if((c:Nat):Int).toNat=((i:Nat):Int).toNat then some a else(some a).map (·.add (((i:Nat):Int).toNat*8)))=some (a.add (i*8)):=(by rw[Za4,Za4,if_neg Om];rfl);refine Gg ?_;refine⟨⟨Om,Om,Om,Om⟩,Gg ?_⟩;rw[hsl];refine Quk Xgy ty77_ok rfl (by simp[Qg,ty77,Value.oneCell']) Qag hil hown (by simp;omega) fun w6 hown6 ho6 => ?_
 rw[hUt] at hown6;refine Gg ?_;refine⟨⟨Om,Om,Om,Om⟩,Gg ?_⟩;refine⟨?_,hown6,hM2.trans (Qj ho6 rfl)⟩;have e0:a.add 0=a:=by unfold Addr.add;simp
 simp[e0]
theorem Q1b (l:List Ev):(l.filter fun e => !Qmg e)=l.filter fun e=>decide (0<Qy e):=by
 congr 1;funext e;unfold Qmg
 by_cases h:Qy e<=0
 . simp[h]
   try omega
 . simp[h]
   try omega
theorem Quv (l:List Ev) (A:Option Addr) (c base:Nat) (w:World) (hown:Own evC 8 77 base w A c l) (hl:l.length<1000000) :
 Cal Tryz.prog 219 [.slice A l.length c,dV] w fun r w'=>r = .slice A (l.filter fun e=>decide (0<Qy e)).length c/\Own evC 8 77 base w' A c (l.filter fun e=>decide (0<Qy e))/\∀ w0,Ext w0 w->w0.heap.size<=base->Ext w0 w':=by
 by_cases hany:l.any Qmg=true
 . obtain⟨a,rfl⟩:∃ a,A=some a:=by
    cases A with
    | some a=>exact⟨a,rfl⟩
    | none =>
      cases l with
      | nil=>simp at hany
      | cons x l=>obtain⟨a,ha,_⟩:=(hown.sl Qag) 0 x rfl;cases ha
   refine(Q63 l a c base w hown hl hany).mono ?_;rintro _ w' ⟨rfl,ho,hM⟩;rw[Q1b] at ho ⊢;refine⟨rfl,ho,fun w0 hx hb=>Qdr hx (T:=fun k=>k=a.block) (fun k hk => ?_) hM⟩;have:=(hown.block rfl).1;omega
 . have hany:l.any Qmg=false:=Su hany;have hf:(l.filter fun e=>decide (0<Qy e))=l:=(by rw[<- Q1b,Zcj];intro x hx;have:=List.any_eq_false.1 hany x hx;simpa using this);have hfi:l.findIdx? Qmg=none:=(by rw[Zav];intro x hx;simpa using List.any_eq_false.1 hany x hx);rw[hf];refine Fi Tryz.func219 rfl _ rfl rfl (Hh ?_);refine(Quw l A c w (hown.sl Qag) hl).mono ?_;rintro _ w1 ⟨rfl,hx1⟩;rw[hfi];refine Gg ?_;constructor
   . intro _;refine Gg ?_;exact⟨rfl,hown.ext hx1,fun w0 hx hb=>hx.trans hx1⟩
   . intro h;simp at h
theorem Qqc {w:World} {T:Nat->Prop} {p:Nat} {c:Cfg} {z:List Ev} {v:Value} (h:WQ w T p c z v) (person:Bj) :
 Cal Tryz.prog 154 [Pj p,.string person] w fun r w'=>∃ A cp,r = .slice A (Qlg z person).length cp/\Own evC 8 77 w.heap.size w' A cp (Qlg z person)/\Ext w w':=by
 have hz:(Qao z).length<1000000:=(by have h2:=Zc peB z;have:=h.len;unfold Qao;omega);refine Fi Tryz.func154 rfl _ rfl rfl (Hh ?_);refine(X6 h).mono ?_;rintro _ w4 ⟨pw,S4,rfl,hcr,hx4⟩;refine Hh ?_;have he:=(Qbz c.width z).2
 refine(Qg7 w4 S4 pw _ _ hcr person (by
  have:(evs (Qi c.width z).rs).length=(Qao z).length:=by rw[he]
  simp[evs] at this;omega)).mono ?_
 rintro _ w5 ⟨A5,c5,rfl,ho5,hx5⟩;rw[he] at ho5 ⊢;rw[show hist (Qao z) person=Qej z person from rfl] at ho5 ⊢;have hhl:(Qej z person).length<1000000:=Zb0 (Zc _ _) hz;refine Hh ?_;refine(Quv _ A5 c5 w4.heap.size w5 ho5 hhl).mono ?_;rintro _ w6 ⟨rfl,ho6,hx6⟩;refine Hh ?_;have hx:=hx6 w (hx4.trans hx5) hx4.size;rw[show (Qej z person).filter (fun e=>decide (0<Qy e))=Qlg z person from rfl] at ho6 ⊢;exact⟨A5,c5,rfl,ho6.base hx4.size,hx⟩
end Go.Proofs.YtpdonaienhociaaGreatDoor
namespace Go.Proofs.YtpdonaienhociaaGreatDoor
open Go.Se Go.RowKit Go.Shelf Go.Sort Go.Maps Go.WideElems
def byT (x:Bj):List UInt8:=x.data.toList
theorem Xfa {a b:Bj} (h:byT a=byT b):a=b:=by
 have:=congrArg List.toArray h;unfold byT at this;simp at this;cases a;cases b;simpa using this
theorem Qqa {d e:Array (List UInt8)}:∀ m:Nat,(∀ j,j<m->d[j]! = e[j]!)->Lib.compactUpTo d m=Lib.compactUpTo e m
 | 0,_=>rfl
 | m+1,h=>by
   rw[Lib.compactUpTo_succ,Lib.compactUpTo_succ,Qqa m fun j hj=>h j Om];have hk:Lib.keeps d m=Lib.keeps e m:=(by unfold Lib.keeps;rw[h m Om,h (m-1) Om]);rw[hk,h m Om]
theorem Qpr:∀ l:List Bj,Srt bLt l->∃ K:List Bj,Lib.compact (l.map byT)=K.map byT/\K.Nodup/\(∀ x,x∈K↔x∈l)/\Srt bLt K:=by
 refine Qv (fun _=>⟨[],rfl,List.nodup_nil,by simp,Srt.nil⟩) fun l a ih hs => ?_
 obtain⟨K,h1,h2,h3,h4⟩:=ih hs.left
 have hup:Lib.compactUpTo ((l ++ [a]).map byT).toArray l.length=K.map byT:=by
  rw[<- h1];unfold Lib.compact;rw[Zf];refine Qqa _ fun j hj => ?_
  rw[getElem!_pos _ j (by simp;omega),getElem!_pos _ j (Su hj)];simp only[List.getElem_toArray,List.getElem_map,List.getElem_append_left hj]
 have hlast:((l ++ [a]).map byT).toArray[l.length]! = byT a:=(by rw[getElem!_pos _ l.length (by simp)];simp);have hc:Lib.compact ((l ++ [a]).map byT)=K.map byT++(if Lib.keeps ((l ++ [a]).map byT).toArray l.length then [byT a] else []):=(by unfold Lib.compact;rw[Zf,Zo,Z8,Zam,Lib.compactUpTo_succ,hup,hlast]);rw[hc];have hsa:∀ u∈l,bLt a u=false:=fun u hu=>hs.across u hu a (by simp)
 cases hk:Lib.keeps ((l ++ [a]).map byT).toArray l.length with
 | true =>
   have hne:a∉l:=by
    intro ha;rcases Zbj l with rfl | ⟨l0,b,hb⟩
    . simp at ha
    . have hb:l=l0 ++ [b]:=Su hb
      have hab:a≠b:=by
       rintro rfl;unfold Lib.keeps at hk;rw[decide_eq_true_eq] at hk;rcases hk with hk | hk
       . rw[hb] at hk;simp at hk
       . apply hk;rw[hlast,getElem!_pos _ (l.length-1) (by simp;omega)];simp[hb]
      rcases (by rw[hb,Zj,Zk] at ha;exact ha:a∈l0\/a=b) with h | h
      . have q1:bLt b a=false:=(by have:=hs.left;rw[hb] at this;exact this.across a h b (by simp));have q2:bLt a b=false:=hsa b (by rw[hb];simp);exact hab (Qbw q2 q1)
      . exact hab h
   refine⟨K ++ [a],by simp,?_,fun x => ?_,?_⟩
   . rw[Zcy]
     exact⟨h2,by simp,fun u hu v hv=>by
      rw[Zk] at hv;subst hv;rintro rfl;exact hne ((h3 _).1 hu)⟩
   . rw[Zj,Zj,h3]
   . exact Srt.append h4 (Srt.one a) fun u hu v hv=>(by rw[Zk] at hv;subst hv;exact hsa u ((h3 u).1 hu))
 | false =>
   have hin:a∈l:=by
    unfold Lib.keeps at hk;rw[decide_eq_false_iff_not] at hk;rcases Zbj l with rfl | ⟨l0,b,hb⟩
    . exact absurd (.inl rfl) hk
    . have hb:l=l0 ++ [b]:=Su hb;have e:((l ++ [a]).map byT).toArray[l.length]! = ((l ++ [a]).map byT).toArray[l.length-1]! := Classical.byContradiction fun hne=>hk (.inr hne)
      rw[hlast,getElem!_pos _ (l.length-1) (by simp;omega)] at e;have e2:byT a=byT b:=by rw[e];simp[hb]
      rw[Xfa e2,hb];simp
   refine⟨K,by simp,h2,fun x => ?_,h4⟩;rw[h3,Zj,Zk];constructor
   . exact .inl
   . rintro (h | h)
     . exact h
     . rw[h];exact hin
theorem Qxo (l:List Bj):Lib.compact ((Xi l).map byT)=(Qcc l).map byT:=by
 obtain⟨K,h1,h2,h3,h4⟩:=Qpr (Xi l) (Qf6 l);rw[h1];have:K=Qcc l:=(by rw[<- Qiz h2 fun x=>(h3 x).trans Qf4];exact Qct (Za1 _) h4);rw[this]
theorem Q2y (l:List Bj) (A:Option Addr) (c base:Nat) (w:World) (hown:Own Qab 1 9 base w A c (Xi l)) (hl:l.length<1000000) :
 Cal Tryz.prog 221 [.slice A (Xi l).length c] w fun r w'=>r = .slice A (Qcc l).length c/\SlT w' A (Qcc l)/\∀ w0,Ext w0 w->w0.heap.size<=base->Ext w0 w':=by
 by_cases h0:l = []
 . subst h0;have e1:Xi [] = []:=Qf5;have e2:Qcc [] = []:=by simp[Qcc,Q5u,Qf5]
   rw[e1,e2];refine Qa9 ⟨_,Tryz.func221,rfl,rfl⟩ (Tryz.slices_Compact_string_empty A c w) ?_;rintro w' rfl;exact⟨rfl,Sl.nil,fun w0 h _=>h⟩
 . have hpos:0<l.length:=Zac.2 h0;have hll:(Xi l).length=l.length:=(Qbl l).length_eq;rcases hown.2 with⟨_,h1⟩ | ⟨g,cap,cur,hv,hb,hg,hc1,hc2,hc3,hc4⟩
   . omega
   injection hv with hA _ hcc;subst hA;subst hcc;have hset:=Qxo l;have hsl:((Xi l).map byT).length=(Xi l).length:=Zf _;have hkl:(Qcc l).length<=l.length:=Qmu l;obtain⟨n,hn⟩:∃ n,n=(Xi l).length-(Qcc l).length:=⟨_,rfl⟩;have hH:Holds encStr w g 0 ((Xi l).map byT).toArray:=holds_of_block hg (by rw[hsl];unfold byT;rw[<- Qhn,<- hc4,Zbh]);have hcall:=Tryz.slices_Compact_string g 0 c ((Xi l).map byT) w hH (by rw[hsl];omega) (by rw[hsl];exact hc1);rw[hset,hsl,Zf,<- hn] at hcall;refine Qa9 ⟨_,Tryz.func221,rfl,rfl⟩ hcall ?_;rintro w' ⟨q,rfl⟩;have hM:(Qcc l).map byT++List.replicate n []=(Qcc l++List.replicate n (⟨#[]⟩:Bj)).map byT:=(by rw[Zp,List.map_replicate];rfl);rw[hM];have hMl:(Qcc l++List.replicate n (⟨#[]⟩:Bj)).length=(Xi l).length:=(by rw[Zo,List.length_replicate];omega);generalize hW:Qcc l++List.replicate n (⟨#[]⟩:Bj)=M at hMl ⊢;have hgr:putRow encStr (Sort.ahead w q) g 0 (M.map byT).toArray=grow (putRow encStr (Sort.ahead w q) g 0 (M.map byT).toArray) #[]:=by rw[grow_empty]
   rw[hgr];refine⟨rfl,?_,fun w0 hx hb0 => ?_⟩
   . have hrow:=ownsRow_sorted (w:=w) (n:=q) (os := #[]) (ss:=(Xi l).map byT) (ts:=M.map byT) (by rw[Zf,Zf];exact hMl) hb hg (by rw[hsl];exact hc1) hc2 hc3;rw[hsl,<- hMl] at hrow;have hb2:(M.map byT).map encStr=M.flatMap Qab:=by rw[Qhn];rfl
     rw[hb2] at hrow;obtain⟨A',c',he,ho⟩:=Qcq (enc:=Qab) (l:=M) hrow rfl rfl;cases he;have hs:=(ho.sl Qw);intro i x hi;refine hs i x ?_;rw[<- hW,Zz (Zi.1 hi).1];exact hi
   . have hg2:=grownBy_sorted (w:=w) (g:=g) (n:=q) (os := #[]) (M.map byT).toArray;exact Qu hx hg2 fun k hk=>by cases hk;omega
theorem Q3u (a b:Bj) (w:World):Cal Tryz.prog 238 [.string a,.string b] w fun r w'=>r = .bool (bLt a b)/\w'=w:=by
 refine Fi Tryz.func238 rfl _ rfl rfl (Hh ?_);refine(Qgh a w).mono ?_;rintro _ w1 ⟨rfl,hw1⟩;subst hw1;refine Hh ?_;refine⟨Unit,fun _ => .bool false,fun _ w'=>w'=w1,(),fun _=>(Qgh b w1).mono fun r w' h=>⟨(),h.1,h.2⟩,?_⟩;intro _ w2 h2
 have hw2:w2=w1:=by
  rcases h2 with⟨_,h⟩ | ⟨_,h⟩
  . exact h
  . exact h
 subst hw2;clear h2;refine Hh ?_;exact⟨by simp[bLt],rfl⟩
theorem Qn3 (a:Bj) (w:World):Cal Tryz.prog 301 [.string a] w fun r w'=>r = .bool false/\w'=w:=by
 refine Fi Tryz.func301 rfl _ rfl rfl (Hh ?_);exact⟨by simp,rfl⟩
theorem Q90 {l:List Bj} (hs:Srt bLt l) {x:Bj} {i:Nat} (hi:i<=l.length) (h1:∀ t,t<i->∀ (ht:t<l.length),bLt l[t] x=true) (h2:∀ t,i<=t->∀ (ht:t<l.length),bLt l[t] x=false):(x∈l↔∃ ht:i<l.length,l[i]=x):=by
 constructor
 . intro hx;obtain⟨t,ht,rfl⟩:=Za2 hx;rcases Zb5 t i with h | h
   . have:=h1 t h ht;rw[Xr] at this;cases this
   . have hil:i<l.length:=Om;refine⟨hil,?_⟩;have q1:=h2 i (Zg _) hil
     have q2:bLt l[t] l[i]=false:=by
      rcases Zb5 i t with h3 | h3
      . exact Zau.1 hs i t hil ht h3
      . obtain rfl:i=t:=Om;exact Xr _
     exact Qbw q1 q2
 . rintro ⟨ht,rfl⟩;exact Zx ht
theorem Q6h (l:List Bj) (hs:Srt bLt l) (A:Option Addr) (c:Nat) (x:Bj) (w:World) (hl:l.length<1000000) (hsl:SlT w A l) :
 Cal Tryz.prog 224 [.slice A l.length c,.string x] w fun r w'=>(∃ k:Nat,r = .tuple #[Vj (k:Nat),.bool (decide (x∈l))])/\Ext w w':=by
 refine Fi Tryz.func224 rfl _ rfl rfl (Hh ?_)
 refine Qh Qb (fun(p:Nat×Nat) w'=>p.1<=p.2/\p.2<=l.length/\(∀ t,t<p.1->∀ (ht:t<l.length),bLt l[t] x=true)/\(∀ t,p.2<=t->∀ (ht:t<l.length),bLt l[t] x=false)/\w'=w)
  (fun | (i,j) => [(0,.slice A l.length c),(1,.string x),(6,Vj l.length),(7,Vj (i:Nat)),(8,Vj (j:Nat))]) (fun p=>p.2-p.1) (0,l.length) ⟨Zu _,Zg _,fun t h=>by simp at h,fun t h ht=>by simp at h;omega,rfl⟩ Rr ?_
 rintro ⟨i,j⟩ w1 ⟨hij,hjn,hi,hj,hw1⟩;simp only at hij hjn hi hj;subst hw1;refine Hh ?_;constructor
 . intro hlt;have hlt:i<j:=Su hlt;obtain⟨h,hh⟩:∃ h,h=(i+j)/2:=⟨_,rfl⟩;have hhl:h<l.length:=Om;refine Hh ?_;refine⟨((i+j:Nat):Int),Qa5 Om,Hh ?_⟩;refine⟨((i+j:Nat):Int),Qrh Om,Hh ?_⟩;refine⟨(h:Int),by rw[hh];exact Qkp _,Hh ?_⟩;refine⟨(h:Int),Qrg Om,Hh ?_⟩;obtain⟨a,hA,hc⟩:=hsl.get hhl;subst hA;refine⟨a,Ix,Hh ?_⟩;refine⟨.string l[h],Qs hc,Hh ?_⟩;refine(Q3u l[h] x w1).mono ?_;rintro _ w2 ⟨rfl,hw2⟩;subst hw2;refine Hh ?_;constructor
   . intro hq;have hq:bLt l[h] x=true:=hq;refine Hh ?_;refine⟨_,wrap_succ Om,Hh ?_⟩;refine⟨(h+1,j),Sj,⟨Sj,hjn,fun t ht htl => ?_,hj,rfl⟩,Rr⟩
     cases hb:bLt l[t] x with
     | true=>rfl
     | false =>
       have hht:bLt l[h] l[t]=false:=by
        rcases Zb5 t h with h3 | h3
        . exact Zau.1 hs t h htl hhl h3
        . obtain rfl:t=h:=by have:t<h+1:=ht;omega
          exact Xr _
       rw[Qhq hht hb] at hq;cases hq
   . intro hq;have hq:bLt l[h] x=false:=hq;refine Hh ?_;refine⟨(i,h),Sj,⟨Sj,Sj,hi,fun t ht htl => ?_,rfl⟩,Rr⟩;have ht:h<=t:=ht
     have hht:bLt l[t] l[h]=false:=by
      rcases Zb5 h t with h3 | h3
      . exact Zau.1 hs h t hhl htl h3
      . obtain rfl:t=h:=Om;exact Xr _
     exact Qhq hht hq
 . intro hge;have hge:j<=i:=Su hge;obtain rfl:i=j:=Om;have hin:=Q90 hs hjn hi hj;refine Hh ?_
   by_cases hil:i<l.length
   . obtain⟨a,hA,hc⟩:=hsl.get hil;subst hA;refine⟨a,fun _=>Ix,Hh ?_⟩;refine⟨.string l[i],fun _=>Qs hc,Hh ?_⟩;refine⟨a,fun _ _=>(show _/\_ from Ix),Hh ?_⟩;refine⟨.string l[i],fun _ _=>Qs hc,Hh ?_⟩;refine⟨Unit,fun _ => .bool false,fun _ w'=>w'=w1,(),fun _ _=>(Qn3 l[i] w1).mono fun r w' h=>⟨(),h.1,h.2⟩,?_⟩;intro _ w2 h2
     have hw2:w2=w1:=by
      rcases h2 with⟨_,h⟩ | ⟨_,h⟩
      . exact h
      . exact h
     subst hw2;clear h2;refine Hh ?_;refine⟨Unit,fun _ => .bool false,fun _ w'=>w'=w2,(),fun _ _ _=>(Qn3 x w2).mono fun r w' h=>⟨(),h.1,h.2⟩,?_⟩;intro _ w3 h3
     have hw3:w3=w2:=by
      rcases h3 with⟨_,h⟩ | ⟨_,h⟩
      . exact h
      . exact h
     subst hw3;clear h3;refine Hh ?_;refine⟨⟨i,?_⟩,Ext.refl _⟩;have hlt':decide ((i:Int)<(l.length:Int))=true:=Su hil;have hd:decide (x∈l)=decide (l[i]=x):=(by rw[Zbx,decide_eq_true_iff,decide_eq_true_iff,hin];exact⟨fun⟨_,h⟩=>h,fun h=>⟨hil,h⟩⟩);rw[hd];simp[hlt',hil]
   . have hd:decide (x∈l)=false:=(by rw[decide_eq_false_iff_not,hin];exact fun⟨h,_⟩=>hil h);have hg0:∀ {q:Prop},decide ((i:Int)<(l.length:Int))=true->q:=fun h=>by simp at h;omega
     refine⟨⟨0,0,none⟩,fun h=>hg0 h,Hh ?_⟩;refine⟨.string x,fun h=>hg0 h,Hh ?_⟩;refine⟨⟨0,0,none⟩,fun _ h=>hg0 h,Hh ?_⟩;refine⟨.string x,fun _ h=>hg0 h,Hh ?_⟩;refine⟨Unit,fun _ => .bool false,fun _ w'=>w'=w1,(),fun _ h=>hg0 h,?_⟩;intro _ w2 h2
     have hw2:w2=w1:=by
      rcases h2 with⟨_,h⟩ | ⟨_,h⟩
      . exact h
      . exact h
     subst hw2;clear h2;refine Hh ?_;refine⟨Unit,fun _ => .bool false,fun _ w'=>w'=w2,(),fun _ _ h=>hg0 h,?_⟩;intro _ w3 h3
     have hw3:w3=w2:=by
      rcases h3 with⟨_,h⟩ | ⟨_,h⟩
      . exact h
      . exact h
     subst hw3;clear h3;refine Hh ?_;refine⟨⟨i,?_⟩,Ext.refl _⟩;rw[hd];have hlt':decide ((i:Int)<(l.length:Int))=false:=by simp;omega
     simp[hlt'];omega
