/- Several texts in one: Y1, Y2, Y3, Y4. -/
import Derived.Test.YtagijlhciclafaaGreatDoorGM
import Derived.Test.YtagijlhciclafaaGreatDoorGXB
import Derived.Test.YtagijlhciclafaaGreatDoorGH
import Derived.Test.YtagijlhciclafaaGreatDoorGN
import Derived.Test.YtagijlhciclafaaGreatDoorGX
import Derived.Test.YtagijlhciclafaaGreatDoorGC
import Derived.Test.YtagijlhciclafaaGreatDoorGJ
import Derived.Test.YtagijlhciclafaaGreatDoorGK
set_option linter.unusedVariables false
set_option linter.unusedSimpArgs false
namespace Go.Proofs.YtagijlhciclafaaGreatDoor
open Go.Se Go.RowKit Go.Sort
section
variable {α:Type}
def Qq4 (lt:α→α→Bool) (L:List α):List α:=L.mergeSort fun a b => !lt b a
theorem Qdv (lt:α→α→Bool) (L:List α):(Qq4 lt L).Perm L:=List.mergeSort_perm _ _
theorem Q30 {lt:α→α→Bool} (h:Go.Sort.SWO lt) (L:List α):Srt lt (Qq4 lt L):=by
 have:=List.pairwise_mergeSort (le:=fun a b => !lt b a) (fun a b c h1 h2=>by
  simp only[Bool.not_eq_true'] at *
  exact h.ntrans c b a h2 h1) (fun a b=>by
  cases h1:lt b a with
  | false=>rfl
  | true =>
    cases h2:lt a b with
    | false=>rfl
    | true=>have:=h.trans _ _ _ h1 h2;rw[h.irrefl] at this;cases this) L
 exact this.imp fun h=>by simpa using h
theorem Q6d {lt:α→α→Bool} (h:Go.Sort.SWO lt) {F L:List α} (hp:F.Perm L) (hs:Srt lt F) (ht:∀ x∈L,∀ y∈L,lt x y=false→lt y x=false→x=y):F=Qq4 lt L :=
 Qj9 (hp.trans (Qdv lt L).symm) hs (Q30 h L) fun x hx y hy=>ht x (hp.mem_iff.1 hx) y (hp.mem_iff.1 hy)
def Qlj (P:α→Prop) [DecidablePred P] (L:List α):List { x // P x }:=L.filterMap fun x=>if h:P x then some ⟨x,h⟩ else none
theorem Qq7 {P:α→Prop} [DecidablePred P]:∀ {L:List α},(∀ x∈L,P x)→(Qlj P L).map (·.1)=L
 | [],_=>rfl
 | x :: L,h=>by
   have ih:=Qq7 (L:=L) fun y hy=>h y (by simp[hy])
   have hx:P x:=h x (by simp);unfold Qlj at ih ⊢;rw[List.filterMap_cons,dif_pos hx];simp only[List.map_cons,ih]
theorem Qx0 {P:α→Prop} [DecidablePred P]:∀ F:List { x // P x },Qlj P (F.map (·.1))=F
 | []=>rfl
 | x :: F=>by
   have ih:=Qx0 F;unfold Qlj at ih ⊢;rw[List.map_cons,List.filterMap_cons,dif_pos x.2];simp only[ih]
theorem Q35 {P:α→Prop} [DecidablePred P] {L M:List α} (h:L.Perm M):(Qlj P L).Perm (Qlj P M):=h.filterMap _
theorem Qf0 {P:α→Prop} [DecidablePred P] {L:List α} {x:{ x // P x }}:x∈Qlj P L↔x.1∈L:=by
 unfold Qlj;rw[List.mem_filterMap];constructor
 · rintro ⟨y,hy,h⟩
   split at h
   · cases h;exact hy
   · cases h
 · intro h
   exact⟨x.1,h,by rw[dif_pos x.2]⟩
theorem Qoy {P:α→Prop} [DecidablePred P] {lt:{ x // P x }→{ x // P x }→Bool} (h:Go.Sort.SWO lt) {F:List { x // P x }} {L:List α} (hp:(F.map (·.1)).Perm L) (hs:Srt lt F)
 (ht:∀ x∈Qlj P L,∀ y∈Qlj P L,lt x y=false→lt y x=false→x=y):F=Qq4 lt (Qlj P L):=by
 refine Q6d h ?_ hs ht;have:=Q35 (P:=P) hp;rw[Qx0] at this
 exact this
end
theorem key_inj {β:Type} {L:List (ByteArray×β)} (h:(L.map (·.1)).Nodup) {x y:ByteArray×β} (hx:x∈L) (hy:y∈L) (e:x.1=y.1):x=y:=by
 induction L with
 | nil=>simp at hx
 | cons a l ih =>
   rw[List.map_cons,List.nodup_cons] at h;rcases List.mem_cons.1 hx with h1 | h1 <;> rcases List.mem_cons.1 hy with h2 | h2
   · rw[h1,h2]
   · subst h1;exact absurd (List.mem_map.2 ⟨y,h2,e.symm⟩) h.1
   · subst h2;exact absurd (List.mem_map.2 ⟨x,h1,e⟩) h.1
   · exact ih h.2 h1 h2
instance:DecidablePred Qrd:=fun x=>by unfold Qrd;exact inferInstance
theorem Q1n {a b:RiS} (h:ltOf Qho a b=false) (k:ltOf Qho b a=false):a.1.1=b.1.1:=by
 have hw:WC Qho:=by
  rw[Qly];refine WC.lex (WC.flip (Q4j (fun x:RiS=>riR x.1) fun x => ?_)) (WC.lex (WC.flip (Q7f fun x:RiS=>x.1.2.1)) (Qwj fun x:RiS=>x.1.1));have:=x.2.2.1;unfold riR;simp only;omega
 have e:Qho a b=0:=by
  unfold ltOf at h k;simp only[decide_eq_false_iff_not] at h k;have:=hw.anti b a;omega
 rw[Qly] at e;unfold Q4o at e
 split at e
 · rename_i h1;exact absurd e h1
 split at e
 · rename_i h1;exact absurd e h1
 exact Qd4.1 e
def Q9r (c:Cfg) (z:List Ev) (now:Int):List Ri :=
 Qdk (Qe c.width z).ps ((Qvk c now-2*c.span)/Xk c.width) ((Qvk c now-c.span)/Xk c.width) (Qvk c now/Xk c.width) c.floor
  (Qd8 (Qe c.width z).ps ((Qvk c now-c.span)/Xk c.width) (Qvk c now/Xk c.width))
def Q8p (c:Cfg) (z:List Ev) (now:Int):List RiS:=Qq4 (ltOf Qho) (Qlj Qrd (Q9r c z now))
theorem Qoq (s:Qal) (a b d f lo hi:Int):((Qdk s a b d f (Qd8 s lo hi)).map (·.1)).Nodup:=by
 have h:(Qdk s a b d f (Qd8 s lo hi)).map (·.1)=((Qd8 s lo hi).filter fun k=>decide (f≤(Q8o s a b d k).2.1)):=by
  unfold Qdk;generalize Qd8 s lo hi=K
  induction K with
  | nil=>rfl
  | cons k K ih =>
    rw[List.map_cons]
    by_cases hq:f≤(Q8o s a b d k).2.1
    · rw[List.filter_cons_of_pos (by simpa using hq),List.filter_cons_of_pos (by simpa using hq),List.map_cons,ih];rfl
    · rw[List.filter_cons_of_neg (by simpa using hq),List.filter_cons_of_neg (by simpa using hq),ih]
 rw[h]
 exact(Qby _).sublist List.filter_sublist
theorem Xaf {s:Qal} {a b d f lo hi:Int} {F:List RiS} (hp:(F.map (·.1)).Perm (Qdk s a b d f (Qd8 s lo hi))) (hs:Srt (ltOf Qho) F):F=Qq4 (ltOf Qho) (Qlj Qrd (Qdk s a b d f (Qd8 s lo hi))) :=
 Qoy Qrw hp hs fun x hx y hy h1 h2=>Subtype.ext (key_inj (Qoq s a b d f lo hi) (Qf0.1 hx) (Qf0.1 hy) (Q1n h1 h2))
abbrev Nr:=ByteArray×(Int×Int)
def Qn0 (x:Nr):Prop:=Qnp 100000000 x.2
instance:DecidablePred Qn0:=fun x=>by unfold Qn0 Qnp;exact inferInstance
abbrev NrS:={ x:Nr // Qn0 x }
instance:Inhabited NrS:=⟨⟨(⟨#[]⟩,0,1),by unfold Qn0 Qnp;simp⟩⟩
def Q7s (a b:Nr):Int:=orL [Qnr b.2 a.2,Qe2 a.1 b.1]
def Qie (a b:NrS):Int:=Q7s a.1 b.1
theorem Qru:Qie=Q4o (fun a b:NrS=>Qnr b.1.2 a.1.2) (fun a b:NrS=>Qe2 a.1.1 b.1.1):=by
 funext a b
 unfold Qie Q7s Q4o orL
 by_cases h1:Qnr b.1.2 a.1.2=0
 · by_cases h3:Qe2 a.1.1 b.1.1=0 <;> simp[h1,h3]
 · simp[h1]
theorem Qw0:WC Qie:=by
 rw[Qru];refine WC.lex (WC.flip (Q4j (fun x:NrS=>x.1.2) fun x => ?_)) (Qwj fun x:NrS=>x.1.1);have:=x.2.2.2.1;omega
theorem Qrv:SWO (ltOf Qie):=Qw0.swo
theorem Q1m {a b:NrS} (h:ltOf Qie a b=false) (k:ltOf Qie b a=false):a.1.1=b.1.1:=by
 have e:Qie a b=0:=by
  unfold ltOf at h k;simp only[decide_eq_false_iff_not] at h k;have:=Qw0.anti b a;omega
 rw[Qru] at e;unfold Q4o at e
 split at e
 · rename_i h1;exact absurd e h1
 exact Qd4.1 e
def Qf7 (S:List Sn) (floor:Int) (a:ByteArray):List Nr:=((Qec S a).filter fun b=>decide (floor≤(Qdi S a b:Int))).map fun b=>(b,Qp5 S a b)
def Qdj (K:List ByteArray) (m:List Nr) (x:Nr):List Nr :=
 if x.1∈K then m else match Qd m x.1 with
  | none=>Xd m x.1 x.2
  | some o=>if Qzt o x.2=true then Xd m x.1 x.2 else m
def Qk3 (S:List Sn) (floor:Int) (K:List ByteArray):List Nr:=(K.flatMap (Qf7 S floor)).foldl (Qdj K) []
def Qnm (S:List Sn) (floor:Int) (items:List ByteArray):List NrS:=Qq4 (ltOf Qie) (Qlj Qn0 (Qk3 S floor (Qbx items)))
theorem Qia {K:List ByteArray} {Q:Nr→Prop}:∀ (l:List Nr) (m:List Nr),(m.Pairwise fun x y=>x.1≠y.1)→(∀ x∈m,x.1∉K∧Q x)→(∀ x∈l,Q x) →
 ((l.foldl (Qdj K) m).Pairwise fun x y=>x.1≠y.1)∧∀ x∈l.foldl (Qdj K) m,x.1∉K∧Q x
 | [],m,hm,hk,_=>⟨hm,hk⟩
 | y :: l,m,hm,hk,hl=>by
   rw[List.foldl_cons];have hy:=hl y (by simp)
   have hset:y.1∉K→((Xd m y.1 y.2).Pairwise fun x y=>x.1≠y.1)∧∀ x∈Xd m y.1 y.2,x.1∉K∧Q x:=fun hyk=>⟨Qao hm,fun x hx=>by
    rcases Qbi hx with h | h
    · rw[h];exact⟨hyk,hy⟩
    · exact hk x h⟩
   have hst:((Qdj K m y).Pairwise fun x y=>x.1≠y.1)∧∀ x∈Qdj K m y,x.1∉K∧Q x:=by
    unfold Qdj
    split
    · exact⟨hm,hk⟩
    · next h =>
      split
      · exact hset h
      · split
        · exact hset h
        · exact⟨hm,hk⟩
   exact Qia l _ hst.1 hst.2 fun x hx=>hl x (by simp[hx])
theorem Q2u {S:List Sn} (hS:S.length<1000) {floor:Int} {a:ByteArray}:∀ x∈Qf7 S floor a,Qn0 x:=fun x hx=>by
 unfold Qf7 at hx;obtain⟨b,_,rfl⟩:=List.mem_map.1 hx
 have hN:(S.length:Int)*S.length≤100000000:=by
  have:(S.length:Int)*S.length≤1000*1000:=Int.mul_le_mul (by omega) (by omega) (by omega) (by omega);omega
 exact Q8d hN (by omega) a b
theorem Qpe {S:List Sn} (hS:S.length<1000) (floor:Int) (K:List ByteArray):((Qk3 S floor K).map (·.1)).Nodup∧∀ x∈Qk3 S floor K,x.1∉K∧Qn0 x:=by
 have h:=Qia (K:=K) (Q:=Qn0) (K.flatMap (Qf7 S floor)) [] (by simp) (by simp) (fun x hx=>by
  obtain⟨a,_,hx⟩:=List.mem_flatMap.1 hx
  exact Q2u hS x hx)
 exact⟨X3 h.1,h.2⟩
theorem Q9x {S:List Sn} (hS:S.length<1000) {floor:Int} {items:List ByteArray} {F:List NrS} (hp:(F.map (·.1)).Perm (Qk3 S floor (Qbx items))) (hs:Srt (ltOf Qie) F):F=Qnm S floor items :=
 Qoy Qrv hp hs fun x hx y hy h1 h2=>Subtype.ext (key_inj (Qpe hS floor _).1 (Qf0.1 hx) (Qf0.1 hy) (Q1m h1 h2))
theorem Q03 {S:List Sn} {floor:Int} {k l:List ByteArray} (hm:∀ x,x∈k↔x∈l):Qnm S floor k=Qnm S floor l:=by unfold Qnm;rw[Qj6 hm]
theorem Q7m {S:List Sn} (hS:S.length<1000) {floor:Int} {items:List ByteArray} {x:NrS} (h:x∈Qnm S floor items):x.1.1∉items:=by
 have h1:=Qf0.1 ((Qdv _ _).mem_iff.1 h)
 exact fun h2=>((Qpe hS floor (Qbx items)).2 _ h1).1 (Xu.2 h2)
theorem Q04 {S:List Sn} (hS:S.length<1000) {floor:Int} {items:List ByteArray}:((Qnm S floor items).map fun x=>x.1.1).Nodup:=by
 have h:=(Qpe hS floor (Qbx items))
 have h1:((Qnm S floor items).map fun x=>x.1.1).Perm ((Qk3 S floor (Qbx items)).map (·.1)):=by
  have:=(Qdv (ltOf Qie) (Qlj Qn0 (Qk3 S floor (Qbx items)))).map (·.1);rw[Qq7 fun x hx=>(h.2 x hx).2] at this;have:=this.map (·.1);rw[List.map_map] at this
  exact this
 exact h1.nodup_iff.2 h.1
theorem Q7n {S:List Sn} {floor:Int}:Qnm S floor [] = []:=by
 unfold Qnm;rw[show Qbx [] = [] by simp[Qbx,Qr3,Xc]]
 simp[Qk3,Qlj,Qq4]
def Qgv (z:List Ev) (person:ByteArray):List Ev:=(Qae z person).filter fun e=>decide (0<Qs e)
def Qxr (z:List Ev) (person:ByteArray):List ByteArray:=(Qgv z person).map (·.item)
def Qkj (half now:Int) (m:List Ct) (e:Ev):List Ct:=Xd m e.item ((Qd m e.item).getD 0+Q0v half now e)
def Qdh (half now:Int) (l:List Ev):List Ct:=l.foldl (Qkj half now) []
theorem Qg3 (half now:Int) (l:List Ev) (e:Ev):Qdh half now (l ++ [e])=Qkj half now (Qdh half now l) e:=by unfold Qdh;rw[List.foldl_append];rfl
def Qea (half now:Int) (l:List Ev) (x:ByteArray):Int:=((l.filter fun e=>decide (e.item=x)).map (Q0v half now)).sum
theorem Qe8 (half now:Int) (l:List Ev) (e:Ev) (x:ByteArray):Qea half now (l ++ [e]) x=Qea half now l x+if e.item=x then Q0v half now e else 0:=by
 unfold Qea;rw[List.filter_append,List.map_append,List.sum_append]
 congr 1
 by_cases h:e.item=x
 · simp[h]
 · simp[h]
theorem Qg1 (half now:Int):∀ l:List Ev,(Qdh half now l).Pairwise (fun x y=>x.1≠y.1) :=
 Qy (by simp[Qdh]) fun l e ih=>by rw[Qg3];exact Qao ih
theorem Qg2 (half now:Int) (x:ByteArray):∀ l:List Ev,Qd (Qdh half now l) x=if x∈l.map (·.item) then some (Qea half now l x) else none:=by
 refine Qy (by simp[Qdh,Qd]) fun l e ih => ?_
 rw[Qg3,Qe8];unfold Qkj;rw[X0,List.map_append,List.map_cons,List.map_nil]
 by_cases h:x=e.item
 · subst h
   rw[if_pos rfl,if_pos (by simp),if_pos rfl,ih]
   by_cases h2:e.item∈l.map (·.item)
   · rw[if_pos h2];rfl
   · rw[if_neg h2]
     have:Qea half now l e.item=0:=by
      unfold Qea;rw[List.filter_eq_nil_iff.2]
      · rfl
      · intro y hy hq
        exact h2 (List.mem_map.2 ⟨y,hy,by simpa using hq⟩)
     rw[this];rfl
 · rw[if_neg h,ih]
   have h3:¬ e.item=x:=fun q=>h q.symm
   by_cases h2:x∈l.map (·.item)
   · rw[if_pos h2,if_pos (by simp[h2]),if_neg h3,Int.add_zero]
   · rw[if_neg h2,if_neg (by simp only[List.mem_append,List.mem_singleton];rintro (q | q);exact h2 q;exact h q)]
theorem Qhu (half now:Int) (x:ByteArray):∀ l:List Ev,(∀ e∈l,X4 e=true)→0≤Qea half now l x∧Qea half now l x≤l.length*5242880:=by
 refine Qy (by simp[Qea]) fun l e ih hm => ?_
 have h1:=ih fun y hy=>hm y (by simp[hy])
 have h2:=Qha (half:=half) (now:=now) (hm e (by simp));rw[Qe8,List.length_append,List.length_cons,List.length_nil]
 split
 · constructor
   · omega
   · push_cast;omega
 · constructor
   · omega
   · push_cast;omega
theorem Qiq {half now:Int} {l:List Ev} {x:Ct} (h:x∈Qdh half now l):x.1∈l.map (·.item)∧x.2=Qea half now l x.1:=by
 have:=Qda (Qg1 half now l) (k:=x.1) (v:=x.2) h;rw[Qg2] at this
 split at this
 · next h1=>exact⟨h1,(Option.some.inj this).symm⟩
 · cases this
theorem Qrp (name:ByteArray):∀ cs:List Ev,∀ s∈Q5 cs name,s.item.name=name:=by
 refine Qy (by simp[Q5]) fun cs e ih => ?_
 rw[Qbo];unfold Qfk Qk8
 by_cases hn:name=e.item
 · subst hn
   rw[if_pos rfl];intro s hs;rcases List.mem_append.1 hs with hs | hs
   · exact ih s hs
   · rw[List.mem_singleton] at hs
     subst hs;unfold Qfh;rw[Qv7]
     cases hl:(Q5 cs e.item).getLast? with
     | none=>rfl
     | some s0=>exact ih s0 (List.mem_of_getLast? hl)
 · rw[if_neg hn];exact ih
theorem Qyg {cs:List Ev} {name:ByteArray} {t:Int} (h:(Xa cs name t).2=true):(Xa cs name t).1.name=name:=by
 unfold Xa at *
 split at h
 · next s hs =>
   split at h
   · cases h
   · next hne =>
     rw[if_neg hne]
     exact Qrp name cs s (List.mem_of_getElem? hs)
 · cases h
theorem Qsj {cs:List Ev} {name:ByteArray} {t:Int} (h:Qcg cs t name=true):(Xa cs name t).1.name=name:=Qyg (by
 unfold Qcg at h;rw[Bool.and_eq_true] at h
 exact h.1)
theorem Qjt {cs:List Ev} {t:Int} {x:ByteArray} (h:Qcg cs t x=true):x∈cs.map (·.item):=by
 cases hr:Q5 cs x with
 | nil =>
   unfold Qcg Xa at h;rw[hr] at h
   simp at h
 | cons s l =>
   obtain⟨e,he,hi,_⟩:=(Qn7 x s.at_ cs).1 (by rw[hr];simp)
   exact List.mem_map.2 ⟨e,he,hi⟩
theorem Qr5:∀ l:List Ev,(Qh7 l).Pairwise (fun x y=>x.1≠y.1):=by
 refine Qy (by simp[Qh7]) fun l e ih => ?_
 rw[Qpr];unfold Qqp
 split
 · exact ih
 · exact Qao ih
theorem Qg6 {z:List Ev} {now:Int} {x:ByteArray}:x∈Qa0 z now↔Qcg (Qn z) now x=true:=by
 unfold Qa0;rw[Xu,List.mem_filter]
 exact⟨fun h=>h.2,fun h=>⟨Qjt h,h⟩⟩
def Qjm (rs:List Row) (person item:ByteArray):Bool:=(Qd (Xw rs).done (person,item)).getD false
def Q4n (rs:List Row) (person item:ByteArray):Bool:=(Qd (Xw rs).hidden (person,item)).getD false
def keepR (rs:List Row) (person:ByteArray) (x:Ct):Bool := !(decide (x.2≤0)||(Qjm rs person x.1||Q4n rs person x.1))
def thC (z:List Ev) (now:Int):List It:=(Qa0 z now).map fun n=>(Xa (Qn z) n now).1
def Q9k (t:It):Ct:=(t.name,t.born)
def Qok (z:List Ev) (now:Int) (q:It→Bool):List Ct:=Qci (((thC z now).filter q).map Q9k)
def Quz (z:List Ev) (person:ByteArray) (t:It):Bool:=Q62 z person t.maker
def Q5l (c:Cfg) (now:Int) (t:It):Bool:=decide (now-t.born≤c.span)
def Q9w (c:Cfg) (z:List Ev) (person:ByteArray) (now:Int):List Ct:=Qci ((Qdh c.half now (Qgv z person)).filter (keepR (Qe c.width z).rs person))
def Qcp (c:Cfg) (z:List Ev) (person:ByteArray) (now:Int) (r:Nat):List ByteArray :=
 if r=0 then(Qci (Qey (Qe c.width z).ds (Xk c.half) now)).map (·.1)
 else if r=1 then(Q8p c z now).map fun x=>x.1.1
 else if r=2 then(Qnm (Qgo c z) 1 (Qxr z person)).map fun x=>x.1.1
 else if r=3 then(Qok z now (Quz z person)).map (·.1)
 else if r=4 then(Qok z now (Q5l c now)).map (·.1)
 else if r=5 then(Q9w c z person now).map (·.1)
 else []
def Xi (c:Cfg) (z:List Ev) (person:ByteArray) (now r limit:Int):List ByteArray :=
 if 0≤r∧r≤5∧0≤now∧now≤1099511627776 then(Qcp c z person now r.toNat).take limit.toNat else []
theorem Qmk {z:List Ev} {now:Int} {K:List ByteArray} (hn:K.Nodup) (hm:∀ x,x∈K↔Qcg (Qn z) now x=true):Xc K=Qa0 z now :=
 Qgm hn fun x=>by
  rw[hm,List.mem_filter]
  exact⟨fun h=>⟨Qjt h,h⟩,fun h=>h.2⟩
theorem Q2x {L:List Ct} (h:(L.map (·.1)).Nodup):L.Nodup:=(List.pairwise_map.1 h).imp fun hne e=>hne (by rw[e])
theorem Qmm (f:ByteArray→Int) (K:List ByteArray) (h:K.Nodup):(K.map fun k=>((k,f k):Ct)).Nodup:=Q2x (by
 rw[List.map_map];have:((fun x:Ct=>x.1) ∘ fun k=>((k,f k):Ct))=id:=rfl;rw[this,List.map_id]
 exact h)
theorem Qdu (l:List Ct):((Qci l).map (·.1)).Perm (l.map (·.1)):=(Qa1 l).map _
theorem Q0l {s:Qke} (h:s.Pairwise fun x y=>x.1≠y.1) (half now:Int):((Qey s half now).map (·.1)).Nodup:=by
 have hn:=X3 h
 have:∀ K:List ByteArray,(((K.map fun k=>(k,Qb8 s half k now)).filter fun x=>decide (0<x.2)).map (·.1))=K.filter fun k=>decide (0<Qb8 s half k now):=by
  intro K
  induction K with
  | nil=>rfl
  | cons k K ih =>
    rw[List.map_cons]
    by_cases hq:0<Qb8 s half k now
    · rw[List.filter_cons_of_pos (by simpa using hq),List.filter_cons_of_pos (by simpa using hq),List.map_cons,ih]
    · rw[List.filter_cons_of_neg (by simpa using hq),List.filter_cons_of_neg (by simpa using hq),ih]
 unfold Qey;rw[this]
 exact hn.sublist List.filter_sublist
theorem Qtu (z:List Ev) (now:Int):(thC z now).map (·.name)=Qa0 z now:=by
 unfold thC;rw[List.map_map]
 conv=>rhs;rw[← List.map_id (Qa0 z now)]
 exact List.map_congr_left fun x hx=>Qsj (Qg6.1 hx)
theorem Qqe (z:List Ev) (now:Int) (q:It→Bool):((Qok z now q).map (·.1)).Perm (((thC z now).filter q).map (·.name)):=by
 unfold Qok;refine(Qdu _).trans ?_;rw[List.map_map]
 exact List.Perm.refl _
theorem Qsr (z:List Ev) (now:Int) (q:It→Bool):((Qok z now q).map (·.1)).Nodup:=by
 refine(Qqe z now q).nodup_iff.2 ?_;have h:(Qa0 z now).Nodup:=Qby _;rw[← Qtu] at h
 exact h.sublist (List.filter_sublist.map _)
theorem Qjy {z:List Ev} {now:Int} {q:It→Bool} {x:ByteArray} (h:x∈(Qok z now q).map (·.1)):Qcg (Qn z) now x=true:=by
 have h1:=(Qqe z now q).mem_iff.1 h;obtain⟨t,ht,rfl⟩:=List.mem_map.1 h1;have h2:=(List.mem_filter.1 ht).1;have:t.name∈(thC z now).map (·.name):=List.mem_map.2 ⟨t,h2,rfl⟩;rw[Qtu] at this
 exact Qg6.1 this
theorem Quw {L:List Ct} (h:L.Pairwise fun x y=>x.1≠y.1) (q:Ct→Bool):((L.filter q).map (·.1)).Nodup:=(X3 h).sublist (List.filter_sublist.map _)
theorem Q01 (c:Cfg) (z:List Ev) (person:ByteArray) (now:Int):((Q9w c z person now).map (·.1)).Nodup:=(Qdu _).nodup_iff.2 (Quw (Qg1 _ _ _) _)
theorem Q3d (c:Cfg) (z:List Ev) (now:Int):((Q8p c z now).map fun x=>x.1.1).Nodup:=by
 have h:((Q8p c z now).map fun x=>x.1.1).Perm (((Qlj Qrd (Q9r c z now)).map (·.1)).map (·.1)):=by
  have:=(Qdv (ltOf Qho) (Qlj Qrd (Q9r c z now))).map fun x=>x.1.1
  rw[List.map_map]
  exact this
 refine h.nodup_iff.2 ?_
 have hs:∀ L:List Ri,(((Qlj Qrd L).map (·.1)).map (·.1)).Sublist (L.map (·.1)):=by
  intro L
  induction L with
  | nil=>exact List.Sublist.refl _
  | cons x L ih =>
    unfold Qlj at ih ⊢;rw[List.filterMap_cons]
    by_cases hx:Qrd x
    · rw[dif_pos hx]
      simp only[List.map_cons]
      exact ih.cons_cons _
    · rw[dif_neg hx]
      exact ih.cons _
 exact(Qoq _ _ _ _ _ _ _).sublist (hs _)
theorem Qot {c:Cfg} {z:List Ev} (hS:(Qgo c z).length<1000) (person:ByteArray) (now:Int) (r:Nat):(Qcp c z person now r).Nodup:=by
 unfold Qcp
 split
 · refine(Qdu _).nodup_iff.2 (Q0l ?_ _ _)
   rw[(Qbj c.width z).1]
   exact Qr5 _
 split
 · exact Q3d c z now
 split
 · exact Q04 hS
 split
 · exact Qsr _ _ _
 split
 · exact Qsr _ _ _
 split
 · exact Q01 _ _ _ _
 · exact List.nodup_nil
theorem Qh1 {c:Cfg} {z:List Ev} (hS:(Qgo c z).length<1000) (person:ByteArray) (now r limit:Int):(Xi c z person now r limit).Nodup:=by
 unfold Xi
 split
 · exact(Qot hS person now _).sublist (List.take_sublist _ _)
 · exact List.nodup_nil
theorem Qs4 (c:Cfg) (z:List Ev) (person:ByteArray) (now r limit:Int):(Xi c z person now r limit).length≤limit.toNat:=by
 unfold Xi
 split
 · rw[List.length_take];omega
 · simp
theorem Qos (c:Cfg) (z:List Ev) (person:ByteArray) (now r limit more:Int) (h0:0≤limit) (h1:0≤more):Xi c z person now r limit=(Xi c z person now r (limit+more)).take limit.toNat:=by
 unfold Xi
 split
 · rw[List.take_take];congr 1;omega
 · simp
theorem Qss {z:List Ev} {person:ByteArray} (h:Qae z person = []):Qgv z person = []∧Qxr z person = []:=by
 have:Qgv z person = []:=by unfold Qgv;rw[h];rfl
 exact⟨this,by unfold Qxr;rw[this];rfl⟩
theorem Q5k {z:List Ev} {person:ByteArray} (h:Qae z person = []) (maker:ByteArray):Q62 z person maker=false:=by
 have hf:z.filter (flB person maker) = []:=by
  rw[List.filter_eq_nil_iff];intro e he hq;unfold flB at hq;simp only[Bool.and_eq_true,Bool.or_eq_true,decide_eq_true_eq] at hq
  have:e∈Qae z person:=by
   unfold Qae hist Qb1;refine List.mem_filter.2 ⟨List.mem_filter.2 ⟨he,?_⟩,by simpa using hq.1⟩;unfold peB thB;rcases hq.2.2 with hk | hk <;> simp[hk]
  rw[h] at this
  cases this
 unfold Q62;rw[hf]
 rfl
theorem Qfx {c:Cfg} {z:List Ev} {person:ByteArray} (now:Int) (h:Qae z person = []):Qcp c z person now 2 = []∧Qcp c z person now 3 = []∧Qcp c z person now 5 = []:=by
 refine⟨?_,?_,?_⟩
 · show (Qnm (Qgo c z) 1 (Qxr z person)).map _ = []
   rw[(Qss h).2,Q7n];rfl
 · show (Qok z now (Quz z person)).map _ = []
   unfold Qok;rw[List.filter_eq_nil_iff.2 fun t _=>by unfold Quz;rw[Q5k h];simp]
   simp[Qci]
 · show (Q9w c z person now).map _ = []
   unfold Q9w;rw[(Qss h).1]
   simp[Qdh,Qci]
theorem Qs6 {c:Cfg} {z:List Ev} {person other:ByteArray} (now limit:Int) (h:Qae z person = []) (k:Qae z other = []) (r:Int):Xi c z person now r limit=Xi c z other now r limit:=by
 unfold Xi
 split
 · next hr =>
   congr 1
   obtain⟨n,rfl⟩:∃ n:Nat,r=n:=⟨r.toNat,by omega⟩;rw[Int.toNat_natCast];obtain⟨h2,h3,h5⟩:=Qfx (c:=c) now h;obtain⟨k2,k3,k5⟩:=Qfx (c:=c) now k;rcases n with _ | _ | _ | _ | _ | _ | n
   · rfl
   · rfl
   · rw[h2,k2]
   · rw[h3,k3]
   · rfl
   · rw[h5,k5]
   · omega
 · rfl
theorem Qzy {c:Cfg} {z:List Ev} {person:ByteArray} (now limit:Int) (h:Qae z person = []) (r:Int) (hr:r=2∨r=3∨r=5):Xi c z person now r limit = []:=by
 obtain⟨h2,h3,h5⟩:=Qfx (c:=c) now h;unfold Xi
 split
 · rcases hr with rfl | rfl | rfl
   · rw[show (2:Int).toNat=2 from rfl,h2];simp
   · rw[show (3:Int).toNat=3 from rfl,h3];simp
   · rw[show (5:Int).toNat=5 from rfl,h5];simp
 · rfl
theorem Qgk {c:Cfg} {z:List Ev} {person:ByteArray} {now r limit:Int} {x:ByteArray} (h:x∈Xi c z person now r limit):x∈Qcp c z person now r.toNat:=by
 unfold Xi at h
 split at h
 · exact List.mem_of_mem_take h
 · cases h
theorem Q56 {c:Cfg} {z:List Ev} (hS:(Qgo c z).length<1000) {person:ByteArray} {now limit:Int} {x:ByteArray} (h:x∈Xi c z person now 2 limit):x∉Qxr z person:=by
 have h1:x∈(Qnm (Qgo c z) 1 (Qxr z person)).map fun x=>x.1.1:=Qgk h
 obtain⟨y,hy,rfl⟩:=List.mem_map.1 h1
 exact Q7m hS hy
theorem Q57 {c:Cfg} {z:List Ev} {person:ByteArray} {now limit:Int} {x:ByteArray} {r:Int} (hr:r=3∨r=4) (h:x∈Xi c z person now r limit):Qcg (Qn z) now x=true:=by
 rcases hr with rfl | rfl
 · exact Qjy (q:=Quz z person) (Qgk h)
 · exact Qjy (q:=Q5l c now) (Qgk h)
theorem Qzx {c:Cfg} {z:List Ev} {person:ByteArray} {now limit:Int} {x:ByteArray} (h:x∈Xi c z person now 5 limit):x∈Qxr z person∧Qjm (Qe c.width z).rs person x=false∧Q4n (Qe c.width z).rs person x=false:=by
 have h1:x∈(Q9w c z person now).map (·.1):=Qgk h;have h2:=(Qdu _).mem_iff.1 h1;obtain⟨y,hy,rfl⟩:=List.mem_map.1 h2;obtain⟨hy1,hy2⟩:=List.mem_filter.1 hy;refine⟨(Qiq hy1).1,?_⟩;unfold keepR at hy2;simp only[Bool.not_eq_true',Bool.or_eq_false_iff] at hy2
 exact hy2.2
def Qf8 (l:List Ct) (x:Ct):List Ct:=if x.1∈l.map (·.1) then l else Qci (x :: l)
theorem Qle {l:List Ct} {x:Ct} (h:Srt Qe9 l):Srt Qe9 (Qf8 l x):=by
 unfold Qf8
 split
 · exact h
 · exact Qgp _
theorem Qmw (f:ByteArray→Int):∀ K:List ByteArray,(K.map fun k=>(k,f k)).foldl Qf8 []=Qci ((Qr3 K).map fun k=>(k,f k)):=by
 have key:∀ K:List ByteArray,Srt Qe9 ((K.map fun k=>(k,f k)).foldl Qf8 [])∧(((K.map fun k=>(k,f k)).foldl Qf8 []).map (·.1)).Nodup∧∀ x,x∈(K.map fun k=>(k,f k)).foldl Qf8 []↔x.1∈K∧x.2=f x.1:=by
  refine Qy ⟨Srt.nil,by simp,by simp⟩ fun K k ih => ?_
  obtain⟨h1,h2,h3⟩:=ih;rw[List.map_append,List.foldl_append];simp only[List.map_cons,List.map_nil,List.foldl_cons,List.foldl_nil];generalize (K.map fun k=>(k,f k)).foldl Qf8 []=M at h1 h2 h3 ⊢;refine⟨Qle h1,?_,?_⟩
  · unfold Qf8
    split
    · exact h2
    · next hk=>exact(Qdu _).nodup_iff.2 (by rw[List.map_cons];exact List.nodup_cons.2 ⟨hk,h2⟩)
  · intro x
    unfold Qf8
    split
    · next hk =>
      obtain⟨y,hy,he⟩:=List.mem_map.1 hk;have he:y.1=k:=he;have hyK:=((h3 y).1 hy).1;rw[he] at hyK;rw[h3 x,List.mem_append,List.mem_singleton];constructor
      · rintro ⟨q1,q2⟩;exact⟨.inl q1,q2⟩
      · rintro ⟨q1 | q1,q2⟩
        · exact⟨q1,q2⟩
        · rw[q1];rw[q1] at q2;exact⟨hyK,q2⟩
    · rw[(Qa1 _).mem_iff,List.mem_cons,h3 x,List.mem_append,List.mem_singleton]
      constructor
      · rintro (rfl | ⟨q1,q2⟩)
        · exact⟨.inr rfl,rfl⟩
        · exact⟨.inl q1,q2⟩
      · rintro ⟨q1 | q1,q2⟩
        · exact .inr ⟨q1,q2⟩
        · left
          rw[Prod.ext_iff]
          exact⟨q1,by rw[q2,q1]⟩
 intro K;obtain⟨h1,h2,h3⟩:=key K;refine Qeq ?_ h1;have n1:((K.map fun k=>(k,f k)).foldl Qf8 []).Nodup:=Q2x h2;have n2:((Qr3 K).map fun k=>(k,f k)).Nodup:=Qmm f _ (Qbt K);refine(List.perm_ext_iff_of_nodup n1 n2).2 fun x => ?_
 rw[h3 x,List.mem_map];constructor
 · rintro ⟨q1,q2⟩
   exact⟨x.1,Qcn.2 q1,Prod.ext rfl q2.symm⟩
 · rintro ⟨k,hk,rfl⟩
   exact⟨Qcn.1 hk,rfl⟩
theorem Qtb (l:List Ct) (q:Ct→Bool):(Qci l).filter q=Qci (l.filter q):=Qeq ((Qa1 l).filter q) ((Qgp l).filter _)
theorem Q2f (half now:Int) (l:List Ev):((l.map (·.item)).map fun k=>(k,Qea half now l k)).foldl Qf8 []=Qci (Qdh half now l):=by
 rw[Qmw];refine Qeq ((Qa1 _).trans ?_) (Qgp _);have n1:((Qr3 (l.map (·.item))).map fun k=>(k,Qea half now l k)).Nodup:=Qmm (Qea half now l) _ (Qbt _);have n2:(Qdh half now l).Nodup:=Q2x (X3 (Qg1 half now l));refine(List.perm_ext_iff_of_nodup n1 n2).2 fun x => ?_
 rw[List.mem_map];constructor
 · rintro ⟨k,hk,rfl⟩
   have:=Qg2 half now k l;rw[if_pos (Qcn.1 hk)] at this
   exact Qaz this
 · intro hx
   obtain⟨h1,h2⟩:=Qiq hx
   exact⟨x.1,Qcn.2 h1,Prod.ext rfl h2.symm⟩
theorem Qvb (half now:Int) (x:ByteArray):∀ h:List Ev,(∀ e∈h,X4 e=true)→Qea half now h x=Qea half now (h.filter fun e=>decide (0<Qs e)) x:=by
 refine Qy (fun _=>rfl) fun h e ih hm => ?_
 have h1:=ih fun y hy=>hm y (by simp[hy])
 rw[List.filter_append,Qe8,h1]
 by_cases hq:0<Qs e
 · rw[List.filter_cons_of_pos (by simpa using hq),List.filter_nil,Qe8]
 · rw[List.filter_cons_of_neg (by simpa using hq),List.filter_nil,List.append_nil]
   have hb:=Qha (half:=half) (now:=now) (hm e (by simp))
   have h0:Q0v half now e≤0:=by
    unfold Q0v;have hw:=(Qk0 (now-e.at_) half).1
    exact Int.mul_nonpos_of_nonpos_of_nonneg (by omega) hw
   split <;> omega
end Go.Proofs.YtagijlhciclafaaGreatDoor
namespace Go.Proofs.YtagijlhciclafaaGreatDoor
open Go.Se Go.RowKit
def Qk6 (e:Ev):Bool:=decide (Qs e≤0)
def dV:Value := .func (.func 172) #[] #[]
theorem Ql1 (e:Ev) (w:World):Cal Tryz.prog 172 [evV e] w fun r w'=>r = .bool (Qk6 e)∧Ext w w':=by
 refine Fi Tryz.func172 rfl _ rfl rfl (Hh ?_);intro b1 w1 hn1;refine Gg ?_;have h1:At w1 b1 51 (evC e):=hn1.At;refine⟨evC e,⟨rfl,h1.all⟩,Gg ?_⟩;refine(Qcf e w1).mono ?_;rintro _ w2 ⟨rfl,hx2⟩;refine Gg ?_
 exact⟨rfl,hn1.ext.trans hx2⟩
theorem Qr0 (l:List Ev) (A:Option Addr) (c:Nat) (w:World) (hs:SlE w A l) (hl:l.length<1000000) :
 Cal Tryz.prog 163 [.slice A l.length c,dV] w fun r w'=>r = .int .i64 (match l.findIdx? (Qk6) with | some i=>(i:Int) | none => -1)∧Ext w w':=by
 refine Fi Tryz.func163 rfl _ rfl rfl (Hh ?_)
 refine Qh Qa (fun(k:Nat) w'=>k≤l.length∧Ext w w'∧∀ x∈l.take k,Qk6 x=false)
  (fun k => [(0,.slice A l.length c),(1,dV),(7,.int .i64 l.length),(8,.int .i64 (k:Nat))]) (fun k=>l.length-k) 0 ⟨Nat.zero_le _,Ext.refl _,by simp⟩ Rr ?_
 rintro k w1 ⟨hk,hx,hall⟩
 conv=>whnf
 constructor
 · intro hlt
   have hlt:k<l.length:=by simpa using hlt
   obtain⟨a,rfl,hc⟩:=(hs.ext hx).get hlt;have htk:=Qnf l k hlt
   have hfi:Qk6 l[k]=true→l.findIdx? (Qk6)=some k:=fun h=>by
    rw[List.findIdx?_eq_some_iff_getElem];refine⟨hlt,h,fun j hj => ?_⟩;have hjl:j<l.length:=by omega
    have:=hall l[j] (by rw[List.mem_take_iff_getElem];exact⟨j,by omega,rfl⟩)
    simp[this]
   generalize l[k]=x at hc htk hfi;refine Gg ?_;refine⟨a,Ix,Gg ?_⟩;refine⟨evC x,⟨rfl,hc⟩,Gg ?_⟩;refine(Ql1 x w1).mono ?_;rintro _ w2 ⟨rfl,hx2⟩;refine Gg ?_;constructor
   · intro h
     rw[hfi h];refine Gg ?_
     exact⟨rfl,hx.trans hx2⟩
   · intro h
     have h:Qk6 x=false:=h;refine Gg ?_;refine⟨_,wrap_succ (by omega),Gg ?_⟩;refine⟨k+1,by omega,⟨by omega,hx.trans hx2,fun y hy => ?_⟩,Rr⟩;rw[htk] at hy;rcases List.mem_append.1 hy with hy | hy
     · exact hall y hy
     · rw[List.mem_singleton] at hy;rw[hy];exact h
 · intro hge
   have hge:l.length≤k:=by simpa using hge
   rw[List.take_of_length_le hge] at hall
   have:l.findIdx? (Qk6)=none:=by
    rw[List.findIdx?_eq_none_iff]
    exact hall
   rw[this];refine Gg ?_
   exact⟨rfl,hx⟩
set_option maxHeartbeats 2000000 in
theorem Q1p (l:List Ev) (a:Addr) (c base:Nat) (w:World) (hown:Own evC 8 51 base w (some a) c l) (hl:l.length<1000000) (hany:l.any (Qk6)=true) :
 Cal Tryz.prog 103 [.slice (some a) l.length c,dV] w fun r w'=>r = .slice (some a) (l.filter fun e => !Qk6 e).length c∧Own evC 8 51 base w' (some a) c (l.filter fun e => !Qk6 e)∧Mod (fun k=>k=a.block) w w':=by
 have hle:=hown.le
 obtain⟨i0,hi0,hq0,hb0⟩:∃ i,∃ (h:i<l.length),Qk6 l[i]=true∧∀ j (hj:j<i),Qk6 (l[j]'(by omega))=false:=by
  cases h:l.findIdx? (Qk6) with
  | none =>
    rw[List.findIdx?_eq_none_iff] at h;obtain⟨x,hx,hq⟩:=List.any_eq_true.1 hany;rw[h x hx] at hq
    cases hq
  | some i =>
    rw[List.findIdx?_eq_some_iff_getElem] at h;obtain⟨h1,h2,h3⟩:=h
    exact⟨i,h1,h2,fun j hj=>by simpa using h3 j hj⟩
 have hfi:l.findIdx? (Qk6)=some i0:=by
  rw[List.findIdx?_eq_some_iff_getElem]
  exact⟨hi0,hq0,fun j hj=>by simp[hb0 j hj]⟩
 have hf0:(l.take (i0+1)).filter (fun e => !Qk6 e)=l.take i0:=by
  rw[Qf2 _ l i0 hi0,hq0];simp only[Bool.not_true,Bool.false_eq_true,if_false,List.append_nil];rw[List.filter_eq_self];intro x hx;rw[List.mem_take_iff_getElem] at hx;obtain⟨j,hj,rfl⟩:=hx;rw[hb0 j (by omega)]
  rfl
 refine Fi Tryz.func103 rfl _ rfl rfl (Hh ?_);refine(Qr0 l (some a) c w (hown.sl Qah) hl).mono ?_;rintro _ w1 ⟨rfl,hx1⟩;rw[hfi];replace hown:=hown.ext hx1;refine Gg ?_;constructor
 · intro h
   simp at h
 intro _;refine Gg ?_;refine⟨_,wrap_succ (by omega),Gg ?_⟩
 refine Qh Qa (fun(x:Nat×Nat×List Ev) w'=>x.1≤l.length∧x.2.1<x.1∧x.2.2.length=l.length∧x.2.2.take x.2.1=(l.take x.1).filter (fun e => !Qk6 e)∧x.2.2.drop x.1=l.drop x.1∧Own evC 8 51 base w' (some a) c x.2.2∧Mod (fun k=>k=a.block) w w')
  (fun | (j,i,U) => [(0,.slice (some a) l.length c),(1,dV),(5,.int .i64 (i:Nat)),(6,.int .i64 (j:Nat))]) (fun x=>l.length-x.1) (i0+1,i0,l) ⟨by simp only;omega,by simp only;omega,rfl,hf0.symm,rfl,hown,Mod.of_ext hx1⟩ Rr ?_
 clear hown hx1 hf0 hfi hb0 hq0;rintro ⟨j,i,U⟩ w2 ⟨hj,hij,hUl,hUt,hUd,hown,hM2⟩;simp only at hj hij hUl hUt hUd hown
 conv=>whnf
 constructor
 · intro hlt
   have hlt:j<l.length:=by simpa using hlt
   have hjU:j<U.length:=by omega
   obtain⟨a',ha',hc⟩:=(hown.sl Qah).get hjU;injection ha' with ha';subst ha'
   have hUj:U[j]=l[j]:=by
    have h1:(U.drop j)[0]? = (l.drop j)[0]? := by rw[hUd]
    rw[List.getElem?_drop,List.getElem?_drop,Nat.add_zero,List.getElem?_eq_getElem hjU,List.getElem?_eq_getElem hlt] at h1
    exact Option.some.inj h1
   have hst:=Qf2 (fun e => !Qk6 e) l j hlt;rw[← hUt] at hst;have hUd2:U.drop (j+1)=l.drop (j+1):=by rw[← List.drop_drop,← List.drop_drop,hUd]
   rw[hUj] at hc;generalize l[j]=v at hc hst;refine Gg ?_;refine⟨a,Ix,Gg ?_⟩;refine⟨evC v,⟨rfl,hc⟩,Gg ?_⟩;intro b7 w3 hn3;refine Gg ?_;refine Qg Qa (e:=ty51) rfl hn3.At rfl rfl rfl (Qfl v) fun w4 h7 ho4 => ?_
   have h7:At w4 b7 51 (evC v):=h7;have hx24:Ext w2 w4:=ho4.ext hn3.ext (by rw[hn3.block];exact Nat.le_refl _);clear ho4 hn3;refine Gg ?_;refine⟨evC v,⟨rfl,h7.all⟩,Gg ?_⟩;refine(Ql1 v w4).mono ?_;rintro _ w5 ⟨rfl,hx5⟩;have hx25:=hx24.trans hx5;have h75:=h7.ext hx5;replace hown:=hown.ext hx25;replace hM2:=hM2.trans (Mod.of_ext hx25);clear hx24 hx5 hx25 h7;refine Gg ?_;constructor
   · intro hq
     have hq:Qk6 v=false:=by simpa using hq
     rw[hq] at hst;simp only[Bool.not_false,if_true] at hst;refine Gg ?_;refine⟨evC v,⟨rfl,h75.all⟩,Gg ?_⟩;refine⟨a,Ix,Gg ?_⟩;refine Qto Qa (e:=ty51) rfl rfl Qah Qfl (k:=i) (by omega) v rfl hown fun w6 hown6 ho6 => ?_
     refine Gg ?_;refine⟨_,wrap_succ (by omega),Gg ?_⟩;refine⟨_,wrap_succ (by omega),Gg ?_⟩;refine⟨(j+1,i+1,U.set i v),by simp only;omega,⟨by simp only;omega,by simp only;omega,by simp only;rw[List.length_set];exact hUl,?_,?_,hown6,hM2.trans (Qj ho6 rfl)⟩,Rr⟩
     · simp only
       rw[hst,List.take_set,List.take_add_one,List.getElem?_eq_getElem (by omega:i<U.length)];rw[List.set_append_right _ _ (by rw[List.length_take];omega)]
       simp[List.length_take,Nat.min_eq_left (by omega:i≤U.length)]
     · simp only
       rw[List.drop_set_of_lt (by omega)]
       exact hUd2
   · intro hq
     have hq:Qk6 v=true:=by simpa using hq
     rw[hq] at hst;simp only[Bool.not_true,Bool.false_eq_true,if_false,List.append_nil] at hst;refine Gg ?_;refine⟨_,wrap_succ (by omega),Gg ?_⟩
     exact⟨(j+1,i,U),by simp only;omega,⟨by simp only;omega,by simp only;omega,hUl,hst.symm,hUd2,hown,hM2⟩,Rr⟩
 intro hge;have hge:l.length≤j:=by simpa using hge
 rw[List.take_of_length_le hge] at hUt;have hil:i<U.length:=by omega
 have hfl:(l.filter fun e => !Qk6 e).length=i:=by rw[← hUt,List.length_take];omega
 rw[hfl]
 have hsl:(if((c:Nat):Int).toNat=((i:Nat):Int).toNat then some a else(some a).map (·.add (((i:Nat):Int).toNat*8)))=some (a.add (i*8)):=by
  rw[Int.toNat_natCast,Int.toNat_natCast,if_neg (by omega)]
  rfl
 refine Gg ?_;refine⟨⟨by omega,by omega,by omega,by omega⟩,Gg ?_⟩;rw[hsl];refine Q1h Q9c ty51_ok rfl (by simp[Ql,ty51,Value.oneCell']) Qah hil hown (by simp;omega) fun w6 hown6 ho6 => ?_
 rw[hUt] at hown6;refine Gg ?_;refine⟨⟨by omega,by omega,by omega,by omega⟩,Gg ?_⟩;refine⟨?_,hown6,hM2.trans (Qj ho6 rfl)⟩;have e0:a.add 0=a:=by unfold Addr.add;simp
 simp[e0]
theorem Qxl (l:List Ev):(l.filter fun e => !Qk6 e)=l.filter fun e=>decide (0<Qs e):=by
 congr 1
 funext e
 unfold Qk6
 by_cases h:Qs e≤0
 · simp[h]
   try omega
 · simp[h]
   try omega
theorem Qrz (l:List Ev) (A:Option Addr) (c base:Nat) (w:World) (hown:Own evC 8 51 base w A c l) (hl:l.length<1000000) :
 Cal Tryz.prog 103 [.slice A l.length c,dV] w fun r w'=>r = .slice A (l.filter fun e=>decide (0<Qs e)).length c∧Own evC 8 51 base w' A c (l.filter fun e=>decide (0<Qs e))∧∀ w0,Ext w0 w→w0.heap.size≤base→Ext w0 w':=by
 by_cases hany:l.any Qk6=true
 · obtain⟨a,rfl⟩:∃ a,A=some a:=by
    cases A with
    | some a=>exact⟨a,rfl⟩
    | none =>
      cases l with
      | nil=>simp at hany
      | cons x l=>obtain⟨a,ha,_⟩:=(hown.sl Qah) 0 x rfl;cases ha
   refine(Q1p l a c base w hown hl hany).mono ?_;rintro _ w' ⟨rfl,ho,hM⟩;rw[Qxl] at ho ⊢;refine⟨rfl,ho,fun w0 hx hb=>Qat hx (T:=fun k=>k=a.block) (fun k hk => ?_) hM⟩;have:=(hown.block rfl).1;omega
 · have hany:l.any Qk6=false:=by simpa using hany
   have hf:(l.filter fun e=>decide (0<Qs e))=l:=by
    rw[← Qxl,List.filter_eq_self];intro x hx;have:=List.any_eq_false.1 hany x hx
    simpa using this
   have hfi:l.findIdx? Qk6=none:=by
    rw[List.findIdx?_eq_none_iff];intro x hx
    simpa using List.any_eq_false.1 hany x hx
   rw[hf];refine Fi Tryz.func103 rfl _ rfl rfl (Hh ?_);refine(Qr0 l A c w (hown.sl Qah) hl).mono ?_;rintro _ w1 ⟨rfl,hx1⟩;rw[hfi];refine Gg ?_;constructor
   · intro _
     refine Gg ?_
     exact⟨rfl,hown.ext hx1,fun w0 hx hb=>hx.trans hx1⟩
   · intro h;simp at h
theorem Qn9 {w:World} {T:Nat→Prop} {p:Nat} {c:Cfg} {z:List Ev} {v:Value} (h:WQ w T p c z v) (person:ByteArray) :
 Cal Tryz.prog 108 [.pointer (some ⟨p,0,none⟩),.string person] w fun r w'=>∃ A cp,r = .slice A (Qgv z person).length cp∧Own evC 8 51 w.heap.size w' A cp (Qgv z person)∧Ext w w':=by
 have hz:(Qb1 z).length<1000000:=by
  have h2:=List.length_filter_le peB z;have:=h.len;unfold Qb1;omega
 refine Fi Tryz.func108 rfl _ rfl rfl (Hh ?_);refine(Xz h).mono ?_;rintro _ w4 ⟨pw,S4,rfl,hcr,hx4⟩;conv=>whnf
 have he:=(Qar c.width z).2
 refine(Qc9 w4 S4 pw _ _ hcr person (by
  have:(evs (Qe c.width z).rs).length=(Qb1 z).length:=by rw[he]
  simp[evs] at this
  omega)).mono ?_
 rintro _ w5 ⟨A5,c5,rfl,ho5,hx5⟩;rw[he] at ho5 ⊢;rw[show hist (Qb1 z) person=Qae z person from rfl] at ho5 ⊢;have hhl:(Qae z person).length<1000000:=Nat.lt_of_le_of_lt (List.length_filter_le _ _) hz
 conv=>whnf
 refine(Qrz _ A5 c5 w4.heap.size w5 ho5 hhl).mono ?_;rintro _ w6 ⟨rfl,ho6,hx6⟩
 conv=>whnf
 have hx:=hx6 w (hx4.trans hx5) hx4.size;rw[show (Qae z person).filter (fun e=>decide (0<Qs e))=Qgv z person from rfl] at ho6 ⊢
 exact⟨A5,c5,rfl,ho6.base hx4.size,hx⟩
end Go.Proofs.YtagijlhciclafaaGreatDoor
namespace Go.Proofs.YtagijlhciclafaaGreatDoor
open Go.Se Go.RowKit Go.Shelf Go.Sort Go.Maps Go.WideElems
def byT (x:ByteArray):List UInt8:=x.data.toList
theorem Q7q {a b:ByteArray} (h:byT a=byT b):a=b:=by
 have:=congrArg List.toArray h;unfold byT at this
 simp at this
 cases a;cases b
 simpa using this
theorem Qn8 {d e:Array (List UInt8)}:∀ m:Nat,(∀ j,j<m→d[j]! = e[j]!)→Lib.compactUpTo d m=Lib.compactUpTo e m
 | 0,_=>rfl
 | m+1,h=>by
   rw[Lib.compactUpTo_succ,Lib.compactUpTo_succ,Qn8 m fun j hj=>h j (by omega)]
   have hk:Lib.keeps d m=Lib.keeps e m:=by
    unfold Lib.keeps;rw[h m (by omega),h (m-1) (by omega)]
   rw[hk,h m (by omega)]
theorem Qnu:∀ l:List ByteArray,Srt bLt l→∃ K:List ByteArray,Lib.compact (l.map byT)=K.map byT∧K.Nodup∧(∀ x,x∈K↔x∈l)∧Srt bLt K:=by
 refine Qy (fun _=>⟨[],rfl,List.nodup_nil,by simp,Srt.nil⟩) fun l a ih hs => ?_
 obtain⟨K,h1,h2,h3,h4⟩:=ih hs.left
 have hup:Lib.compactUpTo ((l ++ [a]).map byT).toArray l.length=K.map byT:=by
  rw[← h1];unfold Lib.compact;rw[List.length_map];refine Qn8 _ fun j hj => ?_
  rw[getElem!_pos _ j (by simp;omega),getElem!_pos _ j (by simpa using hj)];simp only[List.getElem_toArray,List.getElem_map,List.getElem_append_left hj]
 have hlast:((l ++ [a]).map byT).toArray[l.length]! = byT a:=by
  rw[getElem!_pos _ l.length (by simp)]
  simp
 have hc:Lib.compact ((l ++ [a]).map byT)=K.map byT++(if Lib.keeps ((l ++ [a]).map byT).toArray l.length then [byT a] else []):=by
  unfold Lib.compact;rw[List.length_map,List.length_append,List.length_cons,List.length_nil,Lib.compactUpTo_succ,hup,hlast]
 rw[hc];have hsa:∀ u∈l,bLt a u=false:=fun u hu=>hs.across u hu a (by simp)
 cases hk:Lib.keeps ((l ++ [a]).map byT).toArray l.length with
 | true =>
   have hne:a∉l:=by
    intro ha;rcases List.eq_nil_or_concat l with rfl | ⟨l0,b,hb⟩
    · simp at ha
    · have hb:l=l0 ++ [b]:=by simpa using hb
      have hab:a≠b:=by
       rintro rfl;unfold Lib.keeps at hk;rw[decide_eq_true_eq] at hk;rcases hk with hk | hk
       · rw[hb] at hk;simp at hk
       · apply hk
         rw[hlast,getElem!_pos _ (l.length-1) (by simp;omega)]
         simp[hb]
      rcases (by rw[hb,List.mem_append,List.mem_singleton] at ha;exact ha:a∈l0∨a=b) with h | h
      · have q1:bLt b a=false:=by
         have:=hs.left;rw[hb] at this
         exact this.across a h b (by simp)
        have q2:bLt a b=false:=hsa b (by rw[hb];simp)
        exact hab (Qbh q2 q1)
      · exact hab h
   refine⟨K ++ [a],by simp,?_,fun x => ?_,?_⟩
   · rw[List.nodup_append]
     exact⟨h2,by simp,fun u hu v hv=>by
      rw[List.mem_singleton] at hv;subst hv;rintro rfl
      exact hne ((h3 _).1 hu)⟩
   · rw[List.mem_append,List.mem_append,h3]
   · exact Srt.append h4 (Srt.one a) fun u hu v hv=>by
      rw[List.mem_singleton] at hv;subst hv
      exact hsa u ((h3 u).1 hu)
 | false =>
   have hin:a∈l:=by
    unfold Lib.keeps at hk;rw[decide_eq_false_iff_not] at hk;rcases List.eq_nil_or_concat l with rfl | ⟨l0,b,hb⟩
    · exact absurd (.inl rfl) hk
    · have hb:l=l0 ++ [b]:=by simpa using hb
      have e:((l ++ [a]).map byT).toArray[l.length]! = ((l ++ [a]).map byT).toArray[l.length-1]! := Classical.byContradiction fun hne=>hk (.inr hne)
      rw[hlast,getElem!_pos _ (l.length-1) (by simp;omega)] at e;have e2:byT a=byT b:=by rw[e];simp[hb]
      rw[Q7q e2,hb]
      simp
   refine⟨K,by simp,h2,fun x => ?_,h4⟩;rw[h3,List.mem_append,List.mem_singleton];constructor
   · exact .inl
   · rintro (h | h)
     · exact h
     · rw[h];exact hin
theorem Qun (l:List ByteArray):Lib.compact ((Xc l).map byT)=(Qbx l).map byT:=by
 obtain⟨K,h1,h2,h3,h4⟩:=Qnu (Xc l) (Qef l);rw[h1]
 have:K=Qbx l:=by
  rw[← Qgm h2 fun x=>(h3 x).trans Qee]
  exact Qcd (List.Perm.refl _) h4
 rw[this]
theorem Qyp (l:List ByteArray) (A:Option Addr) (c base:Nat) (w:World) (hown:Own Qa6 1 9 base w A c (Xc l)) (hl:l.length<1000000) :
 Cal Tryz.prog 74 [.slice A (Xc l).length c] w fun r w'=>r = .slice A (Qbx l).length c∧SlT w' A (Qbx l)∧∀ w0,Ext w0 w→w0.heap.size≤base→Ext w0 w':=by
 by_cases h0:l = []
 · subst h0
   have e1:Xc [] = []:=Qfg;have e2:Qbx [] = []:=by simp[Qbx,Qr3,Qfg]
   rw[e1,e2];refine Qca ⟨_,Tryz.func74,rfl,rfl⟩ (Tryz.slices_Compact_string_empty A c w) ?_;rintro w' rfl
   exact⟨rfl,Sl.nil,fun w0 h _=>h⟩
 · have hpos:0<l.length:=List.length_pos_iff.2 h0
   have hll:(Xc l).length=l.length:=(Qa2 l).length_eq;rcases hown.2 with⟨_,h1⟩ | ⟨g,cap,cur,hv,hb,hg,hc1,hc2,hc3,hc4⟩
   · omega
   injection hv with hA _ hcc;subst hA;subst hcc;have hset:=Qun l;have hsl:((Xc l).map byT).length=(Xc l).length:=List.length_map _;have hkl:(Qbx l).length≤l.length:=Qlf l;obtain⟨n,hn⟩:∃ n,n=(Xc l).length-(Qbx l).length:=⟨_,rfl⟩;have hH:Holds encStr w g 0 ((Xc l).map byT).toArray:=holds_of_block hg (by rw[hsl];unfold byT;rw[← Qgr,← hc4,Nat.mul_one]);have hcall:=Tryz.slices_Compact_string g 0 c ((Xc l).map byT) w hH (by rw[hsl];omega) (by rw[hsl];exact hc1);rw[hset,hsl,List.length_map,← hn] at hcall;refine Qca ⟨_,Tryz.func74,rfl,rfl⟩ hcall ?_;rintro w' ⟨q,rfl⟩
   have hM:(Qbx l).map byT++List.replicate n []=(Qbx l++List.replicate n (⟨#[]⟩:ByteArray)).map byT:=by
    rw[List.map_append,List.map_replicate];rfl
   rw[hM]
   have hMl:(Qbx l++List.replicate n (⟨#[]⟩:ByteArray)).length=(Xc l).length:=by
    rw[List.length_append,List.length_replicate];omega
   generalize hW:Qbx l++List.replicate n (⟨#[]⟩:ByteArray)=M at hMl ⊢;have hgr:putRow encStr (Sort.ahead w q) g 0 (M.map byT).toArray=grow (putRow encStr (Sort.ahead w q) g 0 (M.map byT).toArray) #[]:=by rw[grow_empty]
   rw[hgr];refine⟨rfl,?_,fun w0 hx hb0 => ?_⟩
   · have hrow:=ownsRow_sorted (w:=w) (n:=q) (os := #[]) (ss:=(Xc l).map byT) (ts:=M.map byT) (by rw[List.length_map,List.length_map];exact hMl) hb hg (by rw[hsl];exact hc1) hc2 hc3
     rw[hsl,← hMl] at hrow;have hb2:(M.map byT).map encStr=M.flatMap Qa6:=by rw[Qgr];rfl
     rw[hb2] at hrow;obtain⟨A',c',he,ho⟩:=Qcb (enc:=Qa6) (l:=M) hrow rfl rfl
     cases he
     have hs:=(ho.sl Q7);intro i x hi;refine hs i x ?_;rw[← hW,List.getElem?_append_left (List.getElem?_eq_some_iff.1 hi).1]
     exact hi
   · have hg2:=grownBy_sorted (w:=w) (g:=g) (n:=q) (os := #[]) (M.map byT).toArray
     exact Qu hx hg2 fun k hk=>by cases hk;omega
theorem Qzf (a b:ByteArray) (w:World):Cal Tryz.prog 136 [.string a,.string b] w fun r w'=>r = .bool (bLt a b)∧w'=w:=by
 refine Fi Tryz.func136 rfl _ rfl rfl (Hh ?_);refine(Qfp a w).mono ?_;rintro _ w1 ⟨rfl,hw1⟩;subst hw1
 conv=>whnf
 refine⟨Unit,fun _ => .bool false,fun _ w'=>w'=w1,(),fun _=>(Qfp b w1).mono fun r w' h=>⟨(),h.1,h.2⟩,?_⟩;intro _ w2 h2
 have hw2:w2=w1:=by
  rcases h2 with⟨_,h⟩ | ⟨_,h⟩
  · exact h
  · exact h
 subst hw2;clear h2
 conv=>whnf
 exact⟨by simp[bLt],rfl⟩
theorem Qmb (a:ByteArray) (w:World):Cal Tryz.prog 137 [.string a] w fun r w'=>r = .bool false∧w'=w:=by
 refine Fi Tryz.func137 rfl _ rfl rfl (Hh ?_)
 exact⟨by simp,rfl⟩
theorem Q3s {l:List ByteArray} (hs:Srt bLt l) {x:ByteArray} {i:Nat} (hi:i≤l.length) (h1:∀ t,t<i→∀ (ht:t<l.length),bLt l[t] x=true) (h2:∀ t,i≤t→∀ (ht:t<l.length),bLt l[t] x=false):(x∈l↔∃ ht:i<l.length,l[i]=x):=by
 constructor
 · intro hx
   obtain⟨t,ht,rfl⟩:=List.getElem_of_mem hx;rcases Nat.lt_or_ge t i with h | h
   · have:=h1 t h ht
     rw[Xn] at this
     cases this
   · have hil:i<l.length:=by omega
     refine⟨hil,?_⟩;have q1:=h2 i (Nat.le_refl _) hil
     have q2:bLt l[t] l[i]=false:=by
      rcases Nat.lt_or_ge i t with h3 | h3
      · exact List.pairwise_iff_getElem.1 hs i t hil ht h3
      · obtain rfl:i=t:=by omega
        exact Xn _
     exact Qbh q1 q2
 · rintro ⟨ht,rfl⟩
   exact List.getElem_mem ht
theorem Q08 (l:List ByteArray) (hs:Srt bLt l) (A:Option Addr) (c:Nat) (x:ByteArray) (w:World) (hl:l.length<1000000) (hsl:SlT w A l) :
 Cal Tryz.prog 77 [.slice A l.length c,.string x] w fun r w'=>(∃ k:Nat,r = .tuple #[.int .i64 (k:Nat),.bool (decide (x∈l))])∧Ext w w':=by
 refine Fi Tryz.func77 rfl _ rfl rfl (Hh ?_)
 refine Qh Qa (fun(p:Nat×Nat) w'=>p.1≤p.2∧p.2≤l.length∧(∀ t,t<p.1→∀ (ht:t<l.length),bLt l[t] x=true)∧(∀ t,p.2≤t→∀ (ht:t<l.length),bLt l[t] x=false)∧w'=w)
  (fun | (i,j) => [(0,.slice A l.length c),(1,.string x),(6,.int .i64 l.length),(7,.int .i64 (i:Nat)),(8,.int .i64 (j:Nat))]) (fun p=>p.2-p.1) (0,l.length) ⟨Nat.zero_le _,Nat.le_refl _,fun t h=>by simp at h,fun t h ht=>by simp at h;omega,rfl⟩ Rr ?_
 rintro ⟨i,j⟩ w1 ⟨hij,hjn,hi,hj,hw1⟩;simp only at hij hjn hi hj;subst hw1
 conv=>whnf
 constructor
 · intro hlt
   have hlt:i<j:=by simpa using hlt
   obtain⟨h,hh⟩:∃ h,h=(i+j)/2:=⟨_,rfl⟩;have hhl:h<l.length:=by omega
   conv=>whnf
   refine⟨((i+j:Nat):Int),Qbc (by omega),Hh ?_⟩;refine⟨((i+j:Nat):Int),Qo7 (by omega),Hh ?_⟩;refine⟨(h:Int),by rw[hh];exact Qjq _,Hh ?_⟩;refine⟨(h:Int),Qo6 (by omega),Hh ?_⟩;obtain⟨a,hA,hc⟩:=hsl.get hhl;subst hA;refine⟨a,Ix,Hh ?_⟩;refine⟨.string l[h],Qo hc,Hh ?_⟩;refine(Qzf l[h] x w1).mono ?_;rintro _ w2 ⟨rfl,hw2⟩;subst hw2
   conv=>whnf
   constructor
   · intro hq
     have hq:bLt l[h] x=true:=hq
     conv=>whnf
     refine⟨_,wrap_succ (by omega),Hh ?_⟩;refine⟨(h+1,j),by simp only;omega,⟨by simp only;omega,hjn,fun t ht htl => ?_,hj,rfl⟩,Rr⟩
     cases hb:bLt l[t] x with
     | true=>rfl
     | false =>
       have hht:bLt l[h] l[t]=false:=by
        rcases Nat.lt_or_ge t h with h3 | h3
        · exact List.pairwise_iff_getElem.1 hs t h htl hhl h3
        · obtain rfl:t=h:=by have:t<h+1:=ht;omega
          exact Xn _
       rw[Qgu hht hb] at hq
       cases hq
   · intro hq
     have hq:bLt l[h] x=false:=hq
     conv=>whnf
     refine⟨(i,h),by simp only;omega,⟨by simp only;omega,by simp only;omega,hi,fun t ht htl => ?_,rfl⟩,Rr⟩;have ht:h≤t:=ht
     have hht:bLt l[t] l[h]=false:=by
      rcases Nat.lt_or_ge h t with h3 | h3
      · exact List.pairwise_iff_getElem.1 hs h t hhl htl h3
      · obtain rfl:t=h:=by omega
        exact Xn _
     exact Qgu hht hq
 · intro hge
   have hge:j≤i:=by simpa using hge
   obtain rfl:i=j:=by omega
   have hin:=Q3s hs hjn hi hj
   conv=>whnf
   by_cases hil:i<l.length
   · obtain⟨a,hA,hc⟩:=hsl.get hil
     subst hA;refine⟨a,fun _=>Ix,Hh ?_⟩;refine⟨.string l[i],fun _=>Qo hc,Hh ?_⟩;refine⟨a,fun _ _=>(show _∧_ from Ix),Hh ?_⟩;refine⟨.string l[i],fun _ _=>Qo hc,Hh ?_⟩;refine⟨Unit,fun _ => .bool false,fun _ w'=>w'=w1,(),fun _ _=>(Qmb l[i] w1).mono fun r w' h=>⟨(),h.1,h.2⟩,?_⟩;intro _ w2 h2
     have hw2:w2=w1:=by
      rcases h2 with⟨_,h⟩ | ⟨_,h⟩
      · exact h
      · exact h
     subst hw2;clear h2
     conv=>whnf
     refine⟨Unit,fun _ => .bool false,fun _ w'=>w'=w2,(),fun _ _ _=>(Qmb x w2).mono fun r w' h=>⟨(),h.1,h.2⟩,?_⟩;intro _ w3 h3
     have hw3:w3=w2:=by
      rcases h3 with⟨_,h⟩ | ⟨_,h⟩
      · exact h
      · exact h
     subst hw3;clear h3
     conv=>whnf
     refine⟨⟨i,?_⟩,Ext.refl _⟩;have hlt':decide ((i:Int)<(l.length:Int))=true:=by simpa using hil
     have hd:decide (x∈l)=decide (l[i]=x):=by
      rw[Bool.eq_iff_iff,decide_eq_true_iff,decide_eq_true_iff,hin]
      exact⟨fun⟨_,h⟩=>h,fun h=>⟨hil,h⟩⟩
     rw[hd]
     simp[hlt',hil]
   · have hd:decide (x∈l)=false:=by
      rw[decide_eq_false_iff_not,hin]
      exact fun⟨h,_⟩=>hil h
     have hg0:∀ {q:Prop},decide ((i:Int)<(l.length:Int))=true→q:=fun h=>by simp at h;omega
     refine⟨⟨0,0,none⟩,fun h=>hg0 h,Hh ?_⟩;refine⟨.string x,fun h=>hg0 h,Hh ?_⟩;refine⟨⟨0,0,none⟩,fun _ h=>hg0 h,Hh ?_⟩;refine⟨.string x,fun _ h=>hg0 h,Hh ?_⟩;refine⟨Unit,fun _ => .bool false,fun _ w'=>w'=w1,(),fun _ h=>hg0 h,?_⟩;intro _ w2 h2
     have hw2:w2=w1:=by
      rcases h2 with⟨_,h⟩ | ⟨_,h⟩
      · exact h
      · exact h
     subst hw2;clear h2
     conv=>whnf
     refine⟨Unit,fun _ => .bool false,fun _ w'=>w'=w2,(),fun _ _ h=>hg0 h,?_⟩;intro _ w3 h3
     have hw3:w3=w2:=by
      rcases h3 with⟨_,h⟩ | ⟨_,h⟩
      · exact h
      · exact h
     subst hw3;clear h3
     conv=>whnf
     refine⟨⟨i,?_⟩,Ext.refl _⟩;rw[hd];have hlt':decide ((i:Int)<(l.length:Int))=false:=by simp;omega
     simp[hlt']
     omega
end Go.Proofs.YtagijlhciclafaaGreatDoor
