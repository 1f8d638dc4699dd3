/- Several texts in one: Y1, Y2, Y3, Y4. -/
import Derived.Test.YtagijlhciclafaaGreatDoorGM
import Derived.Test.YtagijlhciclafaaGreatDoorGXB
import Derived.Test.YtagijlhciclafaaGreatDoorGH
import Derived.Test.YtagijlhciclafaaGreatDoorGN
import Derived.Test.YtagijlhciclafaaGreatDoorGX
import Derived.Test.YtagijlhciclafaaGreatDoorGC
import Derived.Test.YtagijlhciclafaaGreatDoorGJ
import Derived.Test.YtagijlhciclafaaGreatDoorGK
set_option linter.unusedVariables false
set_option linter.unusedSimpArgs false
namespace Go.Proofs.YtagijlhciclafaaGreatDoor
open Go.Se Go.RowKit Go.Sort
section
variable {α:Type}
def Qf1 (lt:α→α→Bool) (L:List α):List α:=L.mergeSort fun a b => !lt b a
theorem Xv (lt:α→α→Bool) (L:List α):(Qf1 lt L).Perm L:=List.mergeSort_perm _ _
theorem Qm0 {lt:α→α→Bool} (h:Go.Sort.SWO lt) (L:List α):Srt lt (Qf1 lt L):=by
 have:=List.pairwise_mergeSort (le:=fun a b => !lt b a) (fun a b c h1 h2=>by
  simp only[Bool.not_eq_true'] at *
  exact h.ntrans c b a h2 h1) (fun a b=>by
  cases h1:lt b a with
  | false=>rfl
  | true =>
    cases h2:lt a b with
    | false=>rfl
    | true=>have:=h.trans _ _ _ h1 h2;rw[h.irrefl] at this;cases this) L
 exact this.imp fun h=>by simpa using h
theorem Qom {lt:α→α→Bool} (h:Go.Sort.SWO lt) {F L:List α} (hp:F.Perm L) (hs:Srt lt F) (ht:∀ x∈L,∀ y∈L,lt x y=false→lt y x=false→x=y):F=Qf1 lt L :=
 srt_unique (hp.trans (Xv lt L).symm) hs (Qm0 h L) fun x hx y hy=>ht x (hp.mem_iff.1 hx) y (hp.mem_iff.1 hy)
def Qc9 (P:α→Prop) [DecidablePred P] (L:List α):List { x // P x }:=L.filterMap fun x=>if h:P x then some ⟨x,h⟩ else none
theorem Qf2 {P:α→Prop} [DecidablePred P]:∀ {L:List α},(∀ x∈L,P x)→(Qc9 P L).map (·.1)=L
 | [],_=>rfl
 | x :: L,h=>by
   have ih:=Qf2 (L:=L) fun y hy=>h y (by simp[hy])
   have hx:P x:=h x (by simp);unfold Qc9 at ih ⊢;rw[List.filterMap_cons,dif_pos hx];simp only[List.map_cons,ih]
theorem Qjk {P:α→Prop} [DecidablePred P]:∀ F:List { x // P x },Qc9 P (F.map (·.1))=F
 | []=>rfl
 | x :: F=>by
   have ih:=Qjk F;unfold Qc9 at ih ⊢;rw[List.map_cons,List.filterMap_cons,dif_pos x.2];simp only[ih]
theorem Qm4 {P:α→Prop} [DecidablePred P] {L M:List α} (h:L.Perm M):(Qc9 P L).Perm (Qc9 P M):=h.filterMap _
theorem Qan {P:α→Prop} [DecidablePred P] {L:List α} {x:{ x // P x }}:x∈Qc9 P L↔x.1∈L:=by
 unfold Qc9;rw[List.mem_filterMap];constructor
 · rintro ⟨y,hy,h⟩
   split at h
   · cases h;exact hy
   · cases h
 · intro h
   exact⟨x.1,h,by rw[dif_pos x.2]⟩
theorem Qe0 {P:α→Prop} [DecidablePred P] {lt:{ x // P x }→{ x // P x }→Bool} (h:Go.Sort.SWO lt) {F:List { x // P x }} {L:List α} (hp:(F.map (·.1)).Perm L) (hs:Srt lt F)
 (ht:∀ x∈Qc9 P L,∀ y∈Qc9 P L,lt x y=false→lt y x=false→x=y):F=Qf1 lt (Qc9 P L):=by
 refine Qom h ?_ hs ht;have:=Qm4 (P:=P) hp;rw[Qjk] at this
 exact this
end
theorem key_inj {β:Type} {L:List (ByteArray×β)} (h:(L.map (·.1)).Nodup) {x y:ByteArray×β} (hx:x∈L) (hy:y∈L) (e:x.1=y.1):x=y:=by
 induction L with
 | nil=>simp at hx
 | cons a l ih =>
   rw[List.map_cons,List.nodup_cons] at h;rcases List.mem_cons.1 hx with h1 | h1 <;> rcases List.mem_cons.1 hy with h2 | h2
   · rw[h1,h2]
   · subst h1;exact absurd (List.mem_map.2 ⟨y,h2,e.symm⟩) h.1
   · subst h2;exact absurd (List.mem_map.2 ⟨x,h1,e⟩) h.1
   · exact ih h.2 h1 h2
instance:DecidablePred Qf5:=fun x=>by unfold Qf5;exact inferInstance
theorem Qln {a b:RiS} (h:ltOf Qbd a b=false) (k:ltOf Qbd b a=false):a.1.1=b.1.1:=by
 have hw:WC Qbd:=by
  rw[Qdf];refine WC.lex (WC.flip (Qnf (fun x:RiS=>riR x.1) fun x => ?_)) (WC.lex (WC.flip (Qo7 fun x:RiS=>x.1.2.1)) (Qiy fun x:RiS=>x.1.1));have:=x.2.2.1;unfold riR;simp only;omega
 have e:Qbd a b=0:=by
  unfold ltOf at h k;simp only[decide_eq_false_iff_not] at h k;have:=hw.anti b a;omega
 rw[Qdf] at e;unfold Qnh at e
 split at e
 · rename_i h1;exact absurd e h1
 split at e
 · rename_i h1;exact absurd e h1
 exact cmpT_zero.1 e
def Qqj (c:Cfg) (z:List Ev) (now:Int):List Ri :=
 Xq (countAll c.width z).ps ((Qig c now-2*c.span)/halfN c.width) ((Qig c now-c.span)/halfN c.width) (Qig c now/halfN c.width) c.floor
  (Xy (countAll c.width z).ps ((Qig c now-c.span)/halfN c.width) (Qig c now/halfN c.width))
def Qpw (c:Cfg) (z:List Ev) (now:Int):List RiS:=Qf1 (ltOf Qbd) (Qc9 Qf5 (Qqj c z now))
theorem Qet (s:PSums) (a b d f lo hi:Int):((Xq s a b d f (Xy s lo hi)).map (·.1)).Nodup:=by
 have h:(Xq s a b d f (Xy s lo hi)).map (·.1)=((Xy s lo hi).filter fun k=>decide (f≤(Qpv s a b d k).2.1)):=by
  unfold Xq;generalize Xy s lo hi=K
  induction K with
  | nil=>rfl
  | cons k K ih =>
    rw[List.map_cons]
    by_cases hq:f≤(Qpv s a b d k).2.1
    · rw[List.filter_cons_of_pos (by simpa using hq),List.filter_cons_of_pos (by simpa using hq),List.map_cons,ih];rfl
    · rw[List.filter_cons_of_neg (by simpa using hq),List.filter_cons_of_neg (by simpa using hq),ih]
 rw[h]
 exact(Q7 _).sublist List.filter_sublist
theorem Qqy {s:PSums} {a b d f lo hi:Int} {F:List RiS} (hp:(F.map (·.1)).Perm (Xq s a b d f (Xy s lo hi))) (hs:Srt (ltOf Qbd) F):F=Qf1 (ltOf Qbd) (Qc9 Qf5 (Xq s a b d f (Xy s lo hi))) :=
 Qe0 Qgg hp hs fun x hx y hy h1 h2=>Subtype.ext (key_inj (Qet s a b d f lo hi) (Qan.1 hx) (Qan.1 hy) (Qln h1 h2))
abbrev Nr:=ByteArray×(Int×Int)
def Qeg (x:Nr):Prop:=Qd7 100000000 x.2
instance:DecidablePred Qeg:=fun x=>by unfold Qeg Qd7;exact inferInstance
abbrev NrS:={ x:Nr // Qeg x }
instance:Inhabited NrS:=⟨⟨(⟨#[]⟩,0,1),by unfold Qeg Qd7;simp⟩⟩
def Qpf (a b:Nr):Int:=orL [Qd9 b.2 a.2,cmpT a.1 b.1]
def Qbr (a b:NrS):Int:=Qpf a.1 b.1
theorem Qge:Qbr=Qnh (fun a b:NrS=>Qd9 b.1.2 a.1.2) (fun a b:NrS=>cmpT a.1.1 b.1.1):=by
 funext a b
 unfold Qbr Qpf Qnh orL
 by_cases h1:Qd9 b.1.2 a.1.2=0
 · by_cases h3:cmpT a.1.1 b.1.1=0 <;> simp[h1,h3]
 · simp[h1]
theorem Qi3:WC Qbr:=by
 rw[Qge];refine WC.lex (WC.flip (Qnf (fun x:NrS=>x.1.2) fun x => ?_)) (Qiy fun x:NrS=>x.1.1);have:=x.2.2.2.1;omega
theorem Qgf:SWO (ltOf Qbr):=Qi3.swo
theorem Qlm {a b:NrS} (h:ltOf Qbr a b=false) (k:ltOf Qbr b a=false):a.1.1=b.1.1:=by
 have e:Qbr a b=0:=by
  unfold ltOf at h k;simp only[decide_eq_false_iff_not] at h k;have:=Qi3.anti b a;omega
 rw[Qge] at e;unfold Qnh at e
 split at e
 · rename_i h1;exact absurd e h1
 exact cmpT_zero.1 e
def Qar (S:List Sn) (floor:Int) (a:ByteArray):List Nr:=((X0 S a).filter fun b=>decide (floor≤(Xo S a b:Int))).map fun b=>(b,Qfk S a b)
def Xp (K:List ByteArray) (m:List Nr) (x:Nr):List Nr :=
 if x.1∈K then m else match alook m x.1 with
  | none=>aset m x.1 x.2
  | some o=>if Qki o x.2=true then aset m x.1 x.2 else m
def Qc4 (S:List Sn) (floor:Int) (K:List ByteArray):List Nr:=(K.flatMap (Qar S floor)).foldl (Xp K) []
def Qd6 (S:List Sn) (floor:Int) (items:List ByteArray):List NrS:=Qf1 (ltOf Qbr) (Qc9 Qeg (Qc4 S floor (Q5 items)))
theorem Qbq {K:List ByteArray} {Q:Nr→Prop}:∀ (l:List Nr) (m:List Nr),(m.Pairwise fun x y=>x.1≠y.1)→(∀ x∈m,x.1∉K∧Q x)→(∀ x∈l,Q x) →
 ((l.foldl (Xp K) m).Pairwise fun x y=>x.1≠y.1)∧∀ x∈l.foldl (Xp K) m,x.1∉K∧Q x
 | [],m,hm,hk,_=>⟨hm,hk⟩
 | y :: l,m,hm,hk,hl=>by
   rw[List.foldl_cons];have hy:=hl y (by simp)
   have hset:y.1∉K→((aset m y.1 y.2).Pairwise fun x y=>x.1≠y.1)∧∀ x∈aset m y.1 y.2,x.1∉K∧Q x:=fun hyk=>⟨aset_pairwise hm,fun x hx=>by
    rcases aset_mem hx with h | h
    · rw[h];exact⟨hyk,hy⟩
    · exact hk x h⟩
   have hst:((Xp K m y).Pairwise fun x y=>x.1≠y.1)∧∀ x∈Xp K m y,x.1∉K∧Q x:=by
    unfold Xp
    split
    · exact⟨hm,hk⟩
    · next h =>
      split
      · exact hset h
      · split
        · exact hset h
        · exact⟨hm,hk⟩
   exact Qbq l _ hst.1 hst.2 fun x hx=>hl x (by simp[hx])
theorem Qmc {S:List Sn} (hS:S.length<1000) {floor:Int} {a:ByteArray}:∀ x∈Qar S floor a,Qeg x:=fun x hx=>by
 unfold Qar at hx;obtain⟨b,_,rfl⟩:=List.mem_map.1 hx
 have hN:(S.length:Int)*S.length≤100000000:=by
  have:(S.length:Int)*S.length≤1000*1000:=Int.mul_le_mul (by omega) (by omega) (by omega) (by omega);omega
 exact Qpo hN (by omega) a b
theorem Qe6 {S:List Sn} (hS:S.length<1000) (floor:Int) (K:List ByteArray):((Qc4 S floor K).map (·.1)).Nodup∧∀ x∈Qc4 S floor K,x.1∉K∧Qeg x:=by
 have h:=Qbq (K:=K) (Q:=Qeg) (K.flatMap (Qar S floor)) [] (by simp) (by simp) (fun x hx=>by
  obtain⟨a,_,hx⟩:=List.mem_flatMap.1 hx
  exact Qmc hS x hx)
 exact⟨Qi h.1,h.2⟩
theorem Qqn {S:List Sn} (hS:S.length<1000) {floor:Int} {items:List ByteArray} {F:List NrS} (hp:(F.map (·.1)).Perm (Qc4 S floor (Q5 items))) (hs:Srt (ltOf Qbr) F):F=Qd6 S floor items :=
 Qe0 Qgf hp hs fun x hx y hy h1 h2=>Subtype.ext (key_inj (Qe6 hS floor _).1 (Qan.1 hx) (Qan.1 hy) (Qlm h1 h2))
theorem Qk8 {S:List Sn} {floor:Int} {k l:List ByteArray} (hm:∀ x,x∈k↔x∈l):Qd6 S floor k=Qd6 S floor l:=by unfold Qd6;rw[Qcj hm]
theorem Qpc {S:List Sn} (hS:S.length<1000) {floor:Int} {items:List ByteArray} {x:NrS} (h:x∈Qd6 S floor items):x.1.1∉items:=by
 have h1:=Qan.1 ((Xv _ _).mem_iff.1 h)
 exact fun h2=>((Qe6 hS floor (Q5 items)).2 _ h1).1 (Qg.2 h2)
theorem Qk9 {S:List Sn} (hS:S.length<1000) {floor:Int} {items:List ByteArray}:((Qd6 S floor items).map fun x=>x.1.1).Nodup:=by
 have h:=(Qe6 hS floor (Q5 items))
 have h1:((Qd6 S floor items).map fun x=>x.1.1).Perm ((Qc4 S floor (Q5 items)).map (·.1)):=by
  have:=(Xv (ltOf Qbr) (Qc9 Qeg (Qc4 S floor (Q5 items)))).map (·.1);rw[Qf2 fun x hx=>(h.2 x hx).2] at this;have:=this.map (·.1);rw[List.map_map] at this
  exact this
 exact h1.nodup_iff.2 h.1
theorem Qpd {S:List Sn} {floor:Int}:Qd6 S floor [] = []:=by
 unfold Qd6;rw[show Q5 [] = [] by simp[Q5,Qgk,sortT]]
 simp[Qc4,Qc9,Qf1]
def Qa1 (z:List Ev) (person:ByteArray):List Ev:=(histE z person).filter fun e=>decide (0<worthE e)
def Qje (z:List Ev) (person:ByteArray):List ByteArray:=(Qa1 z person).map (·.item)
def Qcq (half now:Int) (m:List Ct) (e:Ev):List Ct:=aset m e.item ((alook m e.item).getD 0+Qk3 half now e)
def Xn (half now:Int) (l:List Ev):List Ct:=l.foldl (Qcq half now) []
theorem Qa6 (half now:Int) (l:List Ev) (e:Ev):Xn half now (l ++ [e])=Qcq half now (Xn half now l) e:=by unfold Xn;rw[List.foldl_append];rfl
def Xz (half now:Int) (l:List Ev) (x:ByteArray):Int:=((l.filter fun e=>decide (e.item=x)).map (Qk3 half now)).sum
theorem Qac (half now:Int) (l:List Ev) (e:Ev) (x:ByteArray):Xz half now (l ++ [e]) x=Xz half now l x+if e.item=x then Qk3 half now e else 0:=by
 unfold Xz;rw[List.filter_append,List.map_append,List.sum_append]
 congr 1
 by_cases h:e.item=x
 · simp[h]
 · simp[h]
theorem Qa4 (half now:Int):∀ l:List Ev,(Xn half now l).Pairwise (fun x y=>x.1≠y.1) :=
 snoc_ind (by simp[Xn]) fun l e ih=>by rw[Qa6];exact aset_pairwise ih
theorem Qa5 (half now:Int) (x:ByteArray):∀ l:List Ev,alook (Xn half now l) x=if x∈l.map (·.item) then some (Xz half now l x) else none:=by
 refine snoc_ind (by simp[Xn,alook]) fun l e ih => ?_
 rw[Qa6,Qac];unfold Qcq;rw[alook_aset,List.map_append,List.map_cons,List.map_nil]
 by_cases h:x=e.item
 · subst h
   rw[if_pos rfl,if_pos (by simp),if_pos rfl,ih]
   by_cases h2:e.item∈l.map (·.item)
   · rw[if_pos h2];rfl
   · rw[if_neg h2]
     have:Xz half now l e.item=0:=by
      unfold Xz;rw[List.filter_eq_nil_iff.2]
      · rfl
      · intro y hy hq
        exact h2 (List.mem_map.2 ⟨y,hy,by simpa using hq⟩)
     rw[this];rfl
 · rw[if_neg h,ih]
   have h3:¬ e.item=x:=fun q=>h q.symm
   by_cases h2:x∈l.map (·.item)
   · rw[if_pos h2,if_pos (by simp[h2]),if_neg h3,Int.add_zero]
   · rw[if_neg h2,if_neg (by simp only[List.mem_append,List.mem_singleton];rintro (q | q);exact h2 q;exact h q)]
theorem Qbg (half now:Int) (x:ByteArray):∀ l:List Ev,(∀ e∈l,mayB e=true)→0≤Xz half now l x∧Xz half now l x≤l.length*5242880:=by
 refine snoc_ind (by simp[Xz]) fun l e ih hm => ?_
 have h1:=ih fun y hy=>hm y (by simp[hy])
 have h2:=Qba (half:=half) (now:=now) (hm e (by simp));rw[Qac,List.length_append,List.length_cons,List.length_nil]
 split
 · constructor
   · omega
   · push_cast;omega
 · constructor
   · omega
   · push_cast;omega
theorem Qbx {half now:Int} {l:List Ev} {x:Ct} (h:x∈Xn half now l):x.1∈l.map (·.item)∧x.2=Xz half now l x.1:=by
 have:=mem_alook (Qa4 half now l) (k:=x.1) (v:=x.2) h;rw[Qa5] at this
 split at this
 · next h1=>exact⟨h1,(Option.some.inj this).symm⟩
 · cases this
theorem Qga (name:ByteArray):∀ cs:List Ev,∀ s∈catRows cs name,s.item.name=name:=by
 refine snoc_ind (by simp[catRows]) fun cs e ih => ?_
 rw[catRows_snoc];unfold catStep updR
 by_cases hn:name=e.item
 · subst hn
   rw[if_pos rfl];intro s hs;rcases List.mem_append.1 hs with hs | hs
   · exact ih s hs
   · rw[List.mem_singleton] at hs
     subst hs;unfold stNext;rw[Qis]
     cases hl:(catRows cs e.item).getLast? with
     | none=>rfl
     | some s0=>exact ih s0 (List.mem_of_getLast? hl)
 · rw[if_neg hn];exact ih
theorem Qjs {cs:List Ev} {name:ByteArray} {t:Int} (h:(catAt cs name t).2=true):(catAt cs name t).1.name=name:=by
 unfold catAt at *
 split at h
 · next s hs =>
   split at h
   · cases h
   · next hne =>
     rw[if_neg hne]
     exact Qga name cs s (List.mem_of_getElem? hs)
 · cases h
theorem Qgs {cs:List Ev} {name:ByteArray} {t:Int} (h:Xa cs t name=true):(catAt cs name t).1.name=name:=Qjs (by
 unfold Xa at h;rw[Bool.and_eq_true] at h
 exact h.1)
theorem Qce {cs:List Ev} {t:Int} {x:ByteArray} (h:Xa cs t x=true):x∈cs.map (·.item):=by
 cases hr:catRows cs x with
 | nil =>
   unfold Xa catAt at h;rw[hr] at h
   simp at h
 | cons s l =>
   obtain⟨e,he,hi,_⟩:=(Qek x s.at_ cs).1 (by rw[hr];simp)
   exact List.mem_map.2 ⟨e,he,hi⟩
theorem Qgl:∀ l:List Ev,(Qbo l).Pairwise (fun x y=>x.1≠y.1):=by
 refine snoc_ind (by simp[Qbo]) fun l e ih => ?_
 rw[Qfd];unfold putS
 split
 · exact ih
 · exact aset_pairwise ih
theorem Qa7 {z:List Ev} {now:Int} {x:ByteArray}:x∈Qr z now↔Xa (thingsE z) now x=true:=by
 unfold Qr;rw[Qg,List.mem_filter]
 exact⟨fun h=>h.2,fun h=>⟨Qce h,h⟩⟩
def Qcc (rs:List Row) (person item:ByteArray):Bool:=(alook (noteAll rs).done (person,item)).getD false
def Qng (rs:List Row) (person item:ByteArray):Bool:=(alook (noteAll rs).hidden (person,item)).getD false
def keepR (rs:List Row) (person:ByteArray) (x:Ct):Bool := !(decide (x.2≤0)||(Qcc rs person x.1||Qng rs person x.1))
def thC (z:List Ev) (now:Int):List It:=(Qr z now).map fun n=>(catAt (thingsE z) n now).1
def Qqg (t:It):Ct:=(t.name,t.born)
def Qer (z:List Ev) (now:Int) (q:It→Bool):List Ct:=Xb (((thC z now).filter q).map Qqg)
def Qh1 (z:List Ev) (person:ByteArray) (t:It):Bool:=Qo0 z person t.maker
def Qn3 (c:Cfg) (now:Int) (t:It):Bool:=decide (now-t.born≤c.span)
def Qqm (c:Cfg) (z:List Ev) (person:ByteArray) (now:Int):List Ct:=Xb ((Xn c.half now (Qa1 z person)).filter (keepR (countAll c.width z).rs person))
def Xe (c:Cfg) (z:List Ev) (person:ByteArray) (now:Int) (r:Nat):List ByteArray :=
 if r=0 then(Xb (X9 (countAll c.width z).ds (halfN c.half) now)).map (·.1)
 else if r=1 then(Qpw c z now).map fun x=>x.1.1
 else if r=2 then(Qd6 (Qax c z) 1 (Qje z person)).map fun x=>x.1.1
 else if r=3 then(Qer z now (Qh1 z person)).map (·.1)
 else if r=4 then(Qer z now (Qn3 c now)).map (·.1)
 else if r=5 then(Qqm c z person now).map (·.1)
 else []
def Qc (c:Cfg) (z:List Ev) (person:ByteArray) (now r limit:Int):List ByteArray :=
 if 0≤r∧r≤5∧0≤now∧now≤1099511627776 then(Xe c z person now r.toNat).take limit.toNat else []
theorem Qdp {z:List Ev} {now:Int} {K:List ByteArray} (hn:K.Nodup) (hm:∀ x,x∈K↔Xa (thingsE z) now x=true):sortT K=Qr z now :=
 Qav hn fun x=>by
  rw[hm,List.mem_filter]
  exact⟨fun h=>⟨Qce h,h⟩,fun h=>h.2⟩
theorem Qmf {L:List Ct} (h:(L.map (·.1)).Nodup):L.Nodup:=(List.pairwise_map.1 h).imp fun hne e=>hne (by rw[e])
theorem Qdr (f:ByteArray→Int) (K:List ByteArray) (h:K.Nodup):(K.map fun k=>((k,f k):Ct)).Nodup:=Qmf (by
 rw[List.map_map];have:((fun x:Ct=>x.1) ∘ fun k=>((k,f k):Ct))=id:=rfl;rw[this,List.map_id]
 exact h)
theorem Xu (l:List Ct):((Xb l).map (·.1)).Perm (l.map (·.1)):=(Qs l).map _
theorem Qkz {s:Sums} (h:s.Pairwise fun x y=>x.1≠y.1) (half now:Int):((X9 s half now).map (·.1)).Nodup:=by
 have hn:=Qi h
 have:∀ K:List ByteArray,(((K.map fun k=>(k,countAt s half k now)).filter fun x=>decide (0<x.2)).map (·.1))=K.filter fun k=>decide (0<countAt s half k now):=by
  intro K
  induction K with
  | nil=>rfl
  | cons k K ih =>
    rw[List.map_cons]
    by_cases hq:0<countAt s half k now
    · rw[List.filter_cons_of_pos (by simpa using hq),List.filter_cons_of_pos (by simpa using hq),List.map_cons,ih]
    · rw[List.filter_cons_of_neg (by simpa using hq),List.filter_cons_of_neg (by simpa using hq),ih]
 unfold X9;rw[this]
 exact hn.sublist List.filter_sublist
theorem Qhg (z:List Ev) (now:Int):(thC z now).map (·.name)=Qr z now:=by
 unfold thC;rw[List.map_map]
 conv=>rhs;rw[← List.map_id (Qr z now)]
 exact List.map_congr_left fun x hx=>Qgs (Qa7.1 hx)
theorem Qfr (z:List Ev) (now:Int) (q:It→Bool):((Qer z now q).map (·.1)).Perm (((thC z now).filter q).map (·.name)):=by
 unfold Qer;refine(Xu _).trans ?_;rw[List.map_map]
 exact List.Perm.refl _
theorem Qgv (z:List Ev) (now:Int) (q:It→Bool):((Qer z now q).map (·.1)).Nodup:=by
 refine(Qfr z now q).nodup_iff.2 ?_;have h:(Qr z now).Nodup:=Q7 _;rw[← Qhg] at h
 exact h.sublist (List.filter_sublist.map _)
theorem Qch {z:List Ev} {now:Int} {q:It→Bool} {x:ByteArray} (h:x∈(Qer z now q).map (·.1)):Xa (thingsE z) now x=true:=by
 have h1:=(Qfr z now q).mem_iff.1 h;obtain⟨t,ht,rfl⟩:=List.mem_map.1 h1;have h2:=(List.mem_filter.1 ht).1;have:t.name∈(thC z now).map (·.name):=List.mem_map.2 ⟨t,h2,rfl⟩;rw[Qhg] at this
 exact Qa7.1 this
theorem Qhy {L:List Ct} (h:L.Pairwise fun x y=>x.1≠y.1) (q:Ct→Bool):((L.filter q).map (·.1)).Nodup:=(Qi h).sublist (List.filter_sublist.map _)
theorem Qk6 (c:Cfg) (z:List Ev) (person:ByteArray) (now:Int):((Qqm c z person now).map (·.1)).Nodup:=(Xu _).nodup_iff.2 (Qhy (Qa4 _ _ _) _)
theorem Qmo (c:Cfg) (z:List Ev) (now:Int):((Qpw c z now).map fun x=>x.1.1).Nodup:=by
 have h:((Qpw c z now).map fun x=>x.1.1).Perm (((Qc9 Qf5 (Qqj c z now)).map (·.1)).map (·.1)):=by
  have:=(Xv (ltOf Qbd) (Qc9 Qf5 (Qqj c z now))).map fun x=>x.1.1
  rw[List.map_map]
  exact this
 refine h.nodup_iff.2 ?_
 have hs:∀ L:List Ri,(((Qc9 Qf5 L).map (·.1)).map (·.1)).Sublist (L.map (·.1)):=by
  intro L
  induction L with
  | nil=>exact List.Sublist.refl _
  | cons x L ih =>
    unfold Qc9 at ih ⊢;rw[List.filterMap_cons]
    by_cases hx:Qf5 x
    · rw[dif_pos hx]
      simp only[List.map_cons]
      exact ih.cons_cons _
    · rw[dif_neg hx]
      exact ih.cons _
 exact(Qet _ _ _ _ _ _ _).sublist (hs _)
theorem Qew {c:Cfg} {z:List Ev} (hS:(Qax c z).length<1000) (person:ByteArray) (now:Int) (r:Nat):(Xe c z person now r).Nodup:=by
 unfold Xe
 split
 · refine(Xu _).nodup_iff.2 (Qkz ?_ _ _)
   rw[(Qw c.width z).1]
   exact Qgl _
 split
 · exact Qmo c z now
 split
 · exact Qk9 hS
 split
 · exact Qgv _ _ _
 split
 · exact Qgv _ _ _
 split
 · exact Qk6 _ _ _ _
 · exact List.nodup_nil
theorem Qbl {c:Cfg} {z:List Ev} (hS:(Qax c z).length<1000) (person:ByteArray) (now r limit:Int):(Qc c z person now r limit).Nodup:=by
 unfold Qc
 split
 · exact(Qew hS person now _).sublist (List.take_sublist _ _)
 · exact List.nodup_nil
theorem Qg3 (c:Cfg) (z:List Ev) (person:ByteArray) (now r limit:Int):(Qc c z person now r limit).length≤limit.toNat:=by
 unfold Qc
 split
 · rw[List.length_take];omega
 · simp
theorem Qev (c:Cfg) (z:List Ev) (person:ByteArray) (now r limit more:Int) (h0:0≤limit) (h1:0≤more):Qc c z person now r limit=(Qc c z person now r (limit+more)).take limit.toNat:=by
 unfold Qc
 split
 · rw[List.take_take];congr 1;omega
 · simp
theorem Qgw {z:List Ev} {person:ByteArray} (h:histE z person = []):Qa1 z person = []∧Qje z person = []:=by
 have:Qa1 z person = []:=by unfold Qa1;rw[h];rfl
 exact⟨this,by unfold Qje;rw[this];rfl⟩
theorem Qn2 {z:List Ev} {person:ByteArray} (h:histE z person = []) (maker:ByteArray):Qo0 z person maker=false:=by
 have hf:z.filter (flB person maker) = []:=by
  rw[List.filter_eq_nil_iff];intro e he hq;unfold flB at hq;simp only[Bool.and_eq_true,Bool.or_eq_true,decide_eq_true_eq] at hq
  have:e∈histE z person:=by
   unfold histE hist peopleE;refine List.mem_filter.2 ⟨List.mem_filter.2 ⟨he,?_⟩,by simpa using hq.1⟩;unfold peB thB;rcases hq.2.2 with hk | hk <;> simp[hk]
  rw[h] at this
  cases this
 unfold Qo0;rw[hf]
 rfl
theorem Qal {c:Cfg} {z:List Ev} {person:ByteArray} (now:Int) (h:histE z person = []):Xe c z person now 2 = []∧Xe c z person now 3 = []∧Xe c z person now 5 = []:=by
 refine⟨?_,?_,?_⟩
 · show (Qd6 (Qax c z) 1 (Qje z person)).map _ = []
   rw[(Qgw h).2,Qpd];rfl
 · show (Qer z now (Qh1 z person)).map _ = []
   unfold Qer;rw[List.filter_eq_nil_iff.2 fun t _=>by unfold Qh1;rw[Qn2 h];simp]
   simp[Xb]
 · show (Qqm c z person now).map _ = []
   unfold Qqm;rw[(Qgw h).1]
   simp[Xn,Xb]
theorem Qg5 {c:Cfg} {z:List Ev} {person other:ByteArray} (now limit:Int) (h:histE z person = []) (k:histE z other = []) (r:Int):Qc c z person now r limit=Qc c z other now r limit:=by
 unfold Qc
 split
 · next hr =>
   congr 1
   obtain⟨n,rfl⟩:∃ n:Nat,r=n:=⟨r.toNat,by omega⟩;rw[Int.toNat_natCast];obtain⟨h2,h3,h5⟩:=Qal (c:=c) now h;obtain⟨k2,k3,k5⟩:=Qal (c:=c) now k;rcases n with _ | _ | _ | _ | _ | _ | n
   · rfl
   · rfl
   · rw[h2,k2]
   · rw[h3,k3]
   · rfl
   · rw[h5,k5]
   · omega
 · rfl
theorem Qkm {c:Cfg} {z:List Ev} {person:ByteArray} (now limit:Int) (h:histE z person = []) (r:Int) (hr:r=2∨r=3∨r=5):Qc c z person now r limit = []:=by
 obtain⟨h2,h3,h5⟩:=Qal (c:=c) now h;unfold Qc
 split
 · rcases hr with rfl | rfl | rfl
   · rw[show (2:Int).toNat=2 from rfl,h2];simp
   · rw[show (3:Int).toNat=3 from rfl,h3];simp
   · rw[show (5:Int).toNat=5 from rfl,h5];simp
 · rfl
theorem Qau {c:Cfg} {z:List Ev} {person:ByteArray} {now r limit:Int} {x:ByteArray} (h:x∈Qc c z person now r limit):x∈Xe c z person now r.toNat:=by
 unfold Qc at h
 split at h
 · exact List.mem_of_mem_take h
 · cases h
theorem Qof {c:Cfg} {z:List Ev} (hS:(Qax c z).length<1000) {person:ByteArray} {now limit:Int} {x:ByteArray} (h:x∈Qc c z person now 2 limit):x∉Qje z person:=by
 have h1:x∈(Qd6 (Qax c z) 1 (Qje z person)).map fun x=>x.1.1:=Qau h
 obtain⟨y,hy,rfl⟩:=List.mem_map.1 h1
 exact Qpc hS hy
theorem Qog {c:Cfg} {z:List Ev} {person:ByteArray} {now limit:Int} {x:ByteArray} {r:Int} (hr:r=3∨r=4) (h:x∈Qc c z person now r limit):Xa (thingsE z) now x=true:=by
 rcases hr with rfl | rfl
 · exact Qch (q:=Qh1 z person) (Qau h)
 · exact Qch (q:=Qn3 c now) (Qau h)
theorem Qkl {c:Cfg} {z:List Ev} {person:ByteArray} {now limit:Int} {x:ByteArray} (h:x∈Qc c z person now 5 limit):x∈Qje z person∧Qcc (countAll c.width z).rs person x=false∧Qng (countAll c.width z).rs person x=false:=by
 have h1:x∈(Qqm c z person now).map (·.1):=Qau h;have h2:=(Xu _).mem_iff.1 h1;obtain⟨y,hy,rfl⟩:=List.mem_map.1 h2;obtain⟨hy1,hy2⟩:=List.mem_filter.1 hy;refine⟨(Qbx hy1).1,?_⟩;unfold keepR at hy2;simp only[Bool.not_eq_true',Bool.or_eq_false_iff] at hy2
 exact hy2.2
def Qas (l:List Ct) (x:Ct):List Ct:=if x.1∈l.map (·.1) then l else Xb (x :: l)
theorem Qc7 {l:List Ct} {x:Ct} (h:Srt Qad l):Srt Qad (Qas l x):=by
 unfold Qas
 split
 · exact h
 · exact Qay _
theorem Qdw (f:ByteArray→Int):∀ K:List ByteArray,(K.map fun k=>(k,f k)).foldl Qas []=Xb ((Qgk K).map fun k=>(k,f k)):=by
 have key:∀ K:List ByteArray,Srt Qad ((K.map fun k=>(k,f k)).foldl Qas [])∧(((K.map fun k=>(k,f k)).foldl Qas []).map (·.1)).Nodup∧∀ x,x∈(K.map fun k=>(k,f k)).foldl Qas []↔x.1∈K∧x.2=f x.1:=by
  refine snoc_ind ⟨Srt.nil,by simp,by simp⟩ fun K k ih => ?_
  obtain⟨h1,h2,h3⟩:=ih;rw[List.map_append,List.foldl_append];simp only[List.map_cons,List.map_nil,List.foldl_cons,List.foldl_nil];generalize (K.map fun k=>(k,f k)).foldl Qas []=M at h1 h2 h3 ⊢;refine⟨Qc7 h1,?_,?_⟩
  · unfold Qas
    split
    · exact h2
    · next hk=>exact(Xu _).nodup_iff.2 (by rw[List.map_cons];exact List.nodup_cons.2 ⟨hk,h2⟩)
  · intro x
    unfold Qas
    split
    · next hk =>
      obtain⟨y,hy,he⟩:=List.mem_map.1 hk;have he:y.1=k:=he;have hyK:=((h3 y).1 hy).1;rw[he] at hyK;rw[h3 x,List.mem_append,List.mem_singleton];constructor
      · rintro ⟨q1,q2⟩;exact⟨.inl q1,q2⟩
      · rintro ⟨q1 | q1,q2⟩
        · exact⟨q1,q2⟩
        · rw[q1];rw[q1] at q2;exact⟨hyK,q2⟩
    · rw[(Qs _).mem_iff,List.mem_cons,h3 x,List.mem_append,List.mem_singleton]
      constructor
      · rintro (rfl | ⟨q1,q2⟩)
        · exact⟨.inr rfl,rfl⟩
        · exact⟨.inl q1,q2⟩
      · rintro ⟨q1 | q1,q2⟩
        · exact .inr ⟨q1,q2⟩
        · left
          rw[Prod.ext_iff]
          exact⟨q1,by rw[q2,q1]⟩
 intro K;obtain⟨h1,h2,h3⟩:=key K;refine X6 ?_ h1;have n1:((K.map fun k=>(k,f k)).foldl Qas []).Nodup:=Qmf h2;have n2:((Qgk K).map fun k=>(k,f k)).Nodup:=Qdr f _ (Qz K);refine(List.perm_ext_iff_of_nodup n1 n2).2 fun x => ?_
 rw[h3 x,List.mem_map];constructor
 · rintro ⟨q1,q2⟩
   exact⟨x.1,Xd.2 q1,Prod.ext rfl q2.symm⟩
 · rintro ⟨k,hk,rfl⟩
   exact⟨Xd.1 hk,rfl⟩
theorem Qg9 (l:List Ct) (q:Ct→Bool):(Xb l).filter q=Xb (l.filter q):=X6 ((Qs l).filter q) ((Qay l).filter _)
theorem Ql3 (half now:Int) (l:List Ev):((l.map (·.item)).map fun k=>(k,Xz half now l k)).foldl Qas []=Xb (Xn half now l):=by
 rw[Qdw];refine X6 ((Qs _).trans ?_) (Qay _);have n1:((Qgk (l.map (·.item))).map fun k=>(k,Xz half now l k)).Nodup:=Qdr (Xz half now l) _ (Qz _);have n2:(Xn half now l).Nodup:=Qmf (Qi (Qa4 half now l));refine(List.perm_ext_iff_of_nodup n1 n2).2 fun x => ?_
 rw[List.mem_map];constructor
 · rintro ⟨k,hk,rfl⟩
   have:=Qa5 half now k l;rw[if_pos (Xd.1 hk)] at this
   exact alook_mem this
 · intro hx
   obtain⟨h1,h2⟩:=Qbx hx
   exact⟨x.1,Xd.2 h1,Prod.ext rfl h2.symm⟩
theorem Qh9 (half now:Int) (x:ByteArray):∀ h:List Ev,(∀ e∈h,mayB e=true)→Xz half now h x=Xz half now (h.filter fun e=>decide (0<worthE e)) x:=by
 refine snoc_ind (fun _=>rfl) fun h e ih hm => ?_
 have h1:=ih fun y hy=>hm y (by simp[hy])
 rw[List.filter_append,Qac,h1]
 by_cases hq:0<worthE e
 · rw[List.filter_cons_of_pos (by simpa using hq),List.filter_nil,Qac]
 · rw[List.filter_cons_of_neg (by simpa using hq),List.filter_nil,List.append_nil]
   have hb:=Qba (half:=half) (now:=now) (hm e (by simp))
   have h0:Qk3 half now e≤0:=by
    unfold Qk3;have hw:=(Qc2 (now-e.at_) half).1
    exact Int.mul_nonpos_of_nonpos_of_nonneg (by omega) hw
   split <;> omega
end Go.Proofs.YtagijlhciclafaaGreatDoor
namespace Go.Proofs.YtagijlhciclafaaGreatDoor
open Go.Se Go.RowKit
def Qc5 (e:Ev):Bool:=decide (worthE e≤0)
def dV:Value := .func (.func 172) #[] #[]
theorem Qdh (e:Ev) (w:World):Cal Tryz.prog 172 [evV e] w fun r w'=>r = .bool (Qc5 e)∧Ext w w':=by
 refine Fi Tryz.func172 rfl _ rfl rfl (Hh ?_);intro b1 w1 hn1;refine Gg ?_;have h1:At w1 b1 51 (evC e):=hn1.At;refine⟨evC e,⟨rfl,h1.all⟩,Gg ?_⟩;refine(worth_spec e w1).mono ?_;rintro _ w2 ⟨rfl,hx2⟩;refine Gg ?_
 exact⟨rfl,hn1.ext.trans hx2⟩
theorem Qgj (l:List Ev) (A:Option Addr) (c:Nat) (w:World) (hs:SlE w A l) (hl:l.length<1000000) :
 Cal Tryz.prog 163 [.slice A l.length c,dV] w fun r w'=>r = .int .i64 (match l.findIdx? (Qc5) with | some i=>(i:Int) | none => -1)∧Ext w w':=by
 refine Fi Tryz.func163 rfl _ rfl rfl (Hh ?_)
 refine loop_rule Tt_ok (fun(k:Nat) w'=>k≤l.length∧Ext w w'∧∀ x∈l.take k,Qc5 x=false)
  (fun k => [(0,.slice A l.length c),(1,dV),(7,.int .i64 l.length),(8,.int .i64 (k:Nat))]) (fun k=>l.length-k) 0 ⟨Nat.zero_le _,Ext.refl _,by simp⟩ Rr ?_
 rintro k w1 ⟨hk,hx,hall⟩
 conv=>whnf
 constructor
 · intro hlt
   have hlt:k<l.length:=by simpa using hlt
   obtain⟨a,rfl,hc⟩:=(hs.ext hx).get hlt;have htk:=take_next l k hlt
   have hfi:Qc5 l[k]=true→l.findIdx? (Qc5)=some k:=fun h=>by
    rw[List.findIdx?_eq_some_iff_getElem];refine⟨hlt,h,fun j hj => ?_⟩;have hjl:j<l.length:=by omega
    have:=hall l[j] (by rw[List.mem_take_iff_getElem];exact⟨j,by omega,rfl⟩)
    simp[this]
   generalize l[k]=x at hc htk hfi;refine Gg ?_;refine⟨a,Ix,Gg ?_⟩;refine⟨evC x,⟨rfl,hc⟩,Gg ?_⟩;refine(Qdh x w1).mono ?_;rintro _ w2 ⟨rfl,hx2⟩;refine Gg ?_;constructor
   · intro h
     rw[hfi h];refine Gg ?_
     exact⟨rfl,hx.trans hx2⟩
   · intro h
     have h:Qc5 x=false:=h;refine Gg ?_;refine⟨_,wrap_succ (by omega),Gg ?_⟩;refine⟨k+1,by omega,⟨by omega,hx.trans hx2,fun y hy => ?_⟩,Rr⟩;rw[htk] at hy;rcases List.mem_append.1 hy with hy | hy
     · exact hall y hy
     · rw[List.mem_singleton] at hy;rw[hy];exact h
 · intro hge
   have hge:l.length≤k:=by simpa using hge
   rw[List.take_of_length_le hge] at hall
   have:l.findIdx? (Qc5)=none:=by
    rw[List.findIdx?_eq_none_iff]
    exact hall
   rw[this];refine Gg ?_
   exact⟨rfl,hx⟩
set_option maxHeartbeats 2000000 in
theorem Qlp (l:List Ev) (a:Addr) (c base:Nat) (w:World) (hown:Own evC 8 51 base w (some a) c l) (hl:l.length<1000000) (hany:l.any (Qc5)=true) :
 Cal Tryz.prog 103 [.slice (some a) l.length c,dV] w fun r w'=>r = .slice (some a) (l.filter fun e => !Qc5 e).length c∧Own evC 8 51 base w' (some a) c (l.filter fun e => !Qc5 e)∧Mod (fun k=>k=a.block) w w':=by
 have hle:=hown.le
 obtain⟨i0,hi0,hq0,hb0⟩:∃ i,∃ (h:i<l.length),Qc5 l[i]=true∧∀ j (hj:j<i),Qc5 (l[j]'(by omega))=false:=by
  cases h:l.findIdx? (Qc5) with
  | none =>
    rw[List.findIdx?_eq_none_iff] at h;obtain⟨x,hx,hq⟩:=List.any_eq_true.1 hany;rw[h x hx] at hq
    cases hq
  | some i =>
    rw[List.findIdx?_eq_some_iff_getElem] at h;obtain⟨h1,h2,h3⟩:=h
    exact⟨i,h1,h2,fun j hj=>by simpa using h3 j hj⟩
 have hfi:l.findIdx? (Qc5)=some i0:=by
  rw[List.findIdx?_eq_some_iff_getElem]
  exact⟨hi0,hq0,fun j hj=>by simp[hb0 j hj]⟩
 have hf0:(l.take (i0+1)).filter (fun e => !Qc5 e)=l.take i0:=by
  rw[Qao _ l i0 hi0,hq0];simp only[Bool.not_true,Bool.false_eq_true,if_false,List.append_nil];rw[List.filter_eq_self];intro x hx;rw[List.mem_take_iff_getElem] at hx;obtain⟨j,hj,rfl⟩:=hx;rw[hb0 j (by omega)]
  rfl
 refine Fi Tryz.func103 rfl _ rfl rfl (Hh ?_);refine(Qgj l (some a) c w (hown.sl evC_len) hl).mono ?_;rintro _ w1 ⟨rfl,hx1⟩;rw[hfi];replace hown:=hown.ext hx1;refine Gg ?_;constructor
 · intro h
   simp at h
 intro _;refine Gg ?_;refine⟨_,wrap_succ (by omega),Gg ?_⟩
 refine loop_rule Tt_ok (fun(x:Nat×Nat×List Ev) w'=>x.1≤l.length∧x.2.1<x.1∧x.2.2.length=l.length∧x.2.2.take x.2.1=(l.take x.1).filter (fun e => !Qc5 e)∧x.2.2.drop x.1=l.drop x.1∧Own evC 8 51 base w' (some a) c x.2.2∧Mod (fun k=>k=a.block) w w')
  (fun | (j,i,U) => [(0,.slice (some a) l.length c),(1,dV),(5,.int .i64 (i:Nat)),(6,.int .i64 (j:Nat))]) (fun x=>l.length-x.1) (i0+1,i0,l) ⟨by simp only;omega,by simp only;omega,rfl,hf0.symm,rfl,hown,Mod.of_ext hx1⟩ Rr ?_
 clear hown hx1 hf0 hfi hb0 hq0;rintro ⟨j,i,U⟩ w2 ⟨hj,hij,hUl,hUt,hUd,hown,hM2⟩;simp only at hj hij hUl hUt hUd hown
 conv=>whnf
 constructor
 · intro hlt
   have hlt:j<l.length:=by simpa using hlt
   have hjU:j<U.length:=by omega
   obtain⟨a',ha',hc⟩:=(hown.sl evC_len).get hjU;injection ha' with ha';subst ha'
   have hUj:U[j]=l[j]:=by
    have h1:(U.drop j)[0]? = (l.drop j)[0]? := by rw[hUd]
    rw[List.getElem?_drop,List.getElem?_drop,Nat.add_zero,List.getElem?_eq_getElem hjU,List.getElem?_eq_getElem hlt] at h1
    exact Option.some.inj h1
   have hst:=Qao (fun e => !Qc5 e) l j hlt;rw[← hUt] at hst;have hUd2:U.drop (j+1)=l.drop (j+1):=by rw[← List.drop_drop,← List.drop_drop,hUd]
   rw[hUj] at hc;generalize l[j]=v at hc hst;refine Gg ?_;refine⟨a,Ix,Gg ?_⟩;refine⟨evC v,⟨rfl,hc⟩,Gg ?_⟩;intro b7 w3 hn3;refine Gg ?_;refine store_ptr Tt_ok (e:=ty51) rfl hn3.At rfl rfl rfl (evC_one v) fun w4 h7 ho4 => ?_
   have h7:At w4 b7 51 (evC v):=h7;have hx24:Ext w2 w4:=ho4.ext hn3.ext (by rw[hn3.block];exact Nat.le_refl _);clear ho4 hn3;refine Gg ?_;refine⟨evC v,⟨rfl,h7.all⟩,Gg ?_⟩;refine(Qdh v w4).mono ?_;rintro _ w5 ⟨rfl,hx5⟩;have hx25:=hx24.trans hx5;have h75:=h7.ext hx5;replace hown:=hown.ext hx25;replace hM2:=hM2.trans (Mod.of_ext hx25);clear hx24 hx5 hx25 h7;refine Gg ?_;constructor
   · intro hq
     have hq:Qc5 v=false:=by simpa using hq
     rw[hq] at hst;simp only[Bool.not_false,if_true] at hst;refine Gg ?_;refine⟨evC v,⟨rfl,h75.all⟩,Gg ?_⟩;refine⟨a,Ix,Gg ?_⟩;refine store_own Tt_ok (e:=ty51) rfl rfl evC_len evC_one (k:=i) (by omega) v rfl hown fun w6 hown6 ho6 => ?_
     refine Gg ?_;refine⟨_,wrap_succ (by omega),Gg ?_⟩;refine⟨_,wrap_succ (by omega),Gg ?_⟩;refine⟨(j+1,i+1,U.set i v),by simp only;omega,⟨by simp only;omega,by simp only;omega,by simp only;rw[List.length_set];exact hUl,?_,?_,hown6,hM2.trans (mod_only ho6 rfl)⟩,Rr⟩
     · simp only
       rw[hst,List.take_set,List.take_add_one,List.getElem?_eq_getElem (by omega:i<U.length)];rw[List.set_append_right _ _ (by rw[List.length_take];omega)]
       simp[List.length_take,Nat.min_eq_left (by omega:i≤U.length)]
     · simp only
       rw[List.drop_set_of_lt (by omega)]
       exact hUd2
   · intro hq
     have hq:Qc5 v=true:=by simpa using hq
     rw[hq] at hst;simp only[Bool.not_true,Bool.false_eq_true,if_false,List.append_nil] at hst;refine Gg ?_;refine⟨_,wrap_succ (by omega),Gg ?_⟩
     exact⟨(j+1,i,U),by simp only;omega,⟨by simp only;omega,by simp only;omega,hUl,hst.symm,hUd2,hown,hM2⟩,Rr⟩
 intro hge;have hge:l.length≤j:=by simpa using hge
 rw[List.take_of_length_le hge] at hUt;have hil:i<U.length:=by omega
 have hfl:(l.filter fun e => !Qc5 e).length=i:=by rw[← hUt,List.length_take];omega
 rw[hfl]
 have hsl:(if((c:Nat):Int).toNat=((i:Nat):Int).toNat then some a else(some a).map (·.add (((i:Nat):Int).toNat*8)))=some (a.add (i*8)):=by
  rw[Int.toNat_natCast,Int.toNat_natCast,if_neg (by omega)]
  rfl
 refine Gg ?_;refine⟨⟨by omega,by omega,by omega,by omega⟩,Gg ?_⟩;rw[hsl];refine Qli Qqb ty51_ok rfl (by simp[cellsL,ty51,Value.oneCell']) evC_len hil hown (by simp;omega) fun w6 hown6 ho6 => ?_
 rw[hUt] at hown6;refine Gg ?_;refine⟨⟨by omega,by omega,by omega,by omega⟩,Gg ?_⟩;refine⟨?_,hown6,hM2.trans (mod_only ho6 rfl)⟩;have e0:a.add 0=a:=by unfold Addr.add;simp
 simp[e0]
theorem Qjd (l:List Ev):(l.filter fun e => !Qc5 e)=l.filter fun e=>decide (0<worthE e):=by
 congr 1
 funext e
 unfold Qc5
 by_cases h:worthE e≤0
 · simp[h]
   try omega
 · simp[h]
   try omega
theorem Qgi (l:List Ev) (A:Option Addr) (c base:Nat) (w:World) (hown:Own evC 8 51 base w A c l) (hl:l.length<1000000) :
 Cal Tryz.prog 103 [.slice A l.length c,dV] w fun r w'=>r = .slice A (l.filter fun e=>decide (0<worthE e)).length c∧Own evC 8 51 base w' A c (l.filter fun e=>decide (0<worthE e))∧∀ w0,Ext w0 w→w0.heap.size≤base→Ext w0 w':=by
 by_cases hany:l.any Qc5=true
 · obtain⟨a,rfl⟩:∃ a,A=some a:=by
    cases A with
    | some a=>exact⟨a,rfl⟩
    | none =>
      cases l with
      | nil=>simp at hany
      | cons x l=>obtain⟨a,ha,_⟩:=(hown.sl evC_len) 0 x rfl;cases ha
   refine(Qlp l a c base w hown hl hany).mono ?_;rintro _ w' ⟨rfl,ho,hM⟩;rw[Qjd] at ho ⊢;refine⟨rfl,ho,fun w0 hx hb=>Qo hx (T:=fun k=>k=a.block) (fun k hk => ?_) hM⟩;have:=(hown.block rfl).1;omega
 · have hany:l.any Qc5=false:=by simpa using hany
   have hf:(l.filter fun e=>decide (0<worthE e))=l:=by
    rw[← Qjd,List.filter_eq_self];intro x hx;have:=List.any_eq_false.1 hany x hx
    simpa using this
   have hfi:l.findIdx? Qc5=none:=by
    rw[List.findIdx?_eq_none_iff];intro x hx
    simpa using List.any_eq_false.1 hany x hx
   rw[hf];refine Fi Tryz.func103 rfl _ rfl rfl (Hh ?_);refine(Qgj l A c w (hown.sl evC_len) hl).mono ?_;rintro _ w1 ⟨rfl,hx1⟩;rw[hfi];refine Gg ?_;constructor
   · intro _
     refine Gg ?_
     exact⟨rfl,hown.ext hx1,fun w0 hx hb=>hx.trans hx1⟩
   · intro h;simp at h
theorem Qem {w:World} {T:Nat→Prop} {p:Nat} {c:Cfg} {z:List Ev} {v:Value} (h:WQ w T p c z v) (person:ByteArray) :
 Cal Tryz.prog 108 [.pointer (some ⟨p,0,none⟩),.string person] w fun r w'=>∃ A cp,r = .slice A (Qa1 z person).length cp∧Own evC 8 51 w.heap.size w' A cp (Qa1 z person)∧Ext w w':=by
 have hz:(peopleE z).length<1000000:=by
  have h2:=List.length_filter_le peB z;have:=h.len;unfold peopleE;omega
 refine Fi Tryz.func108 rfl _ rfl rfl (Hh ?_);refine(Qh h).mono ?_;rintro _ w4 ⟨pw,S4,rfl,hcr,hx4⟩;conv=>whnf
 have he:=(count_parts c.width z).2
 refine(Xl w4 S4 pw _ _ hcr person (by
  have:(evs (countAll c.width z).rs).length=(peopleE z).length:=by rw[he]
  simp[evs] at this
  omega)).mono ?_
 rintro _ w5 ⟨A5,c5,rfl,ho5,hx5⟩;rw[he] at ho5 ⊢;rw[show hist (peopleE z) person=histE z person from rfl] at ho5 ⊢;have hhl:(histE z person).length<1000000:=Nat.lt_of_le_of_lt (List.length_filter_le _ _) hz
 conv=>whnf
 refine(Qgi _ A5 c5 w4.heap.size w5 ho5 hhl).mono ?_;rintro _ w6 ⟨rfl,ho6,hx6⟩
 conv=>whnf
 have hx:=hx6 w (hx4.trans hx5) hx4.size;rw[show (histE z person).filter (fun e=>decide (0<worthE e))=Qa1 z person from rfl] at ho6 ⊢
 exact⟨A5,c5,rfl,ho6.base hx4.size,hx⟩
end Go.Proofs.YtagijlhciclafaaGreatDoor
namespace Go.Proofs.YtagijlhciclafaaGreatDoor
open Go.Se Go.RowKit Go.Shelf Go.Sort Go.Maps Go.WideElems
def byT (x:ByteArray):List UInt8:=x.data.toList
theorem Qpe {a b:ByteArray} (h:byT a=byT b):a=b:=by
 have:=congrArg List.toArray h;unfold byT at this
 simp at this
 cases a;cases b
 simpa using this
theorem Qel {d e:Array (List UInt8)}:∀ m:Nat,(∀ j,j<m→d[j]! = e[j]!)→Lib.compactUpTo d m=Lib.compactUpTo e m
 | 0,_=>rfl
 | m+1,h=>by
   rw[Lib.compactUpTo_succ,Lib.compactUpTo_succ,Qel m fun j hj=>h j (by omega)]
   have hk:Lib.keeps d m=Lib.keeps e m:=by
    unfold Lib.keeps;rw[h m (by omega),h (m-1) (by omega)]
   rw[hk,h m (by omega)]
theorem Qec:∀ l:List ByteArray,Srt bLt l→∃ K:List ByteArray,Lib.compact (l.map byT)=K.map byT∧K.Nodup∧(∀ x,x∈K↔x∈l)∧Srt bLt K:=by
 refine snoc_ind (fun _=>⟨[],rfl,List.nodup_nil,by simp,Srt.nil⟩) fun l a ih hs => ?_
 obtain⟨K,h1,h2,h3,h4⟩:=ih hs.left
 have hup:Lib.compactUpTo ((l ++ [a]).map byT).toArray l.length=K.map byT:=by
  rw[← h1];unfold Lib.compact;rw[List.length_map];refine Qel _ fun j hj => ?_
  rw[getElem!_pos _ j (by simp;omega),getElem!_pos _ j (by simpa using hj)];simp only[List.getElem_toArray,List.getElem_map,List.getElem_append_left hj]
 have hlast:((l ++ [a]).map byT).toArray[l.length]! = byT a:=by
  rw[getElem!_pos _ l.length (by simp)]
  simp
 have hc:Lib.compact ((l ++ [a]).map byT)=K.map byT++(if Lib.keeps ((l ++ [a]).map byT).toArray l.length then [byT a] else []):=by
  unfold Lib.compact;rw[List.length_map,List.length_append,List.length_cons,List.length_nil,Lib.compactUpTo_succ,hup,hlast]
 rw[hc];have hsa:∀ u∈l,bLt a u=false:=fun u hu=>hs.across u hu a (by simp)
 cases hk:Lib.keeps ((l ++ [a]).map byT).toArray l.length with
 | true =>
   have hne:a∉l:=by
    intro ha;rcases List.eq_nil_or_concat l with rfl | ⟨l0,b,hb⟩
    · simp at ha
    · have hb:l=l0 ++ [b]:=by simpa using hb
      have hab:a≠b:=by
       rintro rfl;unfold Lib.keeps at hk;rw[decide_eq_true_eq] at hk;rcases hk with hk | hk
       · rw[hb] at hk;simp at hk
       · apply hk
         rw[hlast,getElem!_pos _ (l.length-1) (by simp;omega)]
         simp[hb]
      rcases (by rw[hb,List.mem_append,List.mem_singleton] at ha;exact ha:a∈l0∨a=b) with h | h
      · have q1:bLt b a=false:=by
         have:=hs.left;rw[hb] at this
         exact this.across a h b (by simp)
        have q2:bLt a b=false:=hsa b (by rw[hb];simp)
        exact hab (bLt_tri q2 q1)
      · exact hab h
   refine⟨K ++ [a],by simp,?_,fun x => ?_,?_⟩
   · rw[List.nodup_append]
     exact⟨h2,by simp,fun u hu v hv=>by
      rw[List.mem_singleton] at hv;subst hv;rintro rfl
      exact hne ((h3 _).1 hu)⟩
   · rw[List.mem_append,List.mem_append,h3]
   · exact Srt.append h4 (Srt.one a) fun u hu v hv=>by
      rw[List.mem_singleton] at hv;subst hv
      exact hsa u ((h3 u).1 hu)
 | false =>
   have hin:a∈l:=by
    unfold Lib.keeps at hk;rw[decide_eq_false_iff_not] at hk;rcases List.eq_nil_or_concat l with rfl | ⟨l0,b,hb⟩
    · exact absurd (.inl rfl) hk
    · have hb:l=l0 ++ [b]:=by simpa using hb
      have e:((l ++ [a]).map byT).toArray[l.length]! = ((l ++ [a]).map byT).toArray[l.length-1]! := Classical.byContradiction fun hne=>hk (.inr hne)
      rw[hlast,getElem!_pos _ (l.length-1) (by simp;omega)] at e;have e2:byT a=byT b:=by rw[e];simp[hb]
      rw[Qpe e2,hb]
      simp
   refine⟨K,by simp,h2,fun x => ?_,h4⟩;rw[h3,List.mem_append,List.mem_singleton];constructor
   · exact .inl
   · rintro (h | h)
     · exact h
     · rw[h];exact hin
theorem Qhw (l:List ByteArray):Lib.compact ((sortT l).map byT)=(Q5 l).map byT:=by
 obtain⟨K,h1,h2,h3,h4⟩:=Qec (sortT l) (sortT_srt l);rw[h1]
 have:K=Q5 l:=by
  rw[← Qav h2 fun x=>(h3 x).trans sortT_mem]
  exact sortT_unique (List.Perm.refl _) h4
 rw[this]
theorem Qjz (l:List ByteArray) (A:Option Addr) (c base:Nat) (w:World) (hown:Own strE 1 9 base w A c (sortT l)) (hl:l.length<1000000) :
 Cal Tryz.prog 74 [.slice A (sortT l).length c] w fun r w'=>r = .slice A (Q5 l).length c∧SlT w' A (Q5 l)∧∀ w0,Ext w0 w→w0.heap.size≤base→Ext w0 w':=by
 by_cases h0:l = []
 · subst h0
   have e1:sortT [] = []:=sortT_nil;have e2:Q5 [] = []:=by simp[Q5,Qgk,sortT_nil]
   rw[e1,e2];refine cal_of ⟨_,Tryz.func74,rfl,rfl⟩ (Tryz.slices_Compact_string_empty A c w) ?_;rintro w' rfl
   exact⟨rfl,Sl.nil,fun w0 h _=>h⟩
 · have hpos:0<l.length:=List.length_pos_iff.2 h0
   have hll:(sortT l).length=l.length:=(sortT_perm l).length_eq;rcases hown.2 with⟨_,h1⟩ | ⟨g,cap,cur,hv,hb,hg,hc1,hc2,hc3,hc4⟩
   · omega
   injection hv with hA _ hcc;subst hA;subst hcc;have hset:=Qhw l;have hsl:((sortT l).map byT).length=(sortT l).length:=List.length_map _;have hkl:(Q5 l).length≤l.length:=Qc8 l;obtain⟨n,hn⟩:∃ n,n=(sortT l).length-(Q5 l).length:=⟨_,rfl⟩;have hH:Holds encStr w g 0 ((sortT l).map byT).toArray:=holds_of_block hg (by rw[hsl];unfold byT;rw[← Qaz,← hc4,Nat.mul_one]);have hcall:=Tryz.slices_Compact_string g 0 c ((sortT l).map byT) w hH (by rw[hsl];omega) (by rw[hsl];exact hc1);rw[hset,hsl,List.length_map,← hn] at hcall;refine cal_of ⟨_,Tryz.func74,rfl,rfl⟩ hcall ?_;rintro w' ⟨q,rfl⟩
   have hM:(Q5 l).map byT++List.replicate n []=(Q5 l++List.replicate n (⟨#[]⟩:ByteArray)).map byT:=by
    rw[List.map_append,List.map_replicate];rfl
   rw[hM]
   have hMl:(Q5 l++List.replicate n (⟨#[]⟩:ByteArray)).length=(sortT l).length:=by
    rw[List.length_append,List.length_replicate];omega
   generalize hW:Q5 l++List.replicate n (⟨#[]⟩:ByteArray)=M at hMl ⊢;have hgr:putRow encStr (Sort.ahead w q) g 0 (M.map byT).toArray=grow (putRow encStr (Sort.ahead w q) g 0 (M.map byT).toArray) #[]:=by rw[grow_empty]
   rw[hgr];refine⟨rfl,?_,fun w0 hx hb0 => ?_⟩
   · have hrow:=ownsRow_sorted (w:=w) (n:=q) (os := #[]) (ss:=(sortT l).map byT) (ts:=M.map byT) (by rw[List.length_map,List.length_map];exact hMl) hb hg (by rw[hsl];exact hc1) hc2 hc3
     rw[hsl,← hMl] at hrow;have hb2:(M.map byT).map encStr=M.flatMap strE:=by rw[Qaz];rfl
     rw[hb2] at hrow;obtain⟨A',c',he,ho⟩:=own_of_row (enc:=strE) (l:=M) hrow rfl rfl
     cases he
     have hs:=(ho.sl strE_len);intro i x hi;refine hs i x ?_;rw[← hW,List.getElem?_append_left (List.getElem?_eq_some_iff.1 hi).1]
     exact hi
   · have hg2:=grownBy_sorted (w:=w) (g:=g) (n:=q) (os := #[]) (M.map byT).toArray
     exact ext_grown hx hg2 fun k hk=>by cases hk;omega
theorem Qkc (a b:ByteArray) (w:World):Cal Tryz.prog 136 [.string a,.string b] w fun r w'=>r = .bool (bLt a b)∧w'=w:=by
 refine Fi Tryz.func136 rfl _ rfl rfl (Hh ?_);refine(Qah a w).mono ?_;rintro _ w1 ⟨rfl,hw1⟩;subst hw1
 conv=>whnf
 refine⟨Unit,fun _ => .bool false,fun _ w'=>w'=w1,(),fun _=>(Qah b w1).mono fun r w' h=>⟨(),h.1,h.2⟩,?_⟩;intro _ w2 h2
 have hw2:w2=w1:=by
  rcases h2 with⟨_,h⟩ | ⟨_,h⟩
  · exact h
  · exact h
 subst hw2;clear h2
 conv=>whnf
 exact⟨by simp[bLt],rfl⟩
theorem Qdm (a:ByteArray) (w:World):Cal Tryz.prog 137 [.string a] w fun r w'=>r = .bool false∧w'=w:=by
 refine Fi Tryz.func137 rfl _ rfl rfl (Hh ?_)
 exact⟨by simp,rfl⟩
theorem Qmv {l:List ByteArray} (hs:Srt bLt l) {x:ByteArray} {i:Nat} (hi:i≤l.length) (h1:∀ t,t<i→∀ (ht:t<l.length),bLt l[t] x=true) (h2:∀ t,i≤t→∀ (ht:t<l.length),bLt l[t] x=false):(x∈l↔∃ ht:i<l.length,l[i]=x):=by
 constructor
 · intro hx
   obtain⟨t,ht,rfl⟩:=List.getElem_of_mem hx;rcases Nat.lt_or_ge t i with h | h
   · have:=h1 t h ht
     rw[bLt_irrefl] at this
     cases this
   · have hil:i<l.length:=by omega
     refine⟨hil,?_⟩;have q1:=h2 i (Nat.le_refl _) hil
     have q2:bLt l[t] l[i]=false:=by
      rcases Nat.lt_or_ge i t with h3 | h3
      · exact List.pairwise_iff_getElem.1 hs i t hil ht h3
      · obtain rfl:i=t:=by omega
        exact bLt_irrefl _
     exact bLt_tri q1 q2
 · rintro ⟨ht,rfl⟩
   exact List.getElem_mem ht
theorem Qla (l:List ByteArray) (hs:Srt bLt l) (A:Option Addr) (c:Nat) (x:ByteArray) (w:World) (hl:l.length<1000000) (hsl:SlT w A l) :
 Cal Tryz.prog 77 [.slice A l.length c,.string x] w fun r w'=>(∃ k:Nat,r = .tuple #[.int .i64 (k:Nat),.bool (decide (x∈l))])∧Ext w w':=by
 refine Fi Tryz.func77 rfl _ rfl rfl (Hh ?_)
 refine loop_rule Tt_ok (fun(p:Nat×Nat) w'=>p.1≤p.2∧p.2≤l.length∧(∀ t,t<p.1→∀ (ht:t<l.length),bLt l[t] x=true)∧(∀ t,p.2≤t→∀ (ht:t<l.length),bLt l[t] x=false)∧w'=w)
  (fun | (i,j) => [(0,.slice A l.length c),(1,.string x),(6,.int .i64 l.length),(7,.int .i64 (i:Nat)),(8,.int .i64 (j:Nat))]) (fun p=>p.2-p.1) (0,l.length) ⟨Nat.zero_le _,Nat.le_refl _,fun t h=>by simp at h,fun t h ht=>by simp at h;omega,rfl⟩ Rr ?_
 rintro ⟨i,j⟩ w1 ⟨hij,hjn,hi,hj,hw1⟩;simp only at hij hjn hi hj;subst hw1
 conv=>whnf
 constructor
 · intro hlt
   have hlt:i<j:=by simpa using hlt
   obtain⟨h,hh⟩:∃ h,h=(i+j)/2:=⟨_,rfl⟩;have hhl:h<l.length:=by omega
   conv=>whnf
   refine⟨((i+j:Nat):Int),wrap_nat (by omega),Hh ?_⟩;refine⟨((i+j:Nat):Int),wrap_u (by omega),Hh ?_⟩;refine⟨(h:Int),by rw[hh];exact half_eq _,Hh ?_⟩;refine⟨(h:Int),wrap_s (by omega),Hh ?_⟩;obtain⟨a,hA,hc⟩:=hsl.get hhl;subst hA;refine⟨a,Ix,Hh ?_⟩;refine⟨.string l[h],cells_head hc,Hh ?_⟩;refine(Qkc l[h] x w1).mono ?_;rintro _ w2 ⟨rfl,hw2⟩;subst hw2
   conv=>whnf
   constructor
   · intro hq
     have hq:bLt l[h] x=true:=hq
     conv=>whnf
     refine⟨_,wrap_succ (by omega),Hh ?_⟩;refine⟨(h+1,j),by simp only;omega,⟨by simp only;omega,hjn,fun t ht htl => ?_,hj,rfl⟩,Rr⟩
     cases hb:bLt l[t] x with
     | true=>rfl
     | false =>
       have hht:bLt l[h] l[t]=false:=by
        rcases Nat.lt_or_ge t h with h3 | h3
        · exact List.pairwise_iff_getElem.1 hs t h htl hhl h3
        · obtain rfl:t=h:=by have:t<h+1:=ht;omega
          exact bLt_irrefl _
       rw[Qa0 hht hb] at hq
       cases hq
   · intro hq
     have hq:bLt l[h] x=false:=hq
     conv=>whnf
     refine⟨(i,h),by simp only;omega,⟨by simp only;omega,by simp only;omega,hi,fun t ht htl => ?_,rfl⟩,Rr⟩;have ht:h≤t:=ht
     have hht:bLt l[t] l[h]=false:=by
      rcases Nat.lt_or_ge h t with h3 | h3
      · exact List.pairwise_iff_getElem.1 hs h t hhl htl h3
      · obtain rfl:t=h:=by omega
        exact bLt_irrefl _
     exact Qa0 hht hq
 · intro hge
   have hge:j≤i:=by simpa using hge
   obtain rfl:i=j:=by omega
   have hin:=Qmv hs hjn hi hj
   conv=>whnf
   by_cases hil:i<l.length
   · obtain⟨a,hA,hc⟩:=hsl.get hil
     subst hA;refine⟨a,fun _=>Ix,Hh ?_⟩;refine⟨.string l[i],fun _=>cells_head hc,Hh ?_⟩;refine⟨a,fun _ _=>(show _∧_ from Ix),Hh ?_⟩;refine⟨.string l[i],fun _ _=>cells_head hc,Hh ?_⟩;refine⟨Unit,fun _ => .bool false,fun _ w'=>w'=w1,(),fun _ _=>(Qdm l[i] w1).mono fun r w' h=>⟨(),h.1,h.2⟩,?_⟩;intro _ w2 h2
     have hw2:w2=w1:=by
      rcases h2 with⟨_,h⟩ | ⟨_,h⟩
      · exact h
      · exact h
     subst hw2;clear h2
     conv=>whnf
     refine⟨Unit,fun _ => .bool false,fun _ w'=>w'=w2,(),fun _ _ _=>(Qdm x w2).mono fun r w' h=>⟨(),h.1,h.2⟩,?_⟩;intro _ w3 h3
     have hw3:w3=w2:=by
      rcases h3 with⟨_,h⟩ | ⟨_,h⟩
      · exact h
      · exact h
     subst hw3;clear h3
     conv=>whnf
     refine⟨⟨i,?_⟩,Ext.refl _⟩;have hlt':decide ((i:Int)<(l.length:Int))=true:=by simpa using hil
     have hd:decide (x∈l)=decide (l[i]=x):=by
      rw[Bool.eq_iff_iff,decide_eq_true_iff,decide_eq_true_iff,hin]
      exact⟨fun⟨_,h⟩=>h,fun h=>⟨hil,h⟩⟩
     rw[hd]
     simp[hlt',hil]
   · have hd:decide (x∈l)=false:=by
      rw[decide_eq_false_iff_not,hin]
      exact fun⟨h,_⟩=>hil h
     have hg0:∀ {q:Prop},decide ((i:Int)<(l.length:Int))=true→q:=fun h=>by simp at h;omega
     refine⟨⟨0,0,none⟩,fun h=>hg0 h,Hh ?_⟩;refine⟨.string x,fun h=>hg0 h,Hh ?_⟩;refine⟨⟨0,0,none⟩,fun _ h=>hg0 h,Hh ?_⟩;refine⟨.string x,fun _ h=>hg0 h,Hh ?_⟩;refine⟨Unit,fun _ => .bool false,fun _ w'=>w'=w1,(),fun _ h=>hg0 h,?_⟩;intro _ w2 h2
     have hw2:w2=w1:=by
      rcases h2 with⟨_,h⟩ | ⟨_,h⟩
      · exact h
      · exact h
     subst hw2;clear h2
     conv=>whnf
     refine⟨Unit,fun _ => .bool false,fun _ w'=>w'=w2,(),fun _ _ h=>hg0 h,?_⟩;intro _ w3 h3
     have hw3:w3=w2:=by
      rcases h3 with⟨_,h⟩ | ⟨_,h⟩
      · exact h
      · exact h
     subst hw3;clear h3
     conv=>whnf
     refine⟨⟨i,?_⟩,Ext.refl _⟩;rw[hd];have hlt':decide ((i:Int)<(l.length:Int))=false:=by simp;omega
     simp[hlt']
     omega
end Go.Proofs.YtagijlhciclafaaGreatDoor
