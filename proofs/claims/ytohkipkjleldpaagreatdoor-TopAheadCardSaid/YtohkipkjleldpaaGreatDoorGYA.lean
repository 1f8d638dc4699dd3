/- Several texts in one: Y1, Y2, Y3, Y4. -/
import Derived.Test.YtohkipkjleldpaaGreatDoorGM
import Derived.Test.YtohkipkjleldpaaGreatDoorGXB
import Derived.Test.YtohkipkjleldpaaGreatDoorGH
import Derived.Test.YtohkipkjleldpaaGreatDoorGN
import Derived.Test.YtohkipkjleldpaaGreatDoorGX
import Derived.Test.YtohkipkjleldpaaGreatDoorGC
import Derived.Test.YtohkipkjleldpaaGreatDoorGJ
import Derived.Test.YtohkipkjleldpaaGreatDoorGK
set_option linter.unusedVariables false
set_option linter.unusedSimpArgs false
namespace Go.Proofs.YtohkipkjleldpaaGreatDoor
open Go.Se Go.RowKit Go.Sort
section
variable {α:Type}
def Qs6 (lt:α→α→Bool) (L:List α):List α:=L.mergeSort fun a b => !lt b a
theorem Qe4 (lt:α→α→Bool) (L:List α):(Qs6 lt L).Perm L:=List.mergeSort_perm _ _
theorem Q5v {lt:α→α→Bool} (h:Go.Sort.SWO lt) (L:List α):Srt lt (Qs6 lt L):=by
 have:=List.pairwise_mergeSort (le:=fun a b => !lt b a) (fun a b c h1 h2=>by
  simp only[Bool.not_eq_true'] at *
  exact h.ntrans c b a h2 h1) (fun a b=>by
  cases h1:lt b a with
  | false=>rfl
  | true =>
    cases h2:lt a b with
    | false=>rfl
    | true=>have:=h.trans _ _ _ h1 h2;rw[h.irrefl] at this;cases this) L
 exact this.imp fun h=>by simpa using h
theorem Q8j {lt:α→α→Bool} (h:Go.Sort.SWO lt) {F L:List α} (hp:F.Perm L) (hs:Srt lt F) (ht:∀ x∈L,∀ y∈L,lt x y=false→lt y x=false→x=y):F=Qs6 lt L :=
 Qjq (hp.trans (Qe4 lt L).symm) hs (Q5v h L) fun x hx y hy=>ht x (hp.mem_iff.1 hx) y (hp.mem_iff.1 hy)
def Qms (P:α→Prop) [DecidablePred P] (L:List α):List { x // P x }:=L.filterMap fun x=>if h:P x then some ⟨x,h⟩ else none
theorem Qqu {P:α→Prop} [DecidablePred P]:∀ {L:List α},(∀ x∈L,P x)→(Qms P L).map (·.1)=L
 | [],_=>rfl
 | x :: L,h=>by
   have ih:=Qqu (L:=L) fun y hy=>h y (by simp[hy])
   have hx:P x:=h x (by simp);unfold Qms at ih ⊢;rw[List.filterMap_cons,dif_pos hx];simp only[List.map_cons,ih]
theorem Qyj {P:α→Prop} [DecidablePred P]:∀ F:List { x // P x },Qms P (F.map (·.1))=F
 | []=>rfl
 | x :: F=>by
   have ih:=Qyj F;unfold Qms at ih ⊢;rw[List.map_cons,List.filterMap_cons,dif_pos x.2];simp only[ih]
theorem Q51 {P:α→Prop} [DecidablePred P] {L M:List α} (h:L.Perm M):(Qms P L).Perm (Qms P M):=h.filterMap _
theorem Qgy {P:α→Prop} [DecidablePred P] {L:List α} {x:{ x // P x }}:x∈Qms P L↔x.1∈L:=by
 unfold Qms;rw[List.mem_filterMap];constructor
 · rintro ⟨y,hy,h⟩
   split at h
   · cases h;exact hy
   · cases h
 · intro h
   exact⟨x.1,h,by rw[dif_pos x.2]⟩
theorem Qok {P:α→Prop} [DecidablePred P] {lt:{ x // P x }→{ x // P x }→Bool} (h:Go.Sort.SWO lt) {F:List { x // P x }} {L:List α} (hp:(F.map (·.1)).Perm L) (hs:Srt lt F)
 (ht:∀ x∈Qms P L,∀ y∈Qms P L,lt x y=false→lt y x=false→x=y):F=Qs6 lt (Qms P L):=by
 refine Q8j h ?_ hs ht;have:=Q51 (P:=P) hp;rw[Qyj] at this
 exact this
end
theorem key_inj {β:Type} {L:List (ByteArray×β)} (h:(L.map (·.1)).Nodup) {x y:ByteArray×β} (hx:x∈L) (hy:y∈L) (e:x.1=y.1):x=y:=by
 induction L with
 | nil=>simp at hx
 | cons a l ih =>
   rw[List.map_cons,List.nodup_cons] at h;rcases List.mem_cons.1 hx with h1 | h1 <;> rcases List.mem_cons.1 hy with h2 | h2
   · rw[h1,h2]
   · subst h1;exact absurd (List.mem_map.2 ⟨y,h2,e.symm⟩) h.1
   · subst h2;exact absurd (List.mem_map.2 ⟨x,h1,e⟩) h.1
   · exact ih h.2 h1 h2
instance:DecidablePred Qq0:=fun x=>by unfold Qq0;exact inferInstance
theorem Q2z {a b:RiS} (h:ltOf Qhb a b=false) (k:ltOf Qhb b a=false):a.1.1=b.1.1:=by
 have hw:WC Qhb:=by
  rw[Qli];refine WC.lex (WC.flip (Q6n (fun x:RiS=>riR x.1) fun x => ?_)) (WC.lex (WC.flip (Q9p fun x:RiS=>x.1.2.1)) (Qwy fun x:RiS=>x.1.1));have:=x.2.2.1;unfold riR;simp only;omega
 have e:Qhb a b=0:=by
  unfold ltOf at h k;simp only[decide_eq_false_iff_not] at h k;have:=hw.anti b a;omega
 rw[Qli] at e;unfold Q6q at e
 split at e
 · rename_i h1;exact absurd e h1
 split at e
 · rename_i h1;exact absurd e h1
 exact Qds.1 e
def Xcy (c:Cfg) (z:List Ev) (now:Int):List Ri :=
 Qdc (Ql c.width z).ps ((Q0p c now-2*c.span)/Xr c.width) ((Q0p c now-c.span)/Xr c.width) (Q0p c now/Xr c.width) c.floor
  (Qdu (Ql c.width z).ps ((Q0p c now-c.span)/Xr c.width) (Q0p c now/Xr c.width))
def Xcx (c:Cfg) (z:List Ev) (now:Int):List RiS:=Qs6 (ltOf Qhb) (Qms Qq0 (Xcy c z now))
theorem Qoc (s:Qae) (a b d f lo hi:Int):((Qdc s a b d f (Qdu s lo hi)).map (·.1)).Nodup:=by
 have h:(Qdc s a b d f (Qdu s lo hi)).map (·.1)=((Qdu s lo hi).filter fun k=>decide (f≤(Xa7 s a b d k).2.1)):=by
  unfold Qdc;generalize Qdu s lo hi=K
  induction K with
  | nil=>rfl
  | cons k K ih =>
    rw[List.map_cons]
    by_cases hq:f≤(Xa7 s a b d k).2.1
    · rw[List.filter_cons_of_pos (by simpa using hq),List.filter_cons_of_pos (by simpa using hq),List.map_cons,ih];rfl
    · rw[List.filter_cons_of_neg (by simpa using hq),List.filter_cons_of_neg (by simpa using hq),ih]
 rw[h]
 exact(Qcm _).sublist List.filter_sublist
theorem Xcz {s:Qae} {a b d f lo hi:Int} {F:List RiS} (hp:(F.map (·.1)).Perm (Qdc s a b d f (Qdu s lo hi))) (hs:Srt (ltOf Qhb) F):F=Qs6 (ltOf Qhb) (Qms Qq0 (Qdc s a b d f (Qdu s lo hi))) :=
 Qok Qrm hp hs fun x hx y hy h1 h2=>Subtype.ext (key_inj (Qoc s a b d f lo hi) (Qgy.1 hx) (Qgy.1 hy) (Q2z h1 h2))
abbrev Nr:=ByteArray×(Int×Int)
def Qnd (x:Nr):Prop:=Qla 100000000 x.2
instance:DecidablePred Qnd:=fun x=>by unfold Qnd Qla;exact inferInstance
abbrev NrS:={ x:Nr // Qnd x }
instance:Inhabited NrS:=⟨⟨(⟨#[]⟩,0,1),by unfold Qnd Qla;simp⟩⟩
def Q97 (a b:Nr):Int:=orL [Qmx b.2 a.2,Qd7 a.1 b.1]
def Qhz (a b:NrS):Int:=Q97 a.1 b.1
theorem Qrk:Qhz=Q6q (fun a b:NrS=>Qmx b.1.2 a.1.2) (fun a b:NrS=>Qd7 a.1.1 b.1.1):=by
 funext a b
 unfold Qhz Q97 Q6q orL
 by_cases h1:Qmx b.1.2 a.1.2=0
 · by_cases h3:Qd7 a.1.1 b.1.1=0 <;> simp[h1,h3]
 · simp[h1]
theorem Qxc:WC Qhz:=by
 rw[Qrk];refine WC.lex (WC.flip (Q6n (fun x:NrS=>x.1.2) fun x => ?_)) (Qwy fun x:NrS=>x.1.1);have:=x.2.2.2.1;omega
theorem Qrl:SWO (ltOf Qhz):=Qxc.swo
theorem Q2y {a b:NrS} (h:ltOf Qhz a b=false) (k:ltOf Qhz b a=false):a.1.1=b.1.1:=by
 have e:Qhz a b=0:=by
  unfold ltOf at h k;simp only[decide_eq_false_iff_not] at h k;have:=Qxc.anti b a;omega
 rw[Qrk] at e;unfold Q6q at e
 split at e
 · rename_i h1;exact absurd e h1
 exact Qds.1 e
def Qfs (S:List Sn) (floor:Int) (a:ByteArray):List Nr:=((Qdx S a).filter fun b=>decide (floor≤(Qc7 S a b:Int))).map fun b=>(b,Qpv S a b)
def Qda (K:List ByteArray) (m:List Nr) (x:Nr):List Nr :=
 if x.1∈K then m else match Qe m x.1 with
  | none=>Q7 m x.1 x.2
  | some o=>if Q0u o x.2=true then Q7 m x.1 x.2 else m
def Qlg (S:List Sn) (floor:Int) (K:List ByteArray):List Nr:=(K.flatMap (Qfs S floor)).foldl (Qda K) []
def Q2a (S:List Sn) (floor:Int) (items:List ByteArray):List NrS:=Qs6 (ltOf Qhz) (Qms Qnd (Qlg S floor (Qbt items)))
theorem Qhv {K:List ByteArray} {Q:Nr→Prop}:∀ (l:List Nr) (m:List Nr),(m.Pairwise fun x y=>x.1≠y.1)→(∀ x∈m,x.1∉K∧Q x)→(∀ x∈l,Q x) →
 ((l.foldl (Qda K) m).Pairwise fun x y=>x.1≠y.1)∧∀ x∈l.foldl (Qda K) m,x.1∉K∧Q x
 | [],m,hm,hk,_=>⟨hm,hk⟩
 | y :: l,m,hm,hk,hl=>by
   rw[List.foldl_cons];have hy:=hl y (by simp)
   have hset:y.1∉K→((Q7 m y.1 y.2).Pairwise fun x y=>x.1≠y.1)∧∀ x∈Q7 m y.1 y.2,x.1∉K∧Q x:=fun hyk=>⟨X5 hm,fun x hx=>by
    rcases X4 hx with h | h
    · rw[h];exact⟨hyk,hy⟩
    · exact hk x h⟩
   have hst:((Qda K m y).Pairwise fun x y=>x.1≠y.1)∧∀ x∈Qda K m y,x.1∉K∧Q x:=by
    unfold Qda
    split
    · exact⟨hm,hk⟩
    · next h =>
      split
      · exact hset h
      · split
        · exact hset h
        · exact⟨hm,hk⟩
   exact Qhv l _ hst.1 hst.2 fun x hx=>hl x (by simp[hx])
theorem Q4l {S:List Sn} (hS:S.length<1000) {floor:Int} {a:ByteArray}:∀ x∈Qfs S floor a,Qnd x:=fun x hx=>by
 unfold Qfs at hx;obtain⟨b,_,rfl⟩:=List.mem_map.1 hx
 have hN:(S.length:Int)*S.length≤100000000:=by
  have:(S.length:Int)*S.length≤1000*1000:=Int.mul_le_mul (by omega) (by omega) (by omega) (by omega);omega
 exact Xay hN (by omega) a b
theorem Qug {S:List Sn} (hS:S.length<1000) (floor:Int) (K:List ByteArray):((Qlg S floor K).map (·.1)).Nodup∧∀ x∈Qlg S floor K,x.1∉K∧Qnd x:=by
 have h:=Qhv (K:=K) (Q:=Qnd) (K.flatMap (Qfs S floor)) [] (by simp) (by simp) (fun x hx=>by
  obtain⟨a,_,hx⟩:=List.mem_flatMap.1 hx
  exact Q4l hS x hx)
 exact⟨Xx h.1,h.2⟩
theorem Xce {S:List Sn} (hS:S.length<1000) {floor:Int} {items:List ByteArray} {F:List NrS} (hp:(F.map (·.1)).Perm (Qlg S floor (Qbt items))) (hs:Srt (ltOf Qhz) F):F=Q2a S floor items :=
 Qok Qrl hp hs fun x hx y hy h1 h2=>Subtype.ext (key_inj (Qug hS floor _).1 (Qgy.1 hx) (Qgy.1 hy) (Q2y h1 h2))
theorem Q2b {S:List Sn} (hS:S.length<1000) {floor:Int} {items:List ByteArray}:((Q2a S floor items).map fun x=>x.1.1).Nodup:=by
 have h:=(Qug hS floor (Qbt items))
 have h1:((Q2a S floor items).map fun x=>x.1.1).Perm ((Qlg S floor (Qbt items)).map (·.1)):=by
  have:=(Qe4 (ltOf Qhz) (Qms Qnd (Qlg S floor (Qbt items)))).map (·.1);rw[Qqu fun x hx=>(h.2 x hx).2] at this;have:=this.map (·.1);rw[List.map_map] at this
  exact this
 exact h1.nodup_iff.2 h.1
def Qjy (z:List Ev) (person:ByteArray):List Ev:=(Qkh z person).filter fun e=>decide (0<Qy e)
def Xeh (z:List Ev) (person:ByteArray):List ByteArray:=(Qjy z person).map (·.item)
def Qj2 (half now:Int) (m:List Ct) (e:Ev):List Ct:=Q7 m e.item ((Qe m e.item).getD 0+Q9m half now e)
def Qen (half now:Int) (l:List Ev):List Ct:=l.foldl (Qj2 half now) []
theorem Qgs (half now:Int) (l:List Ev) (e:Ev):Qen half now (l ++ [e])=Qj2 half now (Qen half now l) e:=by unfold Qen;rw[List.foldl_append];rfl
def Qm7 (half now:Int) (l:List Ev) (x:ByteArray):Int:=((l.filter fun e=>decide (e.item=x)).map (Q9m half now)).sum
theorem Qn0 (half now:Int) (l:List Ev) (e:Ev) (x:ByteArray):Qm7 half now (l ++ [e]) x=Qm7 half now l x+if e.item=x then Q9m half now e else 0:=by
 unfold Qm7;rw[List.filter_append,List.map_append,List.sum_append]
 congr 1
 by_cases h:e.item=x
 · simp[h]
 · simp[h]
theorem Qjc (half now:Int):∀ l:List Ev,(Qen half now l).Pairwise (fun x y=>x.1≠y.1) :=
 Qu (by simp[Qen]) fun l e ih=>by rw[Qgs];exact X5 ih
theorem Qnz (half now:Int) (x:ByteArray):∀ l:List Ev,Qe (Qen half now l) x=if x∈l.map (·.item) then some (Qm7 half now l x) else none:=by
 refine Qu (by simp[Qen,Qe]) fun l e ih => ?_
 rw[Qgs,Qn0];unfold Qj2;rw[Xg,List.map_append,List.map_cons,List.map_nil]
 by_cases h:x=e.item
 · subst h
   rw[if_pos rfl,if_pos (by simp),if_pos rfl,ih]
   by_cases h2:e.item∈l.map (·.item)
   · rw[if_pos h2];rfl
   · rw[if_neg h2]
     have:Qm7 half now l e.item=0:=by
      unfold Qm7;rw[List.filter_eq_nil_iff.2]
      · rfl
      · intro y hy hq
        exact h2 (List.mem_map.2 ⟨y,hy,by simpa using hq⟩)
     rw[this];rfl
 · rw[if_neg h,ih]
   have h3:¬ e.item=x:=fun q=>h q.symm
   by_cases h2:x∈l.map (·.item)
   · rw[if_pos h2,if_pos (by simp[h2]),if_neg h3,Int.add_zero]
   · rw[if_neg h2,if_neg (by simp only[List.mem_append,List.mem_singleton];rintro (q | q);exact h2 q;exact h q)]
theorem Qlw (half now:Int) (x:ByteArray):∀ l:List Ev,(∀ e∈l,Xn e=true)→0≤Qm7 half now l x∧Qm7 half now l x≤l.length*5242880:=by
 refine Qu (by simp[Qm7]) fun l e ih hm => ?_
 have h1:=ih fun y hy=>hm y (by simp[hy])
 have h2:=Qon (half:=half) (now:=now) (hm e (by simp));rw[Qn0,List.length_append,List.length_cons,List.length_nil]
 split
 · constructor
   · omega
   · push_cast;omega
 · constructor
   · omega
   · push_cast;omega
theorem Qsg {half now:Int} {l:List Ev} {x:Ct} (h:x∈Qen half now l):x.1∈l.map (·.item)∧x.2=Qm7 half now l x.1:=by
 have:=Qcd (Qjc half now l) (k:=x.1) (v:=x.2) h;rw[Qnz] at this
 split at this
 · next h1=>exact⟨h1,(Option.some.inj this).symm⟩
 · cases this
theorem Qrd (name:ByteArray):∀ cs:List Ev,∀ s∈Qw cs name,s.item.name=name:=by
 refine Qu (by simp[Qw]) fun cs e ih => ?_
 rw[Qba];unfold Qfa Qkl
 by_cases hn:name=e.item
 · subst hn
   rw[if_pos rfl];intro s hs;rcases List.mem_append.1 hs with hs | hs
   · exact ih s hs
   · rw[List.mem_singleton] at hs
     subst hs;unfold Qe7;rw[Qwm]
     cases hl:(Qw cs e.item).getLast? with
     | none=>rfl
     | some s0=>exact ih s0 (List.mem_of_getLast? hl)
 · rw[if_neg hn];exact ih
theorem Qy7 {cs:List Ev} {name:ByteArray} {t:Int} (h:(X6 cs name t).2=true):(X6 cs name t).1.name=name:=by
 unfold X6 at *
 split at h
 · next s hs =>
   split at h
   · cases h
   · next hne =>
     rw[if_neg hne]
     exact Qrd name cs s (List.mem_of_getElem? hs)
 · cases h
theorem Q36 {cs:List Ev} {name:ByteArray} {t:Int} (h:Qcz cs t name=true):(X6 cs name t).1.name=name:=Qy7 (by
 unfold Qcz at h;rw[Bool.and_eq_true] at h
 exact h.1)
theorem Qjd {cs:List Ev} {t:Int} {x:ByteArray} (h:Qcz cs t x=true):x∈cs.map (·.item):=by
 cases hr:Qw cs x with
 | nil =>
   unfold Qcz X6 at h;rw[hr] at h
   simp at h
 | cons s l =>
   obtain⟨e,he,hi,_⟩:=(Qnm x s.at_ cs).1 (by rw[hr];simp)
   exact List.mem_map.2 ⟨e,he,hi⟩
theorem Qrv:∀ l:List Ev,(Qi7 l).Pairwise (fun x y=>x.1≠y.1):=by
 refine Qu (by simp[Qi7]) fun l e ih => ?_
 rw[Qpe];unfold Qqg
 split
 · exact ih
 · exact X5 ih
theorem Qjg {z:List Ev} {now:Int} {x:ByteArray}:x∈Qb5 z now↔Qcz (Xa z) now x=true:=by
 unfold Qb5;rw[Xp,List.mem_filter]
 exact⟨fun h=>h.2,fun h=>⟨Qjd h,h⟩⟩
def Qzn (rs:List Row) (person item:ByteArray):Bool:=(Qe (X0 rs).done (person,item)).getD false
def Xck (rs:List Row) (person item:ByteArray):Bool:=(Qe (X0 rs).hidden (person,item)).getD false
def keepR (rs:List Row) (person:ByteArray) (x:Ct):Bool := !(decide (x.2≤0)||(Qzn rs person x.1||Xck rs person x.1))
def thC (z:List Ev) (now:Int):List It:=(Qb5 z now).map fun n=>(X6 (Xa z) n now).1
def Xcn (t:It):Ct:=(t.name,t.born)
def Qx0 (z:List Ev) (now:Int) (q:It→Bool):List Ct:=Qfo (((thC z now).filter q).map Xcn)
def Xb6 (z:List Ev) (person:ByteArray) (t:It):Bool:=Xb5 z person t.maker
def Xdn (c:Cfg) (now:Int) (t:It):Bool:=decide (now-t.born≤c.span)
def Xed (c:Cfg) (z:List Ev) (person:ByteArray) (now:Int):List Ct:=Qfo ((Qen c.half now (Qjy z person)).filter (keepR (Ql c.width z).rs person))
def Qd3 (c:Cfg) (z:List Ev) (person:ByteArray) (now:Int) (r:Nat):List ByteArray :=
 if r=0 then(Qfo (Qfu (Ql c.width z).ds (Xr c.half) now)).map (·.1)
 else if r=1 then(Xcx c z now).map fun x=>x.1.1
 else if r=2 then(Q2a (Qk1 c z) 1 (Xeh z person)).map fun x=>x.1.1
 else if r=3 then(Qx0 z now (Xb6 z person)).map (·.1)
 else if r=4 then(Qx0 z now (Xdn c now)).map (·.1)
 else if r=5 then(Xed c z person now).map (·.1)
 else []
def Qft (c:Cfg) (z:List Ev) (person:ByteArray) (now r limit:Int):List ByteArray :=
 if 0≤r∧r≤5∧0≤now∧now≤1099511627776 then(Qd3 c z person now r.toNat).take limit.toNat else []
theorem Q4j {z:List Ev} {now:Int} {K:List ByteArray} (hn:K.Nodup) (hm:∀ x,x∈K↔Qcz (Xa z) now x=true):Xb K=Qb5 z now :=
 Qga hn fun x=>by
  rw[hm,List.mem_filter]
  exact⟨fun h=>⟨Qjd h,h⟩,fun h=>h.2⟩
theorem Qjp (l:List Ct):((Qfo l).map (·.1)).Perm (l.map (·.1)):=(Qe3 l).map _
theorem Q1q {s:Qjv} (h:s.Pairwise fun x y=>x.1≠y.1) (half now:Int):((Qfu s half now).map (·.1)).Nodup:=by
 have hn:=Xx h
 have:∀ K:List ByteArray,(((K.map fun k=>(k,Qb2 s half k now)).filter fun x=>decide (0<x.2)).map (·.1))=K.filter fun k=>decide (0<Qb2 s half k now):=by
  intro K
  induction K with
  | nil=>rfl
  | cons k K ih =>
    rw[List.map_cons]
    by_cases hq:0<Qb2 s half k now
    · rw[List.filter_cons_of_pos (by simpa using hq),List.filter_cons_of_pos (by simpa using hq),List.map_cons,ih]
    · rw[List.filter_cons_of_neg (by simpa using hq),List.filter_cons_of_neg (by simpa using hq),ih]
 unfold Qfu;rw[this]
 exact hn.sublist List.filter_sublist
theorem Qtq (z:List Ev) (now:Int):(thC z now).map (·.name)=Qb5 z now:=by
 unfold thC;rw[List.map_map]
 conv=>rhs;rw[← List.map_id (Qb5 z now)]
 exact List.map_congr_left fun x hx=>Q36 (Qjg.1 hx)
theorem Qp3 (z:List Ev) (now:Int) (q:It→Bool):((Qx0 z now q).map (·.1)).Perm (((thC z now).filter q).map (·.name)):=by
 unfold Qx0;refine(Qjp _).trans ?_;rw[List.map_map]
 exact List.Perm.refl _
theorem Qso (z:List Ev) (now:Int) (q:It→Bool):((Qx0 z now q).map (·.1)).Nodup:=by
 refine(Qp3 z now q).nodup_iff.2 ?_;have h:(Qb5 z now).Nodup:=Qcm _;rw[← Qtq] at h
 exact h.sublist (List.filter_sublist.map _)
theorem Q0i {z:List Ev} {now:Int} {q:It→Bool} {x:ByteArray} (h:x∈(Qx0 z now q).map (·.1)):Qcz (Xa z) now x=true:=by
 have h1:=(Qp3 z now q).mem_iff.1 h;obtain⟨t,ht,rfl⟩:=List.mem_map.1 h1;have h2:=(List.mem_filter.1 ht).1;have:t.name∈(thC z now).map (·.name):=List.mem_map.2 ⟨t,h2,rfl⟩;rw[Qtq] at this
 exact Qjg.1 this
theorem Qu3 {L:List Ct} (h:L.Pairwise fun x y=>x.1≠y.1) (q:Ct→Bool):((L.filter q).map (·.1)).Nodup:=(Xx h).sublist (List.filter_sublist.map _)
theorem Q18 (c:Cfg) (z:List Ev) (person:ByteArray) (now:Int):((Xed c z person now).map (·.1)).Nodup:=(Qjp _).nodup_iff.2 (Qu3 (Qjc _ _ _) _)
theorem Q44 (c:Cfg) (z:List Ev) (now:Int):((Xcx c z now).map fun x=>x.1.1).Nodup:=by
 have h:((Xcx c z now).map fun x=>x.1.1).Perm (((Qms Qq0 (Xcy c z now)).map (·.1)).map (·.1)):=by
  have:=(Qe4 (ltOf Qhb) (Qms Qq0 (Xcy c z now))).map fun x=>x.1.1
  rw[List.map_map]
  exact this
 refine h.nodup_iff.2 ?_
 have hs:∀ L:List Ri,(((Qms Qq0 L).map (·.1)).map (·.1)).Sublist (L.map (·.1)):=by
  intro L
  induction L with
  | nil=>exact List.Sublist.refl _
  | cons x L ih =>
    unfold Qms at ih ⊢;rw[List.filterMap_cons]
    by_cases hx:Qq0 x
    · rw[dif_pos hx]
      simp only[List.map_cons]
      exact ih.cons_cons _
    · rw[dif_neg hx]
      exact ih.cons _
 exact(Qoc _ _ _ _ _ _ _).sublist (hs _)
theorem Qof {c:Cfg} {z:List Ev} (hS:(Qk1 c z).length<1000) (person:ByteArray) (now:Int) (r:Nat):(Qd3 c z person now r).Nodup:=by
 unfold Qd3
 split
 · refine(Qjp _).nodup_iff.2 (Q1q ?_ _ _)
   rw[(Qdd c.width z).1]
   exact Qrv _
 split
 · exact Q44 c z now
 split
 · exact Q2b hS
 split
 · exact Qso _ _ _
 split
 · exact Qso _ _ _
 split
 · exact Q18 _ _ _ _
 · exact List.nodup_nil
theorem Qv0 {c:Cfg} {z:List Ev} (hS:(Qk1 c z).length<1000) (person:ByteArray) (now r limit:Int):(Qft c z person now r limit).Nodup:=by
 unfold Qft
 split
 · exact(Qof hS person now _).sublist (List.take_sublist _ _)
 · exact List.nodup_nil
theorem Q5b {c:Cfg} {z:List Ev} {person:ByteArray} {now r limit:Int} {x:ByteArray} (h:x∈Qft c z person now r limit):x∈Qd3 c z person now r.toNat:=by
 unfold Qft at h
 split at h
 · exact List.mem_of_mem_take h
 · cases h
end Go.Proofs.YtohkipkjleldpaaGreatDoor
namespace Go.Proofs.YtohkipkjleldpaaGreatDoor
open Go.Se Go.RowKit
def Qkj (e:Ev):Bool:=decide (Qy e≤0)
def dV:Value := .func (.func 310) #[] #[]
theorem Qlk (e:Ev) (w:World):Cal Tryz.prog 310 [evV e] w fun r w'=>r = .bool (Qkj e)∧Ext w w':=by
 refine Fi Tryz.func310 rfl _ rfl rfl (Hh ?_);intro b1 w1 hn1;refine Gg ?_;have h1:At w1 b1 38 (evC e):=hn1.At;refine⟨evC e,⟨rfl,h1.all⟩,Gg ?_⟩;refine(Qe8 e w1).mono ?_;rintro _ w2 ⟨rfl,hx2⟩;refine Gg ?_
 exact⟨rfl,hn1.ext.trans hx2⟩
theorem Qrq (l:List Ev) (A:Option Addr) (c:Nat) (w:World) (hs:SlE w A l) (hl:l.length<1000000) :
 Cal Tryz.prog 110 [.slice A l.length c,dV] w fun r w'=>r = .int .i64 (match l.findIdx? (Qkj) with | some i=>(i:Int) | none => -1)∧Ext w w':=by
 refine Fi Tryz.func110 rfl _ rfl rfl (Hh ?_)
 refine Qh Qa (fun(k:Nat) w'=>k≤l.length∧Ext w w'∧∀ x∈l.take k,Qkj x=false)
  (fun k => [(0,.slice A l.length c),(1,dV),(7,.int .i64 l.length),(8,.int .i64 (k:Nat))]) (fun k=>l.length-k) 0 ⟨Nat.zero_le _,Ext.refl _,by simp⟩ Rr ?_
 rintro k w1 ⟨hk,hx,hall⟩
 conv=>whnf
 constructor
 · intro hlt
   have hlt:k<l.length:=by simpa using hlt
   obtain⟨a,rfl,hc⟩:=(hs.ext hx).get hlt;have htk:=Qiu l k hlt
   have hfi:Qkj l[k]=true→l.findIdx? (Qkj)=some k:=fun h=>by
    rw[List.findIdx?_eq_some_iff_getElem];refine⟨hlt,h,fun j hj => ?_⟩;have hjl:j<l.length:=by omega
    have:=hall l[j] (by rw[List.mem_take_iff_getElem];exact⟨j,by omega,rfl⟩)
    simp[this]
   generalize l[k]=x at hc htk hfi;refine Gg ?_;refine⟨a,Ix,Gg ?_⟩;refine⟨evC x,⟨rfl,hc⟩,Gg ?_⟩;refine(Qlk x w1).mono ?_;rintro _ w2 ⟨rfl,hx2⟩;refine Gg ?_;constructor
   · intro h
     rw[hfi h];refine Gg ?_
     exact⟨rfl,hx.trans hx2⟩
   · intro h
     have h:Qkj x=false:=h;refine Gg ?_;refine⟨_,wrap_succ (by omega),Gg ?_⟩;refine⟨k+1,by omega,⟨by omega,hx.trans hx2,fun y hy => ?_⟩,Rr⟩;rw[htk] at hy;rcases List.mem_append.1 hy with hy | hy
     · exact hall y hy
     · rw[List.mem_singleton] at hy;rw[hy];exact h
 · intro hge
   have hge:l.length≤k:=by simpa using hge
   rw[List.take_of_length_le hge] at hall
   have:l.findIdx? (Qkj)=none:=by
    rw[List.findIdx?_eq_none_iff]
    exact hall
   rw[this];refine Gg ?_
   exact⟨rfl,hx⟩
set_option maxHeartbeats 2000000 in
theorem Q22 (l:List Ev) (a:Addr) (c base:Nat) (w:World) (hown:Own evC 8 38 base w (some a) c l) (hl:l.length<1000000) (hany:l.any (Qkj)=true) :
 Cal Tryz.prog 72 [.slice (some a) l.length c,dV] w fun r w'=>r = .slice (some a) (l.filter fun e => !Qkj e).length c∧Own evC 8 38 base w' (some a) c (l.filter fun e => !Qkj e)∧Mod (fun k=>k=a.block) w w':=by
 have hle:=hown.le
 obtain⟨i0,hi0,hq0,hb0⟩:∃ i,∃ (h:i<l.length),Qkj l[i]=true∧∀ j (hj:j<i),Qkj (l[j]'(by omega))=false:=by
  cases h:l.findIdx? (Qkj) with
  | none =>
    rw[List.findIdx?_eq_none_iff] at h;obtain⟨x,hx,hq⟩:=List.any_eq_true.1 hany;rw[h x hx] at hq
    cases hq
  | some i =>
    rw[List.findIdx?_eq_some_iff_getElem] at h;obtain⟨h1,h2,h3⟩:=h
    exact⟨i,h1,h2,fun j hj=>by simpa using h3 j hj⟩
 have hfi:l.findIdx? (Qkj)=some i0:=by
  rw[List.findIdx?_eq_some_iff_getElem]
  exact⟨hi0,hq0,fun j hj=>by simp[hb0 j hj]⟩
 have hf0:(l.take (i0+1)).filter (fun e => !Qkj e)=l.take i0:=by
  rw[Qfq _ l i0 hi0,hq0];simp only[Bool.not_true,Bool.false_eq_true,if_false,List.append_nil];rw[List.filter_eq_self];intro x hx;rw[List.mem_take_iff_getElem] at hx;obtain⟨j,hj,rfl⟩:=hx;rw[hb0 j (by omega)]
  rfl
 refine Fi Tryz.func72 rfl _ rfl rfl (Hh ?_);refine(Qrq l (some a) c w (hown.sl Xz) hl).mono ?_;rintro _ w1 ⟨rfl,hx1⟩;rw[hfi];replace hown:=hown.ext hx1;refine Gg ?_;constructor
 · intro h
   simp at h
 intro _;refine Gg ?_;refine⟨_,wrap_succ (by omega),Gg ?_⟩
 refine Qh Qa (fun(x:Nat×Nat×List Ev) w'=>x.1≤l.length∧x.2.1<x.1∧x.2.2.length=l.length∧x.2.2.take x.2.1=(l.take x.1).filter (fun e => !Qkj e)∧x.2.2.drop x.1=l.drop x.1∧Own evC 8 38 base w' (some a) c x.2.2∧Mod (fun k=>k=a.block) w w')
  (fun | (j,i,U) => [(0,.slice (some a) l.length c),(1,dV),(5,.int .i64 (i:Nat)),(6,.int .i64 (j:Nat))]) (fun x=>l.length-x.1) (i0+1,i0,l) ⟨by simp only;omega,by simp only;omega,rfl,hf0.symm,rfl,hown,Mod.of_ext hx1⟩ Rr ?_
 clear hown hx1 hf0 hfi hb0 hq0;rintro ⟨j,i,U⟩ w2 ⟨hj,hij,hUl,hUt,hUd,hown,hM2⟩;simp only at hj hij hUl hUt hUd hown
 conv=>whnf
 constructor
 · intro hlt
   have hlt:j<l.length:=by simpa using hlt
   have hjU:j<U.length:=by omega
   obtain⟨a',ha',hc⟩:=(hown.sl Xz).get hjU;injection ha' with ha';subst ha'
   have hUj:U[j]=l[j]:=by
    have h1:(U.drop j)[0]? = (l.drop j)[0]? := by rw[hUd]
    rw[List.getElem?_drop,List.getElem?_drop,Nat.add_zero,List.getElem?_eq_getElem hjU,List.getElem?_eq_getElem hlt] at h1
    exact Option.some.inj h1
   have hst:=Qfq (fun e => !Qkj e) l j hlt;rw[← hUt] at hst;have hUd2:U.drop (j+1)=l.drop (j+1):=by rw[← List.drop_drop,← List.drop_drop,hUd]
   rw[hUj] at hc;generalize l[j]=v at hc hst;refine Gg ?_;refine⟨a,Ix,Gg ?_⟩;refine⟨evC v,⟨rfl,hc⟩,Gg ?_⟩;intro b7 w3 hn3;refine Gg ?_;refine Qd Qa (e:=ty38) rfl hn3.At rfl rfl rfl (Qbo v) fun w4 h7 ho4 => ?_
   have h7:At w4 b7 38 (evC v):=h7;have hx24:Ext w2 w4:=ho4.ext hn3.ext (by rw[hn3.block];exact Nat.le_refl _);clear ho4 hn3;refine Gg ?_;refine⟨evC v,⟨rfl,h7.all⟩,Gg ?_⟩;refine(Qlk v w4).mono ?_;rintro _ w5 ⟨rfl,hx5⟩;have hx25:=hx24.trans hx5;have h75:=h7.ext hx5;replace hown:=hown.ext hx25;replace hM2:=hM2.trans (Mod.of_ext hx25);clear hx24 hx5 hx25 h7;refine Gg ?_;constructor
   · intro hq
     have hq:Qkj v=false:=by simpa using hq
     rw[hq] at hst;simp only[Bool.not_false,if_true] at hst;refine Gg ?_;refine⟨evC v,⟨rfl,h75.all⟩,Gg ?_⟩;refine⟨a,Ix,Gg ?_⟩;refine Qtj Qa (e:=ty38) rfl rfl Xz Qbo (k:=i) (by omega) v rfl hown fun w6 hown6 ho6 => ?_
     refine Gg ?_;refine⟨_,wrap_succ (by omega),Gg ?_⟩;refine⟨_,wrap_succ (by omega),Gg ?_⟩;refine⟨(j+1,i+1,U.set i v),by simp only;omega,⟨by simp only;omega,by simp only;omega,by simp only;rw[List.length_set];exact hUl,?_,?_,hown6,hM2.trans (Qi ho6 rfl)⟩,Rr⟩
     · simp only
       rw[hst,List.take_set,List.take_add_one,List.getElem?_eq_getElem (by omega:i<U.length)];rw[List.set_append_right _ _ (by rw[List.length_take];omega)]
       simp[List.length_take,Nat.min_eq_left (by omega:i≤U.length)]
     · simp only
       rw[List.drop_set_of_lt (by omega)]
       exact hUd2
   · intro hq
     have hq:Qkj v=true:=by simpa using hq
     rw[hq] at hst;simp only[Bool.not_true,Bool.false_eq_true,if_false,List.append_nil] at hst;refine Gg ?_;refine⟨_,wrap_succ (by omega),Gg ?_⟩
     exact⟨(j+1,i,U),by simp only;omega,⟨by simp only;omega,by simp only;omega,hUl,hst.symm,hUd2,hown,hM2⟩,Rr⟩
 intro hge;have hge:l.length≤j:=by simpa using hge
 rw[List.take_of_length_le hge] at hUt;have hil:i<U.length:=by omega
 have hfl:(l.filter fun e => !Qkj e).length=i:=by rw[← hUt,List.length_take];omega
 rw[hfl]
 have hsl:(if((c:Nat):Int).toNat=((i:Nat):Int).toNat then some a else(some a).map (·.add (((i:Nat):Int).toNat*8)))=some (a.add (i*8)):=by
  rw[Int.toNat_natCast,Int.toNat_natCast,if_neg (by omega)]
  rfl
 refine Gg ?_;refine⟨⟨by omega,by omega,by omega,by omega⟩,Gg ?_⟩;rw[hsl];refine Q2t Xbt ty38_ok rfl (by simp[Qg,ty38,Value.oneCell']) Xz hil hown (by simp;omega) fun w6 hown6 ho6 => ?_
 rw[hUt] at hown6;refine Gg ?_;refine⟨⟨by omega,by omega,by omega,by omega⟩,Gg ?_⟩;refine⟨?_,hown6,hM2.trans (Qi ho6 rfl)⟩;have e0:a.add 0=a:=by unfold Addr.add;simp
 simp[e0]
theorem Qx2 (l:List Ev):(l.filter fun e => !Qkj e)=l.filter fun e=>decide (0<Qy e):=by
 congr 1
 funext e
 unfold Qkj
 by_cases h:Qy e≤0
 · simp[h]
   try omega
 · simp[h]
   try omega
theorem Qrp (l:List Ev) (A:Option Addr) (c base:Nat) (w:World) (hown:Own evC 8 38 base w A c l) (hl:l.length<1000000) :
 Cal Tryz.prog 72 [.slice A l.length c,dV] w fun r w'=>r = .slice A (l.filter fun e=>decide (0<Qy e)).length c∧Own evC 8 38 base w' A c (l.filter fun e=>decide (0<Qy e))∧∀ w0,Ext w0 w→w0.heap.size≤base→Ext w0 w':=by
 by_cases hany:l.any Qkj=true
 · obtain⟨a,rfl⟩:∃ a,A=some a:=by
    cases A with
    | some a=>exact⟨a,rfl⟩
    | none =>
      cases l with
      | nil=>simp at hany
      | cons x l=>obtain⟨a,ha,_⟩:=(hown.sl Xz) 0 x rfl;cases ha
   refine(Q22 l a c base w hown hl hany).mono ?_;rintro _ w' ⟨rfl,ho,hM⟩;rw[Qx2] at ho ⊢;refine⟨rfl,ho,fun w0 hx hb=>Qpg hx (T:=fun k=>k=a.block) (fun k hk => ?_) hM⟩;have:=(hown.block rfl).1;omega
 · have hany:l.any Qkj=false:=by simpa using hany
   have hf:(l.filter fun e=>decide (0<Qy e))=l:=by
    rw[← Qx2,List.filter_eq_self];intro x hx;have:=List.any_eq_false.1 hany x hx
    simpa using this
   have hfi:l.findIdx? Qkj=none:=by
    rw[List.findIdx?_eq_none_iff];intro x hx
    simpa using List.any_eq_false.1 hany x hx
   rw[hf];refine Fi Tryz.func72 rfl _ rfl rfl (Hh ?_);refine(Qrq l A c w (hown.sl Xz) hl).mono ?_;rintro _ w1 ⟨rfl,hx1⟩;rw[hfi];refine Gg ?_;constructor
   · intro _
     refine Gg ?_
     exact⟨rfl,hown.ext hx1,fun w0 hx hb=>hx.trans hx1⟩
   · intro h;simp at h
theorem Qno {w:World} {T:Nat→Prop} {p:Nat} {c:Cfg} {z:List Ev} {v:Value} (h:WQ w T p c z v) (person:ByteArray) :
 Cal Tryz.prog 240 [.pointer (some ⟨p,0,none⟩),.string person] w fun r w'=>∃ A cp,r = .slice A (Qjy z person).length cp∧Own evC 8 38 w.heap.size w' A cp (Qjy z person)∧Ext w w':=by
 have hz:(Qb4 z).length<1000000:=by
  have h2:=List.length_filter_le peB z;have:=h.len;unfold Qb4;omega
 refine Fi Tryz.func240 rfl _ rfl rfl (Hh ?_);refine(Qfm h).mono ?_;rintro _ w4 ⟨pw,S4,rfl,hcr,hx4⟩;conv=>whnf
 have he:=(Qdt c.width z).2
 refine(Qr4 w4 S4 pw _ _ hcr person (by
  have:(evs (Ql c.width z).rs).length=(Qb4 z).length:=by rw[he]
  simp[evs] at this
  omega)).mono ?_
 rintro _ w5 ⟨A5,c5,rfl,ho5,hx5⟩;rw[he] at ho5 ⊢;rw[show hist (Qb4 z) person=Qkh z person from rfl] at ho5 ⊢;have hhl:(Qkh z person).length<1000000:=Nat.lt_of_le_of_lt (List.length_filter_le _ _) hz
 conv=>whnf
 refine(Qrp _ A5 c5 w4.heap.size w5 ho5 hhl).mono ?_;rintro _ w6 ⟨rfl,ho6,hx6⟩
 conv=>whnf
 have hx:=hx6 w (hx4.trans hx5) hx4.size;rw[show (Qkh z person).filter (fun e=>decide (0<Qy e))=Qjy z person from rfl] at ho6 ⊢
 exact⟨A5,c5,rfl,ho6.base hx4.size,hx⟩
end Go.Proofs.YtohkipkjleldpaaGreatDoor
namespace Go.Proofs.YtohkipkjleldpaaGreatDoor
open Go.Se Go.RowKit Go.Shelf Go.Sort Go.Maps Go.WideElems
def byT (x:ByteArray):List UInt8:=x.data.toList
theorem Q91 {a b:ByteArray} (h:byT a=byT b):a=b:=by
 have:=congrArg List.toArray h;unfold byT at this
 simp at this
 cases a;cases b
 simpa using this
theorem Qnn {d e:Array (List UInt8)}:∀ m:Nat,(∀ j,j<m→d[j]! = e[j]!)→Lib.compactUpTo d m=Lib.compactUpTo e m
 | 0,_=>rfl
 | m+1,h=>by
   rw[Lib.compactUpTo_succ,Lib.compactUpTo_succ,Qnn m fun j hj=>h j (by omega)]
   have hk:Lib.keeps d m=Lib.keeps e m:=by
    unfold Lib.keeps;rw[h m (by omega),h (m-1) (by omega)]
   rw[hk,h m (by omega)]
theorem Qm4:∀ l:List ByteArray,Srt bLt l→∃ K:List ByteArray,Lib.compact (l.map byT)=K.map byT∧K.Nodup∧(∀ x,x∈K↔x∈l)∧Srt bLt K:=by
 refine Qu (fun _=>⟨[],rfl,List.nodup_nil,by simp,Srt.nil⟩) fun l a ih hs => ?_
 obtain⟨K,h1,h2,h3,h4⟩:=ih hs.left
 have hup:Lib.compactUpTo ((l ++ [a]).map byT).toArray l.length=K.map byT:=by
  rw[← h1];unfold Lib.compact;rw[List.length_map];refine Qnn _ fun j hj => ?_
  rw[getElem!_pos _ j (by simp;omega),getElem!_pos _ j (by simpa using hj)];simp only[List.getElem_toArray,List.getElem_map,List.getElem_append_left hj]
 have hlast:((l ++ [a]).map byT).toArray[l.length]! = byT a:=by
  rw[getElem!_pos _ l.length (by simp)]
  simp
 have hc:Lib.compact ((l ++ [a]).map byT)=K.map byT++(if Lib.keeps ((l ++ [a]).map byT).toArray l.length then [byT a] else []):=by
  unfold Lib.compact;rw[List.length_map,List.length_append,List.length_cons,List.length_nil,Lib.compactUpTo_succ,hup,hlast]
 rw[hc];have hsa:∀ u∈l,bLt a u=false:=fun u hu=>hs.across u hu a (by simp)
 cases hk:Lib.keeps ((l ++ [a]).map byT).toArray l.length with
 | true =>
   have hne:a∉l:=by
    intro ha;rcases List.eq_nil_or_concat l with rfl | ⟨l0,b,hb⟩
    · simp at ha
    · have hb:l=l0 ++ [b]:=by simpa using hb
      have hab:a≠b:=by
       rintro rfl;unfold Lib.keeps at hk;rw[decide_eq_true_eq] at hk;rcases hk with hk | hk
       · rw[hb] at hk;simp at hk
       · apply hk
         rw[hlast,getElem!_pos _ (l.length-1) (by simp;omega)]
         simp[hb]
      rcases (by rw[hb,List.mem_append,List.mem_singleton] at ha;exact ha:a∈l0∨a=b) with h | h
      · have q1:bLt b a=false:=by
         have:=hs.left;rw[hb] at this
         exact this.across a h b (by simp)
        have q2:bLt a b=false:=hsa b (by rw[hb];simp)
        exact hab (Qa9 q2 q1)
      · exact hab h
   refine⟨K ++ [a],by simp,?_,fun x => ?_,?_⟩
   · rw[List.nodup_append]
     exact⟨h2,by simp,fun u hu v hv=>by
      rw[List.mem_singleton] at hv;subst hv;rintro rfl
      exact hne ((h3 _).1 hu)⟩
   · rw[List.mem_append,List.mem_append,h3]
   · exact Srt.append h4 (Srt.one a) fun u hu v hv=>by
      rw[List.mem_singleton] at hv;subst hv
      exact hsa u ((h3 u).1 hu)
 | false =>
   have hin:a∈l:=by
    unfold Lib.keeps at hk;rw[decide_eq_false_iff_not] at hk;rcases List.eq_nil_or_concat l with rfl | ⟨l0,b,hb⟩
    · exact absurd (.inl rfl) hk
    · have hb:l=l0 ++ [b]:=by simpa using hb
      have e:((l ++ [a]).map byT).toArray[l.length]! = ((l ++ [a]).map byT).toArray[l.length-1]! := Classical.byContradiction fun hne=>hk (.inr hne)
      rw[hlast,getElem!_pos _ (l.length-1) (by simp;omega)] at e;have e2:byT a=byT b:=by rw[e];simp[hb]
      rw[Q91 e2,hb]
      simp
   refine⟨K,by simp,h2,fun x => ?_,h4⟩;rw[h3,List.mem_append,List.mem_singleton];constructor
   · exact .inl
   · rintro (h | h)
     · exact h
     · rw[h];exact hin
theorem Qup (l:List ByteArray):Lib.compact ((Xb l).map byT)=(Qbt l).map byT:=by
 obtain⟨K,h1,h2,h3,h4⟩:=Qm4 (Xb l) (Qe6 l);rw[h1]
 have:K=Qbt l:=by
  rw[← Qga h2 fun x=>(h3 x).trans Qgc]
  exact Qb8 (List.Perm.refl _) h4
 rw[this]
theorem Qzh (l:List ByteArray) (A:Option Addr) (c base:Nat) (w:World) (hown:Own Qav 1 9 base w A c (Xb l)) (hl:l.length<1000000) :
 Cal Tryz.prog 311 [.slice A (Xb l).length c] w fun r w'=>r = .slice A (Qbt l).length c∧SlT w' A (Qbt l)∧∀ w0,Ext w0 w→w0.heap.size≤base→Ext w0 w':=by
 by_cases h0:l = []
 · subst h0
   have e1:Xb [] = []:=Qe5;have e2:Qbt [] = []:=by simp[Qbt,Q1x,Qe5]
   rw[e1,e2];refine Qa3 ⟨_,Tryz.func311,rfl,rfl⟩ (Tryz.slices_Compact_string_empty A c w) ?_;rintro w' rfl
   exact⟨rfl,Sl.nil,fun w0 h _=>h⟩
 · have hpos:0<l.length:=List.length_pos_iff.2 h0
   have hll:(Xb l).length=l.length:=(Qa6 l).length_eq;rcases hown.2 with⟨_,h1⟩ | ⟨g,cap,cur,hv,hb,hg,hc1,hc2,hc3,hc4⟩
   · omega
   injection hv with hA _ hcc;subst hA;subst hcc;have hset:=Qup l;have hsl:((Xb l).map byT).length=(Xb l).length:=List.length_map _;have hkl:(Qbt l).length≤l.length:=Qkz l;obtain⟨n,hn⟩:∃ n,n=(Xb l).length-(Qbt l).length:=⟨_,rfl⟩;have hH:Holds encStr w g 0 ((Xb l).map byT).toArray:=holds_of_block hg (by rw[hsl];unfold byT;rw[← Qgg,← hc4,Nat.mul_one]);have hcall:=Tryz.slices_Compact_string g 0 c ((Xb l).map byT) w hH (by rw[hsl];omega) (by rw[hsl];exact hc1);rw[hset,hsl,List.length_map,← hn] at hcall;refine Qa3 ⟨_,Tryz.func311,rfl,rfl⟩ hcall ?_;rintro w' ⟨q,rfl⟩
   have hM:(Qbt l).map byT++List.replicate n []=(Qbt l++List.replicate n (⟨#[]⟩:ByteArray)).map byT:=by
    rw[List.map_append,List.map_replicate];rfl
   rw[hM]
   have hMl:(Qbt l++List.replicate n (⟨#[]⟩:ByteArray)).length=(Xb l).length:=by
    rw[List.length_append,List.length_replicate];omega
   generalize hW:Qbt l++List.replicate n (⟨#[]⟩:ByteArray)=M at hMl ⊢;have hgr:putRow encStr (Sort.ahead w q) g 0 (M.map byT).toArray=grow (putRow encStr (Sort.ahead w q) g 0 (M.map byT).toArray) #[]:=by rw[grow_empty]
   rw[hgr];refine⟨rfl,?_,fun w0 hx hb0 => ?_⟩
   · have hrow:=ownsRow_sorted (w:=w) (n:=q) (os := #[]) (ss:=(Xb l).map byT) (ts:=M.map byT) (by rw[List.length_map,List.length_map];exact hMl) hb hg (by rw[hsl];exact hc1) hc2 hc3
     rw[hsl,← hMl] at hrow;have hb2:(M.map byT).map encStr=M.flatMap Qav:=by rw[Qgg];rfl
     rw[hb2] at hrow;obtain⟨A',c',he,ho⟩:=Qbj (enc:=Qav) (l:=M) hrow rfl rfl
     cases he
     have hs:=(ho.sl Xi);intro i x hi;refine hs i x ?_;rw[← hW,List.getElem?_append_left (List.getElem?_eq_some_iff.1 hi).1]
     exact hi
   · have hg2:=grownBy_sorted (w:=w) (g:=g) (n:=q) (os := #[]) (M.map byT).toArray
     exact Qr hx hg2 fun k hk=>by cases hk;omega
theorem Q0d (a b:ByteArray) (w:World):Cal Tryz.prog 178 [.string a,.string b] w fun r w'=>r = .bool (bLt a b)∧w'=w:=by
 refine Fi Tryz.func178 rfl _ rfl rfl (Hh ?_);refine(Qfg a w).mono ?_;rintro _ w1 ⟨rfl,hw1⟩;subst hw1
 conv=>whnf
 refine⟨Unit,fun _ => .bool false,fun _ w'=>w'=w1,(),fun _=>(Qfg b w1).mono fun r w' h=>⟨(),h.1,h.2⟩,?_⟩;intro _ w2 h2
 have hw2:w2=w1:=by
  rcases h2 with⟨_,h⟩ | ⟨_,h⟩
  · exact h
  · exact h
 subst hw2;clear h2
 conv=>whnf
 exact⟨by simp[bLt],rfl⟩
theorem Qls (a:ByteArray) (w:World):Cal Tryz.prog 354 [.string a] w fun r w'=>r = .bool false∧w'=w:=by
 refine Fi Tryz.func354 rfl _ rfl rfl (Hh ?_)
 exact⟨by simp,rfl⟩
theorem Q5l {l:List ByteArray} (hs:Srt bLt l) {x:ByteArray} {i:Nat} (hi:i≤l.length) (h1:∀ t,t<i→∀ (ht:t<l.length),bLt l[t] x=true) (h2:∀ t,i≤t→∀ (ht:t<l.length),bLt l[t] x=false):(x∈l↔∃ ht:i<l.length,l[i]=x):=by
 constructor
 · intro hx
   obtain⟨t,ht,rfl⟩:=List.getElem_of_mem hx;rcases Nat.lt_or_ge t i with h | h
   · have:=h1 t h ht
     rw[Xj] at this
     cases this
   · have hil:i<l.length:=by omega
     refine⟨hil,?_⟩;have q1:=h2 i (Nat.le_refl _) hil
     have q2:bLt l[t] l[i]=false:=by
      rcases Nat.lt_or_ge i t with h3 | h3
      · exact List.pairwise_iff_getElem.1 hs i t hil ht h3
      · obtain rfl:i=t:=by omega
        exact Xj _
     exact Qa9 q1 q2
 · rintro ⟨ht,rfl⟩
   exact List.getElem_mem ht
theorem Q2g (l:List ByteArray) (hs:Srt bLt l) (A:Option Addr) (c:Nat) (x:ByteArray) (w:World) (hl:l.length<1000000) (hsl:SlT w A l) :
 Cal Tryz.prog 313 [.slice A l.length c,.string x] w fun r w'=>(∃ k:Nat,r = .tuple #[.int .i64 (k:Nat),.bool (decide (x∈l))])∧Ext w w':=by
 refine Fi Tryz.func313 rfl _ rfl rfl (Hh ?_)
 refine Qh Qa (fun(p:Nat×Nat) w'=>p.1≤p.2∧p.2≤l.length∧(∀ t,t<p.1→∀ (ht:t<l.length),bLt l[t] x=true)∧(∀ t,p.2≤t→∀ (ht:t<l.length),bLt l[t] x=false)∧w'=w)
  (fun | (i,j) => [(0,.slice A l.length c),(1,.string x),(6,.int .i64 l.length),(7,.int .i64 (i:Nat)),(8,.int .i64 (j:Nat))]) (fun p=>p.2-p.1) (0,l.length) ⟨Nat.zero_le _,Nat.le_refl _,fun t h=>by simp at h,fun t h ht=>by simp at h;omega,rfl⟩ Rr ?_
 rintro ⟨i,j⟩ w1 ⟨hij,hjn,hi,hj,hw1⟩;simp only at hij hjn hi hj;subst hw1
 conv=>whnf
 constructor
 · intro hlt
   have hlt:i<j:=by simpa using hlt
   obtain⟨h,hh⟩:∃ h,h=(i+j)/2:=⟨_,rfl⟩;have hhl:h<l.length:=by omega
   conv=>whnf
   refine⟨((i+j:Nat):Int),Qaq (by omega),Hh ?_⟩;refine⟨((i+j:Nat):Int),Qos (by omega),Hh ?_⟩;refine⟨(h:Int),by rw[hh];exact Qja _,Hh ?_⟩;refine⟨(h:Int),Qor (by omega),Hh ?_⟩;obtain⟨a,hA,hc⟩:=hsl.get hhl;subst hA;refine⟨a,Ix,Hh ?_⟩;refine⟨.string l[h],Qv hc,Hh ?_⟩;refine(Q0d l[h] x w1).mono ?_;rintro _ w2 ⟨rfl,hw2⟩;subst hw2
   conv=>whnf
   constructor
   · intro hq
     have hq:bLt l[h] x=true:=hq
     conv=>whnf
     refine⟨_,wrap_succ (by omega),Hh ?_⟩;refine⟨(h+1,j),by simp only;omega,⟨by simp only;omega,hjn,fun t ht htl => ?_,hj,rfl⟩,Rr⟩
     cases hb:bLt l[t] x with
     | true=>rfl
     | false =>
       have hht:bLt l[h] l[t]=false:=by
        rcases Nat.lt_or_ge t h with h3 | h3
        · exact List.pairwise_iff_getElem.1 hs t h htl hhl h3
        · obtain rfl:t=h:=by have:t<h+1:=ht;omega
          exact Xj _
       rw[Qeq hht hb] at hq
       cases hq
   · intro hq
     have hq:bLt l[h] x=false:=hq
     conv=>whnf
     refine⟨(i,h),by simp only;omega,⟨by simp only;omega,by simp only;omega,hi,fun t ht htl => ?_,rfl⟩,Rr⟩;have ht:h≤t:=ht
     have hht:bLt l[t] l[h]=false:=by
      rcases Nat.lt_or_ge h t with h3 | h3
      · exact List.pairwise_iff_getElem.1 hs h t hhl htl h3
      · obtain rfl:t=h:=by omega
        exact Xj _
     exact Qeq hht hq
 · intro hge
   have hge:j≤i:=by simpa using hge
   obtain rfl:i=j:=by omega
   have hin:=Q5l hs hjn hi hj
   conv=>whnf
   by_cases hil:i<l.length
   · obtain⟨a,hA,hc⟩:=hsl.get hil
     subst hA;refine⟨a,fun _=>Ix,Hh ?_⟩;refine⟨.string l[i],fun _=>Qv hc,Hh ?_⟩;refine⟨a,fun _ _=>(show _∧_ from Ix),Hh ?_⟩;refine⟨.string l[i],fun _ _=>Qv hc,Hh ?_⟩;refine⟨Unit,fun _ => .bool false,fun _ w'=>w'=w1,(),fun _ _=>(Qls l[i] w1).mono fun r w' h=>⟨(),h.1,h.2⟩,?_⟩;intro _ w2 h2
     have hw2:w2=w1:=by
      rcases h2 with⟨_,h⟩ | ⟨_,h⟩
      · exact h
      · exact h
     subst hw2;clear h2
     conv=>whnf
     refine⟨Unit,fun _ => .bool false,fun _ w'=>w'=w2,(),fun _ _ _=>(Qls x w2).mono fun r w' h=>⟨(),h.1,h.2⟩,?_⟩;intro _ w3 h3
     have hw3:w3=w2:=by
      rcases h3 with⟨_,h⟩ | ⟨_,h⟩
      · exact h
      · exact h
     subst hw3;clear h3
     conv=>whnf
     refine⟨⟨i,?_⟩,Ext.refl _⟩;have hlt':decide ((i:Int)<(l.length:Int))=true:=by simpa using hil
     have hd:decide (x∈l)=decide (l[i]=x):=by
      rw[Bool.eq_iff_iff,decide_eq_true_iff,decide_eq_true_iff,hin]
      exact⟨fun⟨_,h⟩=>h,fun h=>⟨hil,h⟩⟩
     rw[hd]
     simp[hlt',hil]
   · have hd:decide (x∈l)=false:=by
      rw[decide_eq_false_iff_not,hin]
      exact fun⟨h,_⟩=>hil h
     have hg0:∀ {q:Prop},decide ((i:Int)<(l.length:Int))=true→q:=fun h=>by simp at h;omega
     refine⟨⟨0,0,none⟩,fun h=>hg0 h,Hh ?_⟩;refine⟨.string x,fun h=>hg0 h,Hh ?_⟩;refine⟨⟨0,0,none⟩,fun _ h=>hg0 h,Hh ?_⟩;refine⟨.string x,fun _ h=>hg0 h,Hh ?_⟩;refine⟨Unit,fun _ => .bool false,fun _ w'=>w'=w1,(),fun _ h=>hg0 h,?_⟩;intro _ w2 h2
     have hw2:w2=w1:=by
      rcases h2 with⟨_,h⟩ | ⟨_,h⟩
      · exact h
      · exact h
     subst hw2;clear h2
     conv=>whnf
     refine⟨Unit,fun _ => .bool false,fun _ w'=>w'=w2,(),fun _ _ h=>hg0 h,?_⟩;intro _ w3 h3
     have hw3:w3=w2:=by
      rcases h3 with⟨_,h⟩ | ⟨_,h⟩
      · exact h
      · exact h
     subst hw3;clear h3
     conv=>whnf
     refine⟨⟨i,?_⟩,Ext.refl _⟩;rw[hd];have hlt':decide ((i:Int)<(l.length:Int))=false:=by simp;omega
     simp[hlt']
     omega
end Go.Proofs.YtohkipkjleldpaaGreatDoor
