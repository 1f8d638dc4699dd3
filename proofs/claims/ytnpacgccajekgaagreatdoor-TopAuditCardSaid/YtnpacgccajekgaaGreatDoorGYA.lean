import Derived.Test.YtnpacgccajekgaaGreatDoorGXB
import Derived.Test.YtnpacgccajekgaaGreatDoorGX
set_option linter.all false
namespace Go.Proofs.YtnpacgccajekgaaGreatDoor
open Go.Se Go.RowKit Go.Sort
section
variable {α:Type}
def Qh7(lt:α->α->Bool)(L:List α):List α:=L.mergeSort fun a b=>!lt b a
theorem Qbs(lt)(L:List α):(Qh7 lt L).Perm L:=Zby _ _
theorem Xcw{lt}(h:Go.Sort.SWO lt)(L:List α):Srt lt (Qh7 lt L):=by
 have:=Zbf (le:=fun a b=>!lt b a) (fun a b c d e=>by
  simp only[Zam]at*;exact h.ntrans c b a e d) (fun a b=>by
  cases d:lt b a with
  |false=>rfl
  |true =>
   cases e:lt a b with
   |false=>rfl
   |true=>have:=h.trans _ _ _ d e;rw[h.irrefl]at this;cases this) L
 exact this.imp fun h=>Su h
theorem Quu{lt}(h:Go.Sort.SWO lt){F L:List α}(a:F.Perm L)(b:Srt lt F)(c:∀x∈L,∀y∈L,lt x y=false->lt y x=false->x=y):F=Qh7 lt L:=
 Ql5 (a.trans (Qbs lt L).symm) b (Xcw h L) fun x hx y d=>c x (a.mem_iff.1 hx) y (a.mem_iff.1 d)
def Qnw(P:α->Prop)[DecidablePred P](L:List α):List { x // P x }:=L.filterMap fun x=>if h:P x then some ⟨x,h⟩ else none
theorem Qnx{P}[DecidablePred P]:∀{L:List α},(∀x∈L,P x)->(Qnw P L).map (·.1)=L
 |[],_=>rfl
 |x::L,h=>by
  have a:=Qnx (L:=L) fun y b=>h y (by simp[b])
  have hx:P x:=h x (by simp);unfold Qnw at a⊢;rw[List.filterMap_cons,dif_pos hx];simp only[Zm,a]
theorem Q3n{P:α->Prop}[DecidablePred P]:∀F:List { x // P x },Qnw P (F.map (·.1))=F
 |[]=>rfl
 |x::F=>by
  have a:=Q3n F;unfold Qnw at a⊢;rw[Zm,List.filterMap_cons,dif_pos x.2];simp only[a]
theorem Xc4{P}[DecidablePred P]{L M:List α}(h:L.Perm M):(Qnw P L).Perm (Qnw P M):=h.filterMap _
theorem Qir{P:α->Prop}[DecidablePred P]{L x}:x∈Qnw P L↔x.1∈L:=by
 unfold Qnw;rw[List.mem_filterMap];constructor
 .rintro ⟨y,a,h⟩;split at h
  .cases h;exact a
  .cases h
 .intro h;exact⟨x.1,h,by rw[dif_pos x.2]⟩
theorem Qsg{P:α->Prop}[DecidablePred P]{lt}(h:Go.Sort.SWO lt){F L}(a:(F.map (·.1)).Perm L)(b:Srt lt F)
 (c:∀x∈Qnw P L,∀y∈Qnw P L,lt x y=false->lt y x=false->x=y):F=Qh7 lt (Qnw P L):=by
 refine Quu h ?_ b c;have:=Xc4 (P:=P) a;rw[Q3n]at this;exact this
end
theorem key_inj{β:Type}{L:List (Bj×β)}(h:(L.map (·.1)).Nodup){x y}(hx:x∈L)(d:y∈L)(e:x.1=y.1):x=y:=by
 induction L with
 |nil=>simp at hx
 |cons a g f =>
  rw[Zm,Zbp]at h;rcases Zr.1 hx with b|b<;>rcases Zr.1 d with c|c
  .rw[b,c]
  .subst b;exact absurd (Zh.2 ⟨y,c,e.symm⟩) h.1
  .subst c;exact absurd (Zh.2 ⟨x,b,e⟩) h.1
  .exact f h.2 b c
instance:DecidablePred Qsq:=fun x=>by unfold Qsq;exact inferInstance
theorem Q82{a b}(h:ltOf Qjc a b=false)(k:ltOf Qjc b a=false):a.1.1=b.1.1:=by
 have d:WC Qjc:=(by rw[Qol];refine WC.lex (WC.flip (Xdz (fun x:RiS=>riR x.1) fun x=>?_)) (WC.lex (WC.flip (Q3x fun x:RiS=>x.1.2.1)) (Qjt fun x:RiS=>x.1.1));have:=x.2.2.1;unfold riR;simp only;omega);have e:Qjc a b=0:=(by unfold ltOf at h k;simp only[decide_eq_false_iff_not]at h k;have:=d.anti b a;omega);rw[Qol]at e;unfold Qva at e;split at e
 .rename_i c;exact absurd e c
 split at e
 .rename_i c;exact absurd e c
 exact Qb5.1 e
def Xlx(c:Cfg)(z:List Ev)(now:Int):List Ri:=
 Qcm (Qi c.width z).ps ((Qjm c now-2*c.span)/Xf c.width) ((Qjm c now-c.span)/Xf c.width) (Qjm c now/Xf c.width) c.floor
  (Qc3 (Qi c.width z).ps ((Qjm c now-c.span)/Xf c.width) (Qjm c now/Xf c.width))
def Xlw(c:Cfg)(z:List Ev)(now:Int):List RiS:=Qh7 (ltOf Qjc) (Qnw Qsq (Xlx c z now))
theorem Qr9(s a b d f lo hi):((Qcm s a b d f (Qc3 s lo hi)).map (·.1)).Nodup:=by
 have h:(Qcm s a b d f (Qc3 s lo hi)).map (·.1)=((Qc3 s lo hi).filter fun k=>decide (f<=(Xf6 s a b d k).2.1)):=by
  unfold Qcm;generalize Qc3 s lo hi=K
  induction K with
  |nil=>rfl
  |cons k K e =>
   rw[Zm]
   by_cases c:f<=(Xf6 s a b d k).2.1
   .rw[Zb4 (Su c),Zb4 (Su c),Zm,e];rfl
   .rw[Zbr (Su c),Zbr (Su c),e]
 rw[h];exact(Qdi _).sublist Zax
theorem Xly{s a b d f lo hi F}(g:(F.map (·.1)).Perm (Qcm s a b d f (Qc3 s lo hi)))(h:Srt (ltOf Qjc) F):F=Qh7 (ltOf Qjc) (Qnw Qsq (Qcm s a b d f (Qc3 s lo hi))):=
 Qsg Qv6 g h fun x hx y i c e=>Subtype.ext (key_inj (Qr9 s a b d f lo hi) (Qir.1 hx) (Qir.1 i) (Q82 c e))
abbrev Nr:=Bj×(Int×Int)
def Qq8(x:Nr):Prop:=Qld 100000000 x.2
instance:DecidablePred Qq8:=fun x=>by unfold Qq8 Qld;exact inferInstance
abbrev NrS:={ x:Nr // Qq8 x }
instance:Inhabited NrS:=⟨⟨(⟨#[]⟩,0,1),by unfold Qq8 Qld;simp⟩⟩
def Xiu(a b:Nr):Int:=orL [Qqo b.2 a.2,Qcp a.1 b.1]
def Qj5(a b:NrS):Int:=Xiu a.1 b.1
theorem Qv4:Qj5=Qva (fun a b:NrS=>Qqo b.1.2 a.1.2) (fun a b:NrS=>Qcp a.1.1 b.1.1):=by
 funext a b;unfold Qj5 Xiu Qva orL
 by_cases c:Qqo b.1.2 a.1.2=0
 .by_cases d:Qcp a.1.1 b.1.1=0<;>simp[c,d]
 .simp[c]
theorem Q2c:WC Qj5:=by
 rw[Qv4];refine WC.lex (WC.flip (Xdz (fun x:NrS=>x.1.2) fun x=>?_)) (Qjt fun x:NrS=>x.1.1);have:=x.2.2.2.1;omega
theorem Qv5:SWO (ltOf Qj5):=Q2c.swo
theorem Q81{a b}(h:ltOf Qj5 a b=false)(k:ltOf Qj5 b a=false):a.1.1=b.1.1:=by
 have e:Qj5 a b=0:=(by unfold ltOf at h k;simp only[decide_eq_false_iff_not]at h k;have:=Q2c.anti b a;omega);rw[Qv4]at e;unfold Qva at e;split at e
 .rename_i c;exact absurd e c
 exact Qb5.1 e
def Qhb(S:List Sn)(floor:Int)(a:Bj):List Nr:=((Qew S a).filter fun b=>decide (floor<=(Qd6 S a b:Int))).map fun b=>(b,Qha S a b)
def Qd8(K:List Bj)(m:List Nr)(x:Nr):List Nr:=
 if x.1∈K then m else match Qe m x.1 with
  |none=>Xe m x.1 x.2
  |some a=>if Qxg a x.2=true then Xe m x.1 x.2 else m
def Qof(S:List Sn)(floor:Int)(K:List Bj):List Nr:=(K.flatMap (Qhb S floor)).foldl (Qd8 K) []
def Q79(S:List Sn)(floor:Int)(items:List Bj):List NrS:=Qh7 (ltOf Qj5) (Qnw Qq8 (Qof S floor (Qci items)))
theorem Qj0{K}{Q:Nr->Prop}:∀(l:List Nr) (m:List Nr),(m.Pairwise fun x y=>x.1≠y.1)->(∀x∈m,x.1∉K/\Q x)->(∀x∈l,Q x) ->
 ((l.foldl (Qd8 K) m).Pairwise fun x y=>x.1≠y.1)/\∀x∈l.foldl (Qd8 K) m,x.1∉K/\Q x
 |[],m,b,a,_=>⟨b,a⟩
 |y::l,m,b,a,c=>by
  rw[Zaq];have f:=c y (by simp)
  have d:y.1∉K->((Xe m y.1 y.2).Pairwise fun x y=>x.1≠y.1)/\∀x∈Xe m y.1 y.2,x.1∉K/\Q x:=fun g=>⟨Qan b,fun x hx=>by
   rcases Qby hx with h|h
   .rw[h];exact⟨g,f⟩
   .exact a x h⟩
  have e:((Qd8 K m y).Pairwise fun x y=>x.1≠y.1)/\∀x∈Qd8 K m y,x.1∉K/\Q x:=by
   unfold Qd8;split
   .exact⟨b,a⟩
   .next h =>
    split
    .exact d h
    .split
     .exact d h
     .exact⟨b,a⟩
  exact Qj0 l _ e.1 e.2 fun x hx=>c x (by simp[hx])
theorem Xa3{S}(d:S.length<1000){floor a}:∀x∈Qhb S floor a,Qq8 x:=fun x hx=>by
 unfold Qhb at hx;obtain⟨b,_,rfl⟩:=Zh.1 hx;have c:(S.length:Int)*S.length<=100000000:=(by have:(S.length:Int)*S.length<=1000*1000:=Zb2 Om Om Om Om;omega);exact Qz4 c Om a b
theorem Qyy{S}(b:S.length<1000)(floor K):((Qof S floor K).map (·.1)).Nodup/\∀x∈Qof S floor K,x.1∉K/\Qq8 x:=by
 have h:=Qj0 (K:=K) (Q:=Qq8) (K.flatMap (Qhb S floor)) [] (by simp) (by simp) (fun x hx=>by
  obtain⟨a,_,hx⟩:=Zbh.1 hx;exact Xa3 b x hx)
 exact⟨Qah h.1,h.2⟩
theorem Xk2{S}(c:S.length<1000){floor items F}(d:(F.map (·.1)).Perm (Qof S floor (Qci items)))(e:Srt (ltOf Qj5) F):F=Q79 S floor items:=
 Qsg Qv5 d e fun x hx y f a b=>Subtype.ext (key_inj (Qyy c floor _).1 (Qir.1 hx) (Qir.1 f) (Q81 a b))
theorem Q8a{S}(b:S.length<1000){floor items}:((Q79 S floor items).map fun x=>x.1.1).Nodup:=by
 have h:=(Qyy b floor (Qci items));have a:((Q79 S floor items).map fun x=>x.1.1).Perm ((Qof S floor (Qci items)).map (·.1)):=(by have:=(Qbs (ltOf Qj5) (Qnw Qq8 (Qof S floor (Qci items)))).map (·.1);rw[Qnx fun x hx=>(h.2 x hx).2]at this;have:=this.map (·.1);rw[Zz]at this;exact this);exact a.nodup_iff.2 h.1
def Qmf(z:List Ev)(person:Bj):List Ev:=(Qfs z person).filter fun e=>decide (0<Qz e)
def Xnf(z:List Ev)(person:Bj):List Bj:=(Qmf z person).map (·.item)
def Qmk(half now:Int)(m:List Ct)(e:Ev):List Ct:=Xe m e.item ((Qe m e.item).getD 0+Qq6 half now e)
def Qft(half now:Int)(l:List Ev):List Ct:=l.foldl (Qmk half now) []
theorem Qik(half now l e):Qft half now (l++[e])=Qmk half now (Qft half now l) e:=by unfold Qft;rw[Zv];rfl
def Qqz(half now:Int)(l:List Ev)(x:Bj):Int:=((l.filter fun e=>decide (e.item=x)).map (Qq6 half now)).sum
theorem Qry(half now l e x):Qqz half now (l++[e]) x=Qqz half now l x+if e.item=x then Qq6 half now e else 0:=by
 unfold Qqz;rw[Zq,Zp,Zbj];congr 1
 by_cases h:e.item=x
 .simp[h]
 .simp[h]
theorem Qlr(half now):∀l:List Ev,(Qft half now l).Pairwise (fun x y=>x.1≠y.1):=
 Qw (by simp[Qft]) fun l e a=>by rw[Qik];exact Qan a
theorem Qrx(half now x):∀l:List Ev,Qe (Qft half now l) x=if x∈l.map (·.item) then some (Qqz half now l x) else none:=by
 refine Qw (by simp[Qft,Qe]) fun l e b=>?_
 rw[Qik,Qry];unfold Qmk;rw[Xr,Zp,Zm,Zbk]
 by_cases h:x=e.item
 .subst h;rw[if_pos rfl,if_pos (by simp),if_pos rfl,b]
  by_cases a:e.item∈l.map (·.item)
  .rw[if_pos a];rfl
  .rw[if_neg a]
   have:Qqz half now l e.item=0:=by
    unfold Qqz;rw[Zct.2]
    .rfl
    .intro y f d;exact a (Zh.2 ⟨y,f,Su d⟩)
   rw[this];rfl
 .rw[if_neg h,b];have c:¬e.item=x:=fun q=>h q.symm
  by_cases a:x∈l.map (·.item)
  .rw[if_pos a,if_pos (by simp[a]),if_neg c,Int.add_zero]
  .rw[if_neg a,if_neg (by simp only[Zj,Zl];rintro (q|q);exact a q;exact h q)]
theorem Qpc(half now x):∀l:List Ev,(∀e∈l,Xy e=true)->0<=Qqz half now l x/\Qqz half now l x<=l.length*5242880:=by
 refine Qw (by simp[Qqz]) fun l e c a=>?_
 have d:=c fun y b=>a y (by simp[b])
 have f:=Qis (half:=half) (now:=now) (a e (by simp));rw[Qry,Zo,Zx,Zae];split
 .constructor
  .omega
  .push_cast;omega
 .constructor
  .omega
  .push_cast;omega
theorem Qwz{half now l x}(h:x∈Qft half now l):x.1∈l.map (·.item)/\x.2=Qqz half now l x.1:=by
 have:=Qcl (Qlr half now l) (k:=x.1) (v:=x.2) h;rw[Qrx]at this;split at this
 .next a=>exact⟨a,(Zbc this).symm⟩
 .cases this
theorem Qvv(name):∀cs:List Ev,∀s∈Qy cs name,s.item.name=name:=by
 refine Qw (by simp[Qy]) fun cs e b=>?_
 rw[Qbg];unfold Qfn Qm6
 by_cases c:name=e.item
 .subst c;rw[if_pos rfl];intro s a;rcases Zj.1 a with a|a
  .exact b s a
  .rw[Zl]at a;subst a;unfold Qfj;rw[Q08]
   cases d:(Qy cs e.item).getLast? with
   |none=>rfl
   |some f=>exact b f (Zbu d)
 .rw[if_neg c];exact b
theorem Q4g{cs name t}(h:(Xz cs name t).2=true):(Xz cs name t).1.name=name:=by
 unfold Xz at*;split at h
 .next s b =>
  split at h
  .cases h
  .next a =>
   rw[if_neg a];exact Qvv name cs s (Zap b)
 .cases h
theorem Xao{cs name t}(h:Qdw cs t name=true):(Xz cs name t).1.name=name:=Q4g (by
 unfold Qdw at h;rw[Zk]at h;exact h.1)
theorem Qls{cs t x}(h:Qdw cs t x=true):x∈cs.map (·.item):=by
 cases a:Qy cs x with
 |nil =>
  unfold Qdw Xz at h;rw[a]at h;simp at h
 |cons s d =>
  obtain⟨e,b,c,_⟩:=(Qrf x s.at_ cs).1 (by rw[a];simp);exact Zh.2 ⟨e,b,c⟩
theorem Qwh:∀l:List Ev,(Qje l).Pairwise (fun x y=>x.1≠y.1):=by
 refine Qw (by simp[Qje]) fun l e a=>?_
 rw[Qoq];unfold Qr8;split
 .exact a
 .exact Qan a
theorem Qlv{z now x}:x∈Qcy z now↔Qdw (Qm z) now x=true:=by
 unfold Qcy;rw[Qaa,Ze];exact⟨fun h=>h.2,fun h=>⟨Qls h,h⟩⟩
def Qjd(rs:List Row)(person item:Bj):Bool:=(Qe (Xk rs).done (person,item)).getD false
def Q7w(rs:List Row)(person item:Bj):Bool:=(Qe (Xk rs).hidden (person,item)).getD false
def keepR(rs:List Row)(person:Bj)(x:Ct):Bool:= !(decide (x.2<=0)||(Qjd rs person x.1||Q7w rs person x.1))
def thC(z:List Ev)(now:Int):List It:=(Qcy z now).map fun n=>(Xz (Qm z) n now).1
def Xld(t:It):Ct:=(t.name,t.born)
def Q23(z:List Ev)(now:Int)(q:It->Bool):List Ct:=Qgy (((thC z now).filter q).map Xld)
def Xku(z:List Ev)(person:Bj)(t:It):Bool:=Q2m z person t.maker
def Xml(c:Cfg)(now:Int)(t:It):Bool:=decide (now-t.born<=c.span)
def Xnb(c:Cfg)(z:List Ev)(person:Bj)(now:Int):List Ct:=Qgy ((Qft c.half now (Qmf z person)).filter (keepR (Qi c.width z).rs person))
def Qe4(c:Cfg)(z:List Ev)(person:Bj)(now:Int)(r:Nat):List Bj:=
 if r=0 then(Qgy (Qhe (Qi c.width z).ds (Xf c.half) now)).map (·.1)
 else if r=1 then(Xlw c z now).map fun x=>x.1.1
 else if r=2 then(Q79 (Qhd c z) 1 (Xnf z person)).map fun x=>x.1.1
 else if r=3 then(Q23 z now (Xku z person)).map (·.1)
 else if r=4 then(Q23 z now (Xml c now)).map (·.1)
 else if r=5 then(Xnb c z person now).map (·.1)
 else []
def Qhc(c:Cfg)(z:List Ev)(person:Bj)(now r a:Int):List Bj:=
 if 0<=r/\r<=5/\0<=now/\now<=1099511627776 then(Qe4 c z person now r.toNat).take a.toNat else []
theorem Xa1{z now K}(b:K.Nodup)(a:∀x,x∈K↔Qdw (Qm z) now x=true):Xh K=Qcy z now:=
 Qh4 b fun x=>by
  rw[a,Ze];exact⟨fun h=>⟨Qls h,h⟩,fun h=>h.2⟩
theorem Ql4(l):((Qgy l).map (·.1)).Perm (l.map (·.1)):=(Qgd l).map _
theorem Q7c{s}(h:s.Pairwise fun x y=>x.1≠y.1)(half now):((Qhe s half now).map (·.1)).Nodup:=by
 have c:=Qah h
 have:∀K:List Bj,(((K.map fun k=>(k,Qb6 s half k now)).filter fun x=>decide (0<x.2)).map (·.1))=K.filter fun k=>decide (0<Qb6 s half k now):=by
  intro K
  induction K with
  |nil=>rfl
  |cons k K b =>
   rw[Zm]
   by_cases a:0<Qb6 s half k now
   .rw[Zb4 (Su a),Zb4 (Su a),Zm,b]
   .rw[Zbr (Su a),Zbr (Su a),b]
 unfold Qhe;rw[this];exact c.sublist Zax
theorem Qyc(z now):(thC z now).map (·.name)=Qcy z now:=by
 unfold thC;rw[Zz]
 conv=>rhs;rw[<- List.map_id (Qcy z now)]
 exact Zbq fun x hx=>Xao (Qlv.1 hx)
theorem Qt2(z now q):((Q23 z now q).map (·.1)).Perm (((thC z now).filter q).map (·.name)):=by
 unfold Q23;refine(Ql4 _).trans ?_;rw[Zz];exact Za9 _
theorem Qw7(z now q):((Q23 z now q).map (·.1)).Nodup:=by
 refine(Qt2 z now q).nodup_iff.2 ?_;have h:(Qcy z now).Nodup:=Qdi _;rw[<- Qyc]at h;exact h.sublist (Zax.map _)
theorem Q50{z now q x}(h:x∈(Q23 z now q).map (·.1)):Qdw (Qm z) now x=true:=by
 have a:=(Qt2 z now q).mem_iff.1 h;obtain⟨t,c,rfl⟩:=Zh.1 a;have b:=(Ze.1 c).1;have:t.name∈(thC z now).map (·.name):=Zh.2 ⟨t,b,rfl⟩;rw[Qyc]at this;exact Qlv.1 this
theorem Qzm{L:List Ct}(h:L.Pairwise fun x y=>x.1≠y.1)(q):((L.filter q).map (·.1)).Nodup:=(Qah h).sublist (Zax.map _)
theorem Q77(c z person now):((Xnb c z person now).map (·.1)).Nodup:=(Ql4 _).nodup_iff.2 (Qzm (Qlr _ _ _) _)
theorem Xb0(c z now):((Xlw c z now).map fun x=>x.1.1).Nodup:=by
 have h:((Xlw c z now).map fun x=>x.1.1).Perm (((Qnw Qsq (Xlx c z now)).map (·.1)).map (·.1)):=by
  have:=(Qbs (ltOf Qjc) (Qnw Qsq (Xlx c z now))).map fun x=>x.1.1
  rw[Zz];exact this
 refine h.nodup_iff.2 ?_
 have b:∀L:List Ri,(((Qnw Qsq L).map (·.1)).map (·.1)).Sublist (L.map (·.1)):=by
  intro L
  induction L with
  |nil=>exact List.Sublist.refl _
  |cons x L a =>
   unfold Qnw at a⊢;rw[List.filterMap_cons]
   by_cases hx:Qsq x
   .rw[dif_pos hx];simp only[Zm];exact a.cons_cons _
   .rw[dif_neg hx];exact a.cons _
 exact(Qr9 _ _ _ _ _ _ _).sublist (b _)
theorem Qsb{c z}(a:(Qhd c z).length<1000)(person now r):(Qe4 c z person now r).Nodup:=by
 unfold Qe4;split
 .refine(Ql4 _).nodup_iff.2 (Q7c ?_ _ _);rw[(Qc7 c.width z).1];exact Qwh _
 split
 .exact Xb0 c z now
 split
 .exact Q8a a
 split
 .exact Qw7 _ _ _
 split
 .exact Qw7 _ _ _
 split
 .exact Q77 _ _ _ _
 .exact List.nodup_nil
theorem Q0l{c z}(a:(Qhd c z).length<1000)(person now r b):(Qhc c z person now r b).Nodup:=by
 unfold Qhc;split
 .exact(Qsb a person now _).sublist (Zc8 _ _)
 .exact List.nodup_nil
theorem Xb6{c z person now r a x}(h:x∈Qhc c z person now r a):x∈Qe4 c z person now r.toNat:=by
 unfold Qhc at h;split at h
 .exact Zay h
 .cases h
end Go.Proofs.YtnpacgccajekgaaGreatDoor
namespace Go.Proofs.YtnpacgccajekgaaGreatDoor
open Go.Se Go.RowKit
def Qnf(e:Ev):Bool:=decide (Qz e<=0)
def dV:Value:= .func (.func 305) #[] #[]
theorem Qop(e w):Cal Tryz.prog 305 [evV e] w fun r w'=>r=.bool (Qnf e)/\Ext w w':=by
 refine Fi Tryz.func305 rfl _ rfl rfl (Hh ?_);intro c b a;refine Gg ?_;have d:At b c 69 (evC e):=a.At;refine⟨evC e,⟨rfl,d.all⟩,Gg ?_⟩;refine(Qc2 e b).mono ?_;rintro _ g ⟨rfl,f⟩;refine Gg ?_;exact⟨rfl,a.ext.trans f⟩
theorem Qwd(l:List Ev)(A:Option Addr)(c:Nat)(w:World)(s:SlE w A l)(C:l.length<1000000) :
 Cal Tryz.prog 357 [.slice A l.length c,dV] w fun r w'=>r=Vj (match l.findIdx? (Qnf) with|some i=>(i:Int)|none=>-1)/\Ext w w':=by
 refine Fi Tryz.func357 rfl _ rfl rfl (Hh ?_)
 refine Qh Qb (fun(k:Nat) w'=>k<=l.length/\Ext w w'/\∀x∈l.take k,Qnf x=false)
  (fun k=>[(0,.slice A l.length c),(1,dV),(7,Vj l.length),(8,Vj (k:Nat))]) (fun k=>l.length-k) 0 ⟨Zt _,Ext.refl _,by simp⟩ Rr ?_
 rintro k u ⟨B,hx,e⟩;refine Hh ?_;constructor
 .intro d;have d:k<l.length:=Su d;obtain⟨a,rfl,g⟩:=(s.ext hx).get d;have n:=Qdb l k d;have m:Qnf l[k]=true->l.findIdx? (Qnf)=some k:=fun h=>(by rw[Z9];refine⟨d,h,fun j v=>?_⟩;have z:j<l.length:=Om;have:=e l[j] (by rw[Zcb];exact⟨j,Om,rfl⟩);simp[this])
  generalize l[k]=x at g n m;refine Gg ?_;refine⟨a,Ix,Gg ?_⟩;refine⟨evC x,⟨rfl,g⟩,Gg ?_⟩;refine(Qop x u).mono ?_;rintro _ D ⟨rfl,o⟩;refine Gg ?_;constructor
  .intro h;rw[m h];refine Gg ?_;exact⟨rfl,hx.trans o⟩
  .intro h;have h:Qnf x=false:=h;refine Gg ?_;refine⟨_,wrap_succ Om,Gg ?_⟩;refine⟨k+1,Om,⟨Om,hx.trans o,fun y b=>?_⟩,Rr⟩;rw[n]at b;rcases Zj.1 b with b|b
   .exact e y b
   .rw[Zl]at b;rw[b];exact h
 .intro f;have f:l.length<=k:=Su f;rw[Zd f]at e;have:l.findIdx? (Qnf)=none:=(by rw[Zav];exact e);rw[this];refine Gg ?_;exact⟨rfl,hx⟩
set_option maxHeartbeats 2000000 in
theorem Q85(l a c base w)(b:Own evC 8 69 base w (some a) c l)(ak:l.length<1000000)(ag:l.any (Qnf)=true) :
 Cal Tryz.prog 304 [.slice (some a) l.length c,dV] w fun r w'=>r=.slice (some a) (l.filter fun e=>!Qnf e).length c/\Own evC 8 69 base w' (some a) c (l.filter fun e=>!Qnf e)/\Mod (fun k=>k=a.block) w w':=by
 have ar:=b.le
 obtain⟨m,S,J,E⟩:∃i,∃(h:i<l.length),Qnf l[i]=true/\∀j (g:j<i),Qnf (l[j]'Om)=false:=by
  cases h:l.findIdx? (Qnf) with
  |none =>
   rw[Zav]at h;obtain⟨x,hx,d⟩:=Zb7.1 ag;rw[h x hx]at d;cases d
  |some i =>
   rw[Z9]at h;obtain⟨u,ab,ac⟩:=h;exact⟨i,u,ab,fun j g=>by simpa using ac j g⟩
 have R:l.findIdx? (Qnf)=some m:=(by rw[Z9];exact⟨S,J,fun j g=>by simp[E j g]⟩);have P:(l.take (m+1)).filter (fun e=>!Qnf e)=l.take m:=(by rw[Qcq _ l m S,J];simp only[Zcz,Zal,if_false,Z4];rw[Zca];intro x hx;rw[Zcb]at hx;obtain⟨j,g,rfl⟩:=hx;rw[E j Om];rfl);refine Fi Tryz.func304 rfl _ rfl rfl (Hh ?_);refine(Qwd l (some a) c w (b.sl Qau) ak).mono ?_;rintro _ au ⟨rfl,K⟩;rw[R];replace b:=b.ext K;refine Gg ?_;constructor
 .intro h;simp at h
 intro _;refine Gg ?_;refine⟨_,wrap_succ Om,Gg ?_⟩
 refine Qh Qb (fun(x:Nat×Nat×List Ev) w'=>x.1<=l.length/\x.2.1<x.1/\x.2.2.length=l.length/\x.2.2.take x.2.1=(l.take x.1).filter (fun e=>!Qnf e)/\x.2.2.drop x.1=l.drop x.1/\Own evC 8 69 base w' (some a) c x.2.2/\Mod (fun k=>k=a.block) w w')
  (fun|(j,i,U)=>[(0,.slice (some a) l.length c),(1,dV),(5,Vj (i:Nat)),(6,Vj (j:Nat))]) (fun x=>l.length-x.1) (m+1,m,l) ⟨Sj,Sj,rfl,P.symm,rfl,b,Mod.of_ext K⟩ Rr ?_
 clear b K P R E J;rintro ⟨j,i,U⟩ an ⟨g,ai,C,s,B,b,o⟩;simp only at g ai C s B b;refine Hh ?_;constructor
 .intro y;have y:j<l.length:=Su y;have V:j<U.length:=Om;obtain⟨aq,D,F⟩:=(b.sl Qau).get V;injection D with D;subst D
  have af:U[j]=l[j]:=by
   have u:(U.drop j)[0]?=(l.drop j)[0]? := by rw[B]
   rw[Zb3,Zb3,Zcf,Zb V,Zb y]at u;exact Zbc u
  have f:=Qcq (fun e=>!Qnf e) l j y;rw[<- s]at f;have O:U.drop (j+1)=l.drop (j+1):=by rw[<- List.drop_drop,<- List.drop_drop,B]
  rw[af]at F;generalize l[j]=v at F f;refine Gg ?_;refine⟨a,Ix,Gg ?_⟩;refine⟨evC v,⟨rfl,F⟩,Gg ?_⟩;intro Z av z;refine Gg ?_;refine Qc Qb (e:=ty69) rfl z.At rfl rfl rfl (Qbn v) fun N n W=>?_
  have n:At N Z 69 (evC v):=n;have Y:Ext an N:=W.ext z.ext (by rw[z.block];exact Zf _);clear W z;refine Gg ?_;refine⟨evC v,⟨rfl,n.all⟩,Gg ?_⟩;refine(Qop v N).mono ?_;rintro _ w5 ⟨rfl,M⟩;have L:=Y.trans M;have ae:=n.ext M;replace b:=b.ext L;replace o:=o.trans (Mod.of_ext L);clear Y M L n;refine Gg ?_;constructor
  .intro d;have d:Qnf v=false:=Su d;rw[d]at f;simp only[Zde,if_true]at f;refine Gg ?_;refine⟨evC v,⟨rfl,ae.all⟩,Gg ?_⟩;refine⟨a,Ix,Gg ?_⟩;refine Qqb Qb (e:=ty69) rfl rfl Qau Qbn (k:=i) Om v rfl b fun ao A I=>?_
   refine Gg ?_;refine⟨_,wrap_succ Om,Gg ?_⟩;refine⟨_,wrap_succ Om,Gg ?_⟩;refine⟨(j+1,i+1,U.set i v),Sj,⟨Sj,Sj,by simp only;rw[Zbi];exact C,?_,?_,A,o.trans (Qj I rfl)⟩,Rr⟩
   .simp only;rw[f,List.take_set,List.take_add_one,Zb (by omega:i<U.length)];rw[Zcd _ _ (by rw[Zn];omega)];simp[Zn,Nat.min_eq_left (by omega:i<=U.length)]
   .simp only;rw[List.drop_set_of_lt Om];exact O
  .intro d;have d:Qnf v=true:=Su d;rw[d]at f;simp only[Zcz,Zal,if_false,Z4]at f;refine Gg ?_;refine⟨_,wrap_succ Om,Gg ?_⟩;exact⟨(j+1,i,U),Sj,⟨Sj,Sj,C,f.symm,O,b,o⟩,Rr⟩
 intro H;have H:l.length<=j:=Su H;rw[Zd H]at s;have aj:i<U.length:=Om;have ah:(l.filter fun e=>!Qnf e).length=i:=by rw[<- s,Zn];omega
 rw[ah];have al:(if((c:Nat):Int).toNat=((i:Nat):Int).toNat then some a else(some a).map (·.add (((i:Nat):Int).toNat*8)))=some (a.add (i*8)):=(by rw[Zbb,Zbb,if_neg Om];rfl);refine Gg ?_;refine⟨⟨Om,Om,Om,Om⟩,Gg ?_⟩;rw[al];refine Qvz Xkk ty69_ok rfl (by simp[Qg,ty69,Value.oneCell']) Qau aj b (by simp;omega) fun ao A I=>?_
 rw[s]at A;refine Gg ?_;refine⟨⟨Om,Om,Om,Om⟩,Gg ?_⟩;refine⟨?_,A,o.trans (Qj I rfl)⟩;have aa:a.add 0=a:=by unfold Addr.add;simp
 simp[aa]
theorem Q24(l:List Ev):(l.filter fun e=>!Qnf e)=l.filter fun e=>decide (0<Qz e):=by
 congr 1;funext e;unfold Qnf
 by_cases h:Qz e<=0
 .simp[h]
  try omega
 .simp[h]
  try omega
theorem Qwc(l A c base w)(d:Own evC 8 69 base w A c l)(g:l.length<1000000) :
 Cal Tryz.prog 304 [.slice A l.length c,dV] w fun r w'=>r=.slice A (l.filter fun e=>decide (0<Qz e)).length c/\Own evC 8 69 base w' A c (l.filter fun e=>decide (0<Qz e))/\∀f,Ext f w->f.heap.size<=base->Ext f w':=by
 by_cases b:l.any Qnf=true
 .obtain⟨a,rfl⟩:∃a,A=some a:=by
   cases A with
   |some a=>exact⟨a,rfl⟩
   |none =>
    cases l with
    |nil=>simp at b
    |cons x l=>obtain⟨a,n,_⟩:=(d.sl Qau) 0 x rfl;cases n
  refine(Q85 l a c base w d g b).mono ?_;rintro _ w' ⟨rfl,i,m⟩;rw[Q24]at i⊢;refine⟨rfl,i,fun f hx o=>Qcu hx (T:=fun k=>k=a.block) (fun k v=>?_) m⟩;have:=(d.block rfl).1;omega
 .have b:l.any Qnf=false:=Su b;have s:(l.filter fun e=>decide (0<Qz e))=l:=(by rw[<- Q24,Zca];intro x hx;have:=List.any_eq_false.1 b x hx;simpa using this);have u:l.findIdx? Qnf=none:=(by rw[Zav];intro x hx;simpa using List.any_eq_false.1 b x hx);rw[s];refine Fi Tryz.func304 rfl _ rfl rfl (Hh ?_);refine(Qwd l A c w (d.sl Qau) g).mono ?_;rintro _ y ⟨rfl,j⟩;rw[u];refine Gg ?_;constructor
  .intro _;refine Gg ?_;exact⟨rfl,d.ext j,fun f hx o=>hx.trans j⟩
  .intro h;simp at h
theorem Qrk{w T p c z v}(h:WQ w T p c z v)(person:Bj) :
 Cal Tryz.prog 234 [Pj p,.string person] w fun r w'=>∃A g,r=.slice A (Qmf z person).length g/\Own evC 8 69 w.heap.size w' A g (Qmf z person)/\Ext w w':=by
 have u:(Qak z).length<1000000:=(by have x:=Zc peB z;have:=h.len;unfold Qak;omega);refine Fi Tryz.func234 rfl _ rfl rfl (Hh ?_);refine(Qad h).mono ?_;rintro _ k ⟨pw,l,rfl,m,b⟩;refine Hh ?_;have i:=(Qb7 c.width z).2
 refine(Qhp k l pw _ _ m person (by
  have:(evs (Qi c.width z).rs).length=(Qak z).length:=by rw[i]
  simp[evs]at this;omega)).mono ?_
 rintro _ w5 ⟨d,f,rfl,a,o⟩;rw[i]at a⊢;rw[show hist (Qak z) person=Qfs z person from rfl]at a⊢;have n:(Qfs z person).length<1000000:=Zbw (Zc _ _) u;refine Hh ?_;refine(Qwc _ d f k.heap.size w5 a n).mono ?_;rintro _ y ⟨rfl,j,s⟩;refine Hh ?_;have hx:=s w (b.trans o) b.size;rw[show (Qfs z person).filter (fun e=>decide (0<Qz e))=Qmf z person from rfl]at j⊢;exact⟨d,f,rfl,j.base b.size,hx⟩
end Go.Proofs.YtnpacgccajekgaaGreatDoor
namespace Go.Proofs.YtnpacgccajekgaaGreatDoor
open Go.Se Go.RowKit Go.Shelf Go.Sort Go.Maps Go.WideElems
def byT(x:Bj):List UInt8:=x.data.toList
theorem Xim{a b}(h:byT a=byT b):a=b:=by
 have:=congrArg List.toArray h;unfold byT at this;simp at this;cases a;cases b;simpa using this
theorem Qri{d e:Array (List UInt8)}:∀m:Nat,(∀j,j<m->d[j]! = e[j]!)->Lib.compactUpTo d m=Lib.compactUpTo e m
 |0,_=>rfl
 |m+1,h=>by
  rw[Lib.compactUpTo_succ,Lib.compactUpTo_succ,Qri m fun j b=>h j Om];have a:Lib.keeps d m=Lib.keeps e m:=(by unfold Lib.keeps;rw[h m Om,h (m-1) Om]);rw[a,h m Om]
theorem Qqw:∀l:List Bj,Srt bLt l->∃K:List Bj,Lib.compact (l.map byT)=K.map byT/\K.Nodup/\(∀x,x∈K↔x∈l)/\Srt bLt K:=by
 refine Qw (fun _=>⟨[],rfl,List.nodup_nil,by simp,Srt.nil⟩) fun l a H r=>?_
 obtain⟨K,C,s,i,w⟩:=H r.left
 have F:Lib.compactUpTo ((l++[a]).map byT).toArray l.length=K.map byT:=by
  rw[<- C];unfold Lib.compact;rw[Zg];refine Qri _ fun j z=>?_
  rw[getElem!_pos _ j (by simp;omega),getElem!_pos _ j (Su z)];simp only[List.getElem_toArray,List.getElem_map,List.getElem_append_left z]
 have n:((l++[a]).map byT).toArray[l.length]! = byT a:=(by rw[getElem!_pos _ l.length (by simp)];simp);have D:Lib.compact ((l++[a]).map byT)=K.map byT++(if Lib.keeps ((l++[a]).map byT).toArray l.length then [byT a] else []):=(by unfold Lib.compact;rw[Zg,Zo,Zx,Zae,Lib.compactUpTo_succ,F,n]);rw[D];have A:∀u∈l,bLt a u=false:=fun u f=>r.across u f a (by simp)
 cases d:Lib.keeps ((l++[a]).map byT).toArray l.length with
 |true =>
  have o:a∉l:=by
   intro m;rcases Zbo l with rfl|⟨k,b,c⟩
   .simp at m
   .have c:l=k++[b]:=Su c
    have y:a≠b:=by
     rintro rfl;unfold Lib.keeps at d;rw[decide_eq_true_eq]at d;rcases d with d|d
     .rw[c]at d;simp at d
     .apply d;rw[n,getElem!_pos _ (l.length-1) (by simp;omega)];simp[c]
    rcases (by rw[c,Zj,Zl]at m;exact m:a∈k\/a=b) with h|h
    .have I:bLt b a=false:=(by have:=r.left;rw[c]at this;exact this.across a h b (by simp));have J:bLt a b=false:=A b (by rw[c];simp);exact y (Qb4 J I)
    .exact y h
  refine⟨K++[a],by simp,?_,fun x=>?_,?_⟩
  .rw[Zc5]
   exact⟨s,by simp,fun u f v g=>by
    rw[Zl]at g;subst g;rintro rfl;exact o ((i _).1 f)⟩
  .rw[Zj,Zj,i]
  .exact Srt.append w (Srt.one a) fun u f v g=>(by rw[Zl]at g;subst g;exact A u ((i u).1 f))
 |false =>
  have E:a∈l:=by
   unfold Lib.keeps at d;rw[decide_eq_false_iff_not]at d;rcases Zbo l with rfl|⟨k,b,c⟩
   .exact absurd (.inl rfl) d
   .have c:l=k++[b]:=Su c;have e:((l++[a]).map byT).toArray[l.length]! = ((l++[a]).map byT).toArray[l.length-1]! := Classical.byContradiction fun o=>d (.inr o)
    rw[n,getElem!_pos _ (l.length-1) (by simp;omega)]at e;have B:byT a=byT b:=by rw[e];simp[c]
    rw[Xim B,c];simp
  refine⟨K,by simp,s,fun x=>?_,w⟩;rw[i,Zj,Zl];constructor
  .exact .inl
  .rintro (h|h)
   .exact h
   .rw[h];exact E
theorem Qy7(l):Lib.compact ((Xh l).map byT)=(Qci l).map byT:=by
 obtain⟨K,a,b,c,d⟩:=Qqw (Xh l) (Qgg l);rw[a];have:K=Qci l:=(by rw[<- Qh4 b fun x=>(c x).trans Qge];exact Qc1 (Za9 _) d);rw[this]
theorem Q4t(l A c base w)(U:Own Qac 1 9 base w A c (Xh l))(ag:l.length<1000000) :
 Cal Tryz.prog 306 [.slice A (Xh l).length c] w fun r w'=>r=.slice A (Qci l).length c/\SlT w' A (Qci l)/\∀d,Ext d w->d.heap.size<=base->Ext d w':=by
 by_cases j:l=[]
 .subst j;have v:Xh []=[]:=Qgf;have y:Qci []=[]:=by simp[Qci,Q7t,Qgf]
  rw[v,y];refine Qae ⟨_,Tryz.func306,rfl,rfl⟩ (Tryz.slices_Compact_string_empty A c w) ?_;rintro w' rfl;exact⟨rfl,Sl.nil,fun d h _=>h⟩
 .have ai:0<l.length:=Zad.2 j;have ah:(Xh l).length=l.length:=(Qbt l).length_eq;rcases U.2 with⟨_,ac⟩|⟨b,cap,ab,Y,E,s,m,H,I,J⟩
  .omega
  injection Y with z _ K;subst z;subst K;have W:=Qy7 l;have a:((Xh l).map byT).length=(Xh l).length:=Zg _;have af:(Qci l).length<=l.length:=Qnt l;obtain⟨n,R⟩:∃n,n=(Xh l).length-(Qci l).length:=⟨_,rfl⟩;have B:Holds encStr w b 0 ((Xh l).map byT).toArray:=holds_of_block s (by rw[a];unfold byT;rw[<- Qh9,<- J,Zbl]);have o:=Tryz.slices_Compact_string b 0 c ((Xh l).map byT) w B (by rw[a];omega) (by rw[a];exact m);rw[W,a,Zg,<- R]at o;refine Qae ⟨_,Tryz.func306,rfl,rfl⟩ o ?_;rintro w' ⟨q,rfl⟩;have C:(Qci l).map byT++List.replicate n []=(Qci l++List.replicate n (⟨#[]⟩:Bj)).map byT:=(by rw[Zp,List.map_replicate];rfl);rw[C];have e:(Qci l++List.replicate n (⟨#[]⟩:Bj)).length=(Xh l).length:=(by rw[Zo,List.length_replicate];omega);generalize D:Qci l++List.replicate n (⟨#[]⟩:Bj)=M at e⊢;have O:putRow encStr (Sort.ahead w q) b 0 (M.map byT).toArray=grow (putRow encStr (Sort.ahead w q) b 0 (M.map byT).toArray) #[]:=by rw[grow_empty]
  rw[O];refine⟨rfl,?_,fun d hx ae=>?_⟩
  .have f:=ownsRow_sorted (w:=w) (n:=q) (os:= #[]) (ss:=(Xh l).map byT) (ts:=M.map byT) (by rw[Zg,Zg];exact e) E s (by rw[a];exact m) H I;rw[a,<- e]at f;have F:(M.map byT).map encStr=M.flatMap Qac:=by rw[Qh9];rfl
   rw[F]at f;obtain⟨Z,aa,L,S⟩:=Qcz (enc:=Qac) (l:=M) f rfl rfl;cases L;have V:=(S.sl Qv);intro i x u;refine V i x ?_;rw[<- D,Zy (Zi.1 u).1];exact u
  .have N:=grownBy_sorted (w:=w) (g:=b) (n:=q) (os:= #[]) (M.map byT).toArray;exact Qu hx N fun k P=>by cases P;omega
theorem Q5p(a b:Bj)(w):Cal Tryz.prog 322 [.string a,.string b] w fun r w'=>r=.bool (bLt a b)/\w'=w:=by
 refine Fi Tryz.func322 rfl _ rfl rfl (Hh ?_);refine(Qgs a w).mono ?_;rintro _ c ⟨rfl,e⟩;subst e;refine Hh ?_;refine⟨Unit,fun _=>.bool false,fun _ w'=>w'=c,(),fun _=>(Qgs b c).mono fun r w' h=>⟨(),h.1,h.2⟩,?_⟩;intro _ g d
 have f:g=c:=by
  rcases d with⟨_,h⟩|⟨_,h⟩
  .exact h
  .exact h
 subst f;clear d;refine Hh ?_;exact⟨by simp[bLt],rfl⟩
theorem Qo4(a:Bj)(w):Cal Tryz.prog 360 [.string a] w fun r w'=>r=.bool false/\w'=w:=by
 refine Fi Tryz.func360 rfl _ rfl rfl (Hh ?_);exact⟨by simp,rfl⟩
theorem Xcj{l}(f:Srt bLt l){x i}(hi:i<=l.length)(d:∀t,t<i->∀(a:t<l.length),bLt l[t] x=true)(e:∀t,i<=t->∀(a:t<l.length),bLt l[t] x=false):(x∈l↔∃a:i<l.length,l[i]=x):=by
 constructor
 .intro hx;obtain⟨t,a,rfl⟩:=Za2 hx;rcases Zb6 t i with h|h
  .have:=d t h a;rw[Xu]at this;cases this
  .have b:i<l.length:=Om;refine⟨b,?_⟩;have g:=e i (Zf _) b
   have j:bLt l[t] l[i]=false:=by
    rcases Zb6 i t with c|c
    .exact Zaz.1 f i t b a c
    .obtain rfl:i=t:=Om;exact Xu _
   exact Qb4 g j
 .rintro ⟨a,rfl⟩;exact Zu a
theorem Q8g(l)(H:Srt bLt l)(A c)(x:Bj)(w)(V:l.length<1000000)(O:SlT w A l) :
 Cal Tryz.prog 309 [.slice A l.length c,.string x] w fun r w'=>(∃k:Nat,r=.tuple #[Vj (k:Nat),.bool (decide (x∈l))])/\Ext w w':=by
 refine Fi Tryz.func309 rfl _ rfl rfl (Hh ?_)
 refine Qh Qb (fun(p:Nat×Nat) w'=>p.1<=p.2/\p.2<=l.length/\(∀t,t<p.1->∀(f:t<l.length),bLt l[t] x=true)/\(∀t,p.2<=t->∀(f:t<l.length),bLt l[t] x=false)/\w'=w)
  (fun|(i,j)=>[(0,.slice A l.length c),(1,.string x),(6,Vj l.length),(7,Vj (i:Nat)),(8,Vj (j:Nat))]) (fun p=>p.2-p.1) (0,l.length) ⟨Zt _,Zf _,fun t h=>by simp at h,fun t h f=>by simp at h;omega,rfl⟩ Rr ?_
 rintro ⟨i,j⟩ m ⟨S,E,C,D,U⟩;simp only at S E C D;subst U;refine Hh ?_;constructor
 .intro N;have N:i<j:=Su N;obtain⟨h,R⟩:∃h,h=(i+j)/2:=⟨_,rfl⟩;have z:h<l.length:=Om;refine Hh ?_;refine⟨((i+j:Nat):Int),Qbc Om,Hh ?_⟩;refine⟨((i+j:Nat):Int),Qso Om,Hh ?_⟩;refine⟨(h:Int),by rw[R];exact Qln _,Hh ?_⟩;refine⟨(h:Int),Qsn Om,Hh ?_⟩;obtain⟨a,v,u⟩:=O.get z;subst v;refine⟨a,Ix,Hh ?_⟩;refine⟨.string l[h],Qp u,Hh ?_⟩;refine(Q5p l[h] x m).mono ?_;rintro _ d ⟨rfl,s⟩;subst s;refine Hh ?_;constructor
  .intro e;have e:bLt l[h] x=true:=e;refine Hh ?_;refine⟨_,wrap_succ Om,Hh ?_⟩;refine⟨(h+1,j),Sj,⟨Sj,E,fun t f I=>?_,D,rfl⟩,Rr⟩
   cases P:bLt l[t] x with
   |true=>rfl
   |false =>
    have B:bLt l[h] l[t]=false:=by
     rcases Zb6 t h with b|b
     .exact Zaz.1 H t h I z b
     .obtain rfl:t=h:=by have:t<h+1:=f;omega
      exact Xu _
    rw[Qic B P]at e;cases e
  .intro e;have e:bLt l[h] x=false:=e;refine Hh ?_;refine⟨(i,h),Sj,⟨Sj,Sj,C,fun t f I=>?_,rfl⟩,Rr⟩;have f:h<=t:=f
   have B:bLt l[t] l[h]=false:=by
    rcases Zb6 h t with b|b
    .exact Zaz.1 H h t z I b
    .obtain rfl:t=h:=Om;exact Xu _
   exact Qic B e
 .intro L;have L:j<=i:=Su L;obtain rfl:i=j:=Om;have M:=Xcj H E C D;refine Hh ?_
  by_cases o:i<l.length
  .obtain⟨a,v,u⟩:=O.get o;subst v;refine⟨a,fun _=>Ix,Hh ?_⟩;refine⟨.string l[i],fun _=>Qp u,Hh ?_⟩;refine⟨a,fun _ _=>(show _/\_ from Ix),Hh ?_⟩;refine⟨.string l[i],fun _ _=>Qp u,Hh ?_⟩;refine⟨Unit,fun _=>.bool false,fun _ w'=>w'=m,(),fun _ _=>(Qo4 l[i] m).mono fun r w' h=>⟨(),h.1,h.2⟩,?_⟩;intro _ d n
   have s:d=m:=by
    rcases n with⟨_,h⟩|⟨_,h⟩
    .exact h
    .exact h
   subst s;clear n;refine Hh ?_;refine⟨Unit,fun _=>.bool false,fun _ w'=>w'=d,(),fun _ _ _=>(Qo4 x d).mono fun r w' h=>⟨(),h.1,h.2⟩,?_⟩;intro _ K b
   have J:K=d:=by
    rcases b with⟨_,h⟩|⟨_,h⟩
    .exact h
    .exact h
   subst J;clear b;refine Hh ?_;refine⟨⟨i,?_⟩,Ext.refl _⟩;have F:decide ((i:Int)<(l.length:Int))=true:=Su o;have y:decide (x∈l)=decide (l[i]=x):=(by rw[Zc7,decide_eq_true_iff,decide_eq_true_iff,M];exact⟨fun⟨_,h⟩=>h,fun h=>⟨o,h⟩⟩);rw[y];simp[F,o]
  .have y:decide (x∈l)=false:=(by rw[decide_eq_false_iff_not,M];exact fun⟨h,_⟩=>o h);have g:∀{q:Prop},decide ((i:Int)<(l.length:Int))=true->q:=fun h=>by simp at h;omega
   refine⟨⟨0,0,none⟩,fun h=>g h,Hh ?_⟩;refine⟨.string x,fun h=>g h,Hh ?_⟩;refine⟨⟨0,0,none⟩,fun _ h=>g h,Hh ?_⟩;refine⟨.string x,fun _ h=>g h,Hh ?_⟩;refine⟨Unit,fun _=>.bool false,fun _ w'=>w'=m,(),fun _ h=>g h,?_⟩;intro _ d n
   have s:d=m:=by
    rcases n with⟨_,h⟩|⟨_,h⟩
    .exact h
    .exact h
   subst s;clear n;refine Hh ?_;refine⟨Unit,fun _=>.bool false,fun _ w'=>w'=d,(),fun _ _ h=>g h,?_⟩;intro _ K b
   have J:K=d:=by
    rcases b with⟨_,h⟩|⟨_,h⟩
    .exact h
    .exact h
   subst J;clear b;refine Hh ?_;refine⟨⟨i,?_⟩,Ext.refl _⟩;rw[y];have F:decide ((i:Int)<(l.length:Int))=false:=by simp;omega
   simp[F];omega
