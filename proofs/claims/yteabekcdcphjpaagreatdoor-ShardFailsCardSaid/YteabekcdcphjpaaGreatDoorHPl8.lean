import Derived.Test.YteabekcdcphjpaaGreatDoorGN
import Derived.Test.YteabekcdcphjpaaGreatDoorGJ
/- What the score's reference adds up,in plain words. -/
set_option linter.unusedVariables false
set_option linter.unusedSimpArgs false
namespace Go.Proofs.YteabekcdcphjpaaGreatDoor
open Go.Se Go.RowKit
abbrev S9:=ByteArray×Int×Int
def s9E (width:Int) (e:Ev):S9:=(e.item,e.at_/width,Qw e)
def q9 (key:ByteArray) (lo hi:Int) (x:S9):Bool:=decide (x.1=key)&&(decide (lo<=x.2.1)&&decide (x.2.1<hi))
def pa9 (L:List S9) (key:ByteArray) (lo hi:Int):Int:=((L.filter (q9 key lo hi)).map fun x=>x.2.2).sum
theorem Q79 (L:List S9) (x:S9) (key:ByteArray) (lo hi:Int):pa9 (L ++ [x]) key lo hi=pa9 L key lo hi+if q9 key lo hi x=true then x.2.2 else 0:=by
 unfold pa9;rw[List.filter_append,List.map_append,List.sum_append]
 cases h:q9 key lo hi x <;> simp[h]
theorem Xax (width:Int) (l:List Ev) (key:ByteArray) (lo hi:Int):pa9 (l.map (s9E (Qv width))) key lo hi=paE l width key lo hi:=by
 unfold pa9 paE;rw[List.filter_map,List.map_map]
 rfl
theorem Q43 {L:List S9} (h:∀ x∈L,0<=x.2.2/\x.2.2<=1048576) (key:ByteArray) (lo hi:Int):0<=pa9 L key lo hi/\pa9 L key lo hi<=L.length*1048576:=by
 have hb:=Qdd (fun x:S9=>x.2.2) 1048576 (L.filter (q9 key lo hi)) fun x hx=>h x (List.mem_filter.1 hx).1
 have hl:=List.length_filter_le (q9 key lo hi) L;unfold pa9;omega
structure Qqi (f:ByteArray->Int) (L:List Ct):Prop where
 nodup:(L.map (·.1)).Nodup
 mem:∀ x∈L,x.2=f x.1/\0<x.2
 all:∀ t,0<f t->t∈L.map (·.1)
theorem Qqb {half now:Int} {R:List Row} (hm:∀ r∈R,Xp r.1=true) (t:ByteArray):0<=Qsv half now R t/\Qsv half now R t<=R.length*5242880:=by
 have hb:=Qdd (fun r:Row=>Ql1 half now r.1) 5242880 (R.filter fun r=>decide (t∈r.2)) fun r hr=>by
  have h1:=Qdt (hm r (List.mem_filter.1 hr).1);have h2:=Qc1 (now-r.1.at_) half;unfold Ql1;refine⟨Int.mul_nonneg h1.1 h2.1,?_⟩;have:Qw r.1*Xq (now-r.1.at_) half<=5*1048576:=Int.mul_le_mul h1.2 h2.2 h2.1 (by omega);omega
 have hl:=List.length_filter_le (fun r:Row=>decide (t∈r.2)) R;unfold Qsv;omega
def Q2v (R:List Row) (t:ByteArray):Prop:=∃ r∈R,t∈r.2
theorem Q6p {half now:Int} {R:List Row} {t:ByteArray} (h:¬ Q2v R t):Qsv half now R t=0:=by
 have:(R.filter fun r=>decide (t∈r.2)) = []:=by
  rw[List.filter_eq_nil_iff];intro r hr;simp only[decide_eq_true_eq]
  exact fun e=>h ⟨r,hr,e⟩
 unfold Qsv;rw[this];rfl
def Q0t (f:ByteArray->Int) (tags:List ByteArray):List Ct:=(tags.filter fun t=>decide (0<f t)).map fun t=>(t,f t)
theorem Q3s (f:ByteArray->Int) (tags:List ByteArray) (t:ByteArray):Q0t f (tags ++ [t])=Q0t f tags++if 0<f t then [(t,f t)] else []:=by
 unfold Q0t;rw[List.filter_append,List.map_append]
 by_cases h:0<f t <;> simp[h]
theorem Q3r {f:ByteArray->Int} {tags:List ByteArray} {L:List Ct} (hn:tags.Nodup) (hall:∀ t,0<f t->t∈tags) (hp:L.Perm (Q0t f tags)):Qqi f L:=by
 have hk:(Q0t f tags).map (·.1)=tags.filter fun t=>decide (0<f t):=by
  unfold Q0t;rw[List.map_map]
  exact List.map_id _
 refine⟨?_,fun x hx => ?_,fun t ht => ?_⟩
 . rw[(hp.map _).nodup_iff,hk]
   exact hn.sublist List.filter_sublist
 . have:=hp.mem_iff.1 hx
   unfold Q0t at this;obtain⟨t,h1,rfl⟩:=List.mem_map.1 this
   exact⟨rfl,by simpa using (List.mem_filter.1 h1).2⟩
 . rw[(hp.map _).mem_iff,hk]
   exact List.mem_filter.2 ⟨hall t ht,by simpa using ht⟩
theorem Q7k (f:ByteArray->Int) (tags:List ByteArray):(Q0t f tags).length<=tags.length:=by
 unfold Q0t;rw[List.length_map]
 exact List.length_filter_le _ _
def TgR (w:World) (A:Option Addr) (k:Nat):Prop:=k<w.heap.size/\¬ rowB A k
theorem Qa1.keepR {w w1:World} {A A1:Option Addr} {D:List (Ev×SV)} {rs:List Row} (h:Qa1 w (TgR w A) D rs) (hk:∀ k,k<w.heap.size->¬ rowB A k->w1.heap[k]? = w.heap[k]? /\ ¬ rowB A1 k) (hs:w.heap.size<=w1.heap.size):Qa1 w1 (TgR w1 A1) D rs :=
 ⟨h.len,fun i d r hd hr=>by
  obtain⟨h1,h2,h3,h4⟩:=h.ev i d r hd hr;refine⟨h1,h2,Qct h3 fun a ha => ?_,fun a ha => ?_⟩
  . obtain⟨q1,q2⟩:=h4 a ha
    exact(hk _ q1 q2).1
  . obtain⟨q1,q2⟩:=h4 a ha
    exact⟨by omega,(hk _ q1 q2).2⟩⟩
theorem Qa1.extR {w w1:World} {A:Option Addr} {D:List (Ev×SV)} {rs:List Row} (h:Qa1 w (TgR w A) D rs) (hx:Ext w w1):Qa1 w1 (TgR w1 A) D rs:=h.keepR (fun k hk hn=>⟨hx.block k hk,hn⟩) hx.size
theorem Qa1.nilR {w:World} {A:Option Addr}:Qa1 w (TgR w A) [] []:=⟨rfl,by simp⟩
theorem Qa1.snocR {w:World} {T:Nat->Prop} {D:List (Ev×SV)} {rs:List Row} (h:Qa1 w T D rs) {d:Ev×SV} {r:Row} (hd:d.1=r.1/\d.2.2.1=r.2.length/\SlT w d.2.1 r.2/\∀ a,d.2.1=some a->T a.block):Qa1 w T (D ++ [d]) (rs ++ [r]):=by
 have hl:=h.len;refine⟨by simp[hl],fun i d' r' h1 h2 => ?_⟩
 by_cases hi:i<D.length
 . rw[List.getElem?_append_left hi] at h1
   rw[List.getElem?_append_left (by omega)] at h2
   exact h.ev i d' r' h1 h2
 . rw[List.getElem?_append_right (by omega)] at h1 h2
   rw[<- hl] at h2;generalize i-D.length=j at h1 h2
   cases j with
   | zero=>simp at h1 h2;subst h1;subst h2;exact hd
   | succ j=>simp at h1
theorem Qb8 {w w1:World} {A A1:Option Addr} (hg:w.grownBy w1 (A.map (·.block))) (hA:A1=A\/A1.map (·.block)=A.map (·.block)\/A1.map (·.block)=some w.heap.size) (k:Nat) (hk:k<w.heap.size) (hn:¬ rowB A k):w1.heap[k]? = w.heap[k]? /\ ¬ rowB A1 k:=by
 refine⟨hg.block k hk (fun e => ?_),?_⟩
 . cases A with
   | none=>simp at e
   | some x=>simp at e;exact hn ⟨x,rfl,e⟩
 . rintro ⟨y,hy,rfl⟩
   subst hy;rcases hA with h | h | h
   . exact hn ⟨y,h.symm,rfl⟩
   . cases A with
     | none=>simp at h
     | some x=>simp at h;exact hn ⟨x,rfl,h⟩
   . simp at h;omega
theorem Quy (name:ByteArray):∀ es:List Ev,(∀ e∈es,Xp e=true)->(Qfk name es).item.tags.size<1000:=by
 refine Xf (fun _=>by show (⟨#[]⟩:ByteArray).size<1000;decide) fun es e ih h => ?_
 have ih:=ih fun x hx=>h x (by simp[hx])
 have he:=Qb9 (h e (by simp));rw[Qem];unfold Qa0
 split
 . show (Qap e.text).size<1000
   have:=Qjq e.text;omega
 . split
   . exact ih
   . exact ih
theorem Qtm (name:ByteArray) (es:List Ev) (h:∀ e∈es,Xp e=true):(Qjb name es).tags.size<1000:=by
 unfold Qjb
 split
 . show (⟨#[]⟩:ByteArray).size<1000
   decide
 . exact Quy name es h
theorem Qps {α:Type} {l:List α} {g:α} (h:l.getLast? = some g):∃ l0,l=l0 ++ [g]:=by
 obtain⟨ys,h⟩:=List.getLast?_eq_some_iff.1 h
 exact⟨ys,h⟩
theorem Quz {gap:Int} {acc:List Sn} {g:Sn} {a:Ad3} (h:g.person=a.1/\a.2.1-g.to_<=gap):Qam gap (acc ++ [g]) a=acc ++ [⟨a.1,g.from_,a.2.1,Qez bLt g.items a.2.2⟩]:=by rw[Qgu,if_pos h]
theorem Qz4 {gap:Int} {acc:List Sn} {a:Ad3} (h:∀ g,acc.getLast? = some g->¬ (g.person=a.1/\a.2.1-g.to_<=gap)):Qam gap acc a=acc ++ [⟨a.1,a.2.1,a.2.1,[a.2.2]⟩]:=by
 cases hl:acc.getLast? with
 | none =>
   unfold Qam;rw[hl]
 | some g =>
   unfold Qam;rw[hl];simp only;rw[if_neg (h g hl)]
theorem Qer (gap:Int) (L:List Ad3) (a:Ad3):allL gap (L ++ [a])=Qam gap (allL gap L) a:=by unfold allL;rw[List.foldl_append];rfl
def Q63 (x:Ad3):Prop:=(1<=x.1.size/\x.1.size<=24)/\(0<=x.2.1/\x.2.1<=1099511627776)/\(1<=x.2.2.size/\x.2.2.size<=24)
theorem Qpa (gap:Int):∀ L:List Ad3,(∀ x∈L,Q63 x)->(allL gap L).length<=L.length/\∀ s∈allL gap L,(0<=s.to_/\s.to_<=1099511627776)/\s.items.length<=L.length:=by
 refine Xf (fun _=>by simp[allL]) fun L x ih h => ?_
 obtain⟨ih1,ih2⟩:=ih fun y hy=>h y (by simp[hy])
 have hx:=(h x (by simp)).2.1;rw[Qer,List.length_append,List.length_singleton]
 by_cases hj:∃ g,(allL gap L).getLast? = some g/\g.person=x.1/\x.2.1-g.to_<=gap
 . obtain⟨g,hg,hj⟩:=hj
   obtain⟨acc,hacc⟩:=Qps hg;rw[hacc] at ih1 ih2 ⊢;rw[Quz hj];refine⟨by simp at ih1 ⊢;omega,fun s hs => ?_⟩;rcases List.mem_append.1 hs with hs | hs
   . have:=ih2 s (by simp[hs])
     exact⟨this.1,by omega⟩
   . rw[List.mem_singleton] at hs
     subst hs;have h1:=(ih2 g (by simp)).2;have h2:=Qmb (lt:=bLt) x.2.2 g.items
     exact⟨hx,by simp only;omega⟩
 . rw[Qz4 fun g hg hh=>hj ⟨g,hg,hh⟩]
   refine⟨by simp;omega,fun s hs => ?_⟩;rcases List.mem_append.1 hs with hs | hs
   . have:=ih2 s hs
     exact⟨this.1,by omega⟩
   . rw[List.mem_singleton] at hs
     subst hs
     exact⟨hx,by simp⟩
theorem Qat.unsnoc {w:World} {n0:Nat} {R:Nat->Prop} {T:List SnH} {Q:List Sn} {d:SnH} {q:Sn} (h:Qat w n0 R (T ++ [d]) (Q ++ [q])):Qat w n0 R T Q/\SnR w n0 R d q:=by
 have hl:T.length=Q.length:=by have:=h.len;simpa using this
 refine⟨⟨hl,fun i d' q' hd hq=>h.at_ i d' q' ?_ ?_⟩,h.at_ T.length d q ?_ ?_⟩
 . rw[List.getElem?_append_left (List.getElem?_eq_some_iff.1 hd).1];exact hd
 . rw[List.getElem?_append_left (List.getElem?_eq_some_iff.1 hq).1];exact hq
 . rw[List.getElem?_append_right (Nat.le_refl _)];simp
 . rw[hl,List.getElem?_append_right (Nat.le_refl _)];simp
end Go.Proofs.YteabekcdcphjpaaGreatDoor
