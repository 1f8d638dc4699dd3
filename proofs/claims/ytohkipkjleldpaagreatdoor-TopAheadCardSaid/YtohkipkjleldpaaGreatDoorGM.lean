/- Several texts in one: Gv1, Gv2, Gv3, Zs, Gx1, Gx2. -/
import Derived.Test.YtohkipkjleldpaaGreatDoorGN
import Derived.Test.YtohkipkjleldpaaGreatDoorGK
import Derived.Test.YtohkipkjleldpaaGreatDoorGH
import Derived.Test.YtohkipkjleldpaaGreatDoorGI
import Derived.Test.YtohkipkjleldpaaGreatDoorGZK
import Derived.Test.YtohkipkjleldpaaGreatDoorGL
set_option linter.unusedVariables false
set_option linter.unusedSimpArgs false
namespace Go.Proofs.YtohkipkjleldpaaGreatDoor
open Go.Se Go.RowKit
open Go.Maps Go.Sort Go.Shelf
structure Q9s (s:Qae) (N:Int):Prop where
 keys:s.Pairwise (fun x y=>x.1≠y.1)
 small:Qg2 s N
 N0:0≤N
 sum:s.length*N<4611686018427387904
 len:s.length<1000000
theorem Qs1 (s:Qae) (key:ByteArray):(Qan s key).length≤s.length:=by
 unfold Qan;rw[List.length_map];exact List.length_filter_le _ _
theorem Q0y {s:Qae} {N:Int} (ok:Q9s s N) (key:ByteArray) (lo hi:Int) (row:List Int):0≤Q6r s key lo hi row∧Q6r s key lo hi row≤row.length*N:=by
 have hb:=Qiq (fun n:Int=>(Qe s (key,n)).getD 0) N (row.filter fun n=>decide (lo≤n)&&decide (n<hi)) fun x _=>by
  have:=Qe9 ok.small ok.N0 (key,x)
  exact⟨this.1,this.2.1⟩
 have hl:=List.length_filter_le (fun n:Int=>decide (lo≤n)&&decide (n<hi)) row;unfold Q6r
 exact⟨hb.1,Int.le_trans hb.2 (Int.mul_le_mul_of_nonneg_right (by omega) ok.N0)⟩
set_option maxHeartbeats 1000000 in
theorem Qn6 (w:World) (S:Nat→Prop) (p:Nat) (width n:Int) (s:Qae) (h:Qmw w S p width n s) (hw:1≤width∧width≤1099511627776) (N:Int) (ok:Q9s s N) (key:ByteArray) (a b:Int) (ha:-4398046511104≤a∧a≤4398046511104) (hb:-4398046511104≤b∧b≤4398046511104) :
 Cal Tryz.prog 350 [.pointer (some ⟨p,0,none⟩),.string key,.int .i64 a,.int .i64 b] w fun r w'=>r = .int .i64 (paS s key (a/width) (b/width))∧w'=w:=by
 obtain⟨bs,br,L,R,h⟩:=h;have hh:=h.head;have hlo:=Qh4 hw.1 ha;have hhi:=Qh4 hw.1 hb;have hpb:=fun lo hi=>Qsr ok.small ok.N0 key lo hi
 have hsm:=ok.sum;have hrow:=(h.rows.own key).1.sl Qax;have hlook:=h.rows.look Q8w Xc (e:=ty133) ty133_ok rfl key (cl := .same) Qm
 have hsl:∀ x,RdS Tryz.prog .same w (Instr.lookup 211 (.map (some bs)) (cel x) false) (vi ((Qe s x).getD 0)):=fun x=>by
  have:=X7 Xbr Qul (e:=ty2) ty2_ok (cl := .same) Qm h.sums x;rw[show (Qe (Xm vi s) x).getD ty2.zero=vi ((Qe s x).getD 0) from Xq vi _ _ 0] at this
  exact this
 have hrl:=Qs1 s key;have hlen:=ok.len;have hall:=Q8g ok.keys key (a/width) (b/width);have hrb:=Q0y ok key (a/width) (b/width);have hN0:=ok.N0;have hcell:=fun n=>Qe9 ok.small ok.N0 (key,n)
 generalize Qan s key=row at hrow hlook hrl hall;generalize (rowAt L key).1=A0 at hrow hlook;generalize (rowAt L key).2=c0 at hrow hlook;refine Fi Tryz.func350 rfl _ rfl rfl (Hh ?_);refine(Qgv w p width n bs br hh hw a ⟨by omega,by omega⟩).mono ?_;rintro _ _ ⟨rfl,rfl⟩;conv=>whnf
 refine(Qgv _ p width n bs br hh hw b ⟨by omega,by omega⟩).mono ?_;rintro _ w1 ⟨rfl,hw1⟩;subst hw1;generalize a/width=lo at *;generalize b/width=hi at *
 conv=>whnf
 refine⟨hi-lo,wrap_eq rfl ⟨by omega,by omega⟩,Hh ?_⟩;refine⟨.map (some br),hh.one rfl,Hh ?_⟩;refine⟨_,hlook,Hh ?_⟩;constructor
 · intro hc
   have hc:hi-lo<row.length∧0≤lo:=by simpa using hc
   conv=>whnf
   refine Qh Qa (fun(q:Nat×Int×Int) w'=>(q.1=0∨lo+q.1≤hi)∧q.2.1=lo+q.1∧q.2.2=paS s key lo (lo+q.1)∧w'=w1)
    (fun | (k,n,t) => [(0,.pointer (some ⟨p,0,none⟩)),(1,.string key),(10,.int .i64 hi),(11,.int .i64 t),(12,.int .i64 n)]) (fun q=>(hi-lo).toNat-q.1) (0,lo,0) ⟨.inl rfl,by simp,(Qmc (by simp)).symm,rfl⟩ Rr ?_
   rintro ⟨k,n,t⟩ w2 ⟨hk,hn,ht,hw2⟩;simp only at hk hn ht;subst hw2
   conv=>whnf
   constructor
   · intro hlt
     have hlt:n<hi:=by simpa using hlt
     have hst:=Q75 ok.keys key lo (lo+k) (by omega);have e1:lo+(k:Int)+1=lo+((k+1:Nat):Int):=by omega
     rw[e1,← ht,← hn] at hst;have hb1:=hpb lo (lo+((k+1:Nat):Int));have hb2:=hpb lo (lo+(k:Int));rw[← ht] at hb2;rw[hst] at hb1
     conv=>whnf
     refine⟨.map (some bs),hh.one rfl,Hh ?_⟩;refine⟨_,hsl (key,n),Hh ?_⟩;refine⟨t+(Qe s (key,n)).getD 0,wrap_eq rfl ⟨by omega,by omega⟩,Hh ?_⟩;refine⟨n+1,wrap_eq rfl ⟨by omega,by omega⟩,Hh ?_⟩
     exact⟨(k+1,n+1,t+(Qe s (key,n)).getD 0),by simp only;omega,⟨.inr (by simp only;omega),by simp only;omega,hst.symm,rfl⟩,Rr⟩
   · intro hge
     have hge:hi≤n:=by simpa using hge
     conv=>whnf
     refine⟨?_,rfl⟩;rw[ht];rcases hk with rfl | hk
     · have h1:paS s key lo (lo+((0:Nat):Int))=0:=Qmc (by omega)
       have h2:paS s key lo hi=0:=Qmc (by omega);rw[h1,h2]
     · have:lo+(k:Int)=hi:=by omega
       rw[this]
 · intro _
   conv=>whnf
   refine⟨.map (some br),hh.one rfl,Hh ?_⟩;refine⟨_,hlook,Hh ?_⟩
   refine Qh Qa (fun(q:Nat×Int) w'=>q.1≤row.length∧q.2=Q6r s key lo hi (row.take q.1)∧w'=w1)
    (fun | (k,t) => [(0,.pointer (some ⟨p,0,none⟩)),(1,.string key),(9,.int .i64 lo),(10,.int .i64 hi),(11,.int .i64 t),(58,.slice A0 row.length c0),(59,.int .i64 row.length),(60,.int .i64 (k:Nat))]) (fun q=>row.length-q.1) (0,0) ⟨Nat.zero_le _,rfl,rfl⟩ Rr ?_
   rintro ⟨k,t⟩ w2 ⟨hk,ht,hw2⟩;simp only at hk ht;subst hw2
   conv=>whnf
   constructor
   · intro hlt
     have hlt:k<row.length:=by simpa using hlt
     obtain⟨a2,hA,hc2⟩:=hrow.get hlt;subst hA;have htk:Q6r s key lo hi (row.take (k+1))=t+if lo≤row[k]∧row[k]<hi then(Qe s (key,row[k])).getD 0 else 0:=by rw[ht,List.take_succ_eq_append_getElem hlt,Q5d]
     have hb1:=(hrb (row.take (k+1)));have hl1:((row.take (k+1)).length:Int)*N≤s.length*N:=Int.mul_le_mul_of_nonneg_right (by rw[List.length_take];omega) hN0;generalize row[k]=y at hc2 htk;refine Gg ?_;refine⟨a2,Ix,Gg ?_⟩;refine⟨.int .i64 y,Qv hc2,Gg ?_⟩;constructor
     · intro hc
       have hc:lo≤y∧y<hi:=by simpa using hc
       rw[if_pos hc] at htk;rw[htk] at hb1;refine Gg ?_;refine⟨.map (some bs),hh.one rfl,Gg ?_⟩;refine⟨_,hsl (key,y),Gg ?_⟩;refine⟨t+(Qe s (key,y)).getD 0,wrap_eq rfl ⟨by omega,by omega⟩,Gg ?_⟩;refine⟨_,wrap_succ (by omega),Gg ?_⟩
       exact⟨(k+1,t+(Qe s (key,y)).getD 0),by simp only;omega,⟨by simp only;omega,htk.symm,rfl⟩,Rr⟩
     · intro hc
       have hc:¬ (lo≤y∧y<hi):=by
        have hc:(decide (lo≤y)&&decide (y<hi))=false:=hc
        simpa using hc
       rw[if_neg hc,Int.add_zero] at htk;refine Gg ?_;refine⟨_,wrap_succ (by omega),Gg ?_⟩
       exact⟨(k+1,t),by simp only;omega,⟨by simp only;omega,htk.symm,rfl⟩,Rr⟩
   · intro hge
     have hge:row.length≤k:=by simpa using hge
     rw[List.take_of_length_le hge,hall] at ht;rw[ht]
     conv=>whnf
     exact⟨rfl,rfl⟩
def Qme (lo hi:Int) (x:Int):Bool:=decide (lo≤x)&&decide (x<hi)
theorem Qz2 (bl bh:Nat) (lo hi x:Int) (w:World) (hl:At w bl 3 [.int .i64 lo]) (hh:At w bh 3 [.int .i64 hi]) :
 Cal Tryz.prog 382 [.int .i64 x,.pointer (some ⟨bl,0,none⟩),.pointer (some ⟨bh,0,none⟩)] w fun r w'=>r = .bool (Qme lo hi x)∧w'=w:=by
 refine Fi Tryz.func382 rfl _ rfl rfl (Hh ?_);refine⟨.int .i64 lo,hl.one0,Hh ?_⟩;refine⟨.int .i64 hi,fun _=>hh.one0,Hh ?_⟩
 exact⟨rfl,rfl⟩
theorem Q3n (bl bh:Nat) (lo hi:Int) (row:List Int) (A:Option Addr) (c:Nat) (w:World) (hs:Sl Qgr 1 w A row) (hlen:row.length<1000000) (hl:At w bl 3 [.int .i64 lo]) (hh:At w bh 3 [.int .i64 hi]) :
 Cal Tryz.prog 403 [.slice A row.length c,.func (.func 382) #[] #[.pointer (some ⟨bl,0,none⟩),.pointer (some ⟨bh,0,none⟩)]] w fun r w'=>(∃ i:Int,r = .int .i64 i ∧ -1≤i∧(0≤i↔row.any (Qme lo hi)=true))∧w'=w:=by
 refine Fi Tryz.func403 rfl _ rfl rfl (Hh ?_)
 refine Qh Qa (fun(k:Nat) w'=>k≤row.length∧(row.take k).any (Qme lo hi)=false∧w'=w)
  (fun k => [(0,.slice A row.length c),(1,.func (.func 382) #[] #[.pointer (some ⟨bl,0,none⟩),.pointer (some ⟨bh,0,none⟩)]),(7,.int .i64 row.length),(8,.int .i64 (k:Nat))]) (fun k=>row.length-k) 0 ⟨Nat.zero_le _,rfl,rfl⟩ Rr ?_
 rintro k w2 ⟨hk,hno,hw2⟩;subst hw2
 conv=>whnf
 constructor
 · intro hlt
   have hlt:k<row.length:=by simpa using hlt
   obtain⟨a2,hA,hc2⟩:=hs.get hlt;subst hA;have htk:(row.take (k+1)).any (Qme lo hi)=Qme lo hi row[k]:=by rw[List.take_succ_eq_append_getElem hlt,List.any_append,hno];simp
   have hmem:row[k]∈row:=List.getElem_mem hlt;generalize row[k]=y at hc2 htk hmem
   conv=>whnf
   refine⟨a2,Ix,Hh ?_⟩;refine⟨.int .i64 y,Qv hc2,Hh ?_⟩;refine(Qz2 bl bh lo hi y w2 hl hh).mono ?_;rintro _ _ ⟨rfl,rfl⟩;generalize hq:Qme lo hi y=q at htk ⊢
   conv=>whnf
   constructor
   · intro hc
     have hc:q=true:=hc
     conv=>whnf
     refine⟨⟨k,rfl,by omega,?_⟩,rfl⟩;simp only[Int.natCast_nonneg,true_iff,List.any_eq_true]
     exact⟨y,hmem,by rw[hq,hc]⟩
   · intro hc
     have hc:q=false:=hc
     conv=>whnf
     refine⟨_,wrap_succ (by omega),Hh ?_⟩
     exact⟨k+1,by omega,⟨by omega,by rw[htk,hc],rfl⟩,Rr⟩
 · intro hge
   have hge:row.length≤k:=by simpa using hge
   rw[List.take_of_length_le hge] at hno
   conv=>whnf
   exact⟨⟨-1,rfl,by omega,by rw[hno];simp⟩,rfl⟩
theorem Q3i (bl bh:Nat) (lo hi:Int) (row:List Int) (A:Option Addr) (c:Nat) (w:World) (hs:Sl Qgr 1 w A row) (hlen:row.length<1000000) (hl:At w bl 3 [.int .i64 lo]) (hh:At w bh 3 [.int .i64 hi]) :
 Cal Tryz.prog 381 [.slice A row.length c,.func (.func 382) #[] #[.pointer (some ⟨bl,0,none⟩),.pointer (some ⟨bh,0,none⟩)]] w fun r w'=>r = .bool (row.any (Qme lo hi))∧w'=w:=by
 refine Fi Tryz.func381 rfl _ rfl rfl (Hh ?_);refine(Q3n bl bh lo hi row A c w hs hlen hl hh).mono ?_;rintro _ _ ⟨⟨i,rfl,hi1,hi2⟩,rfl⟩
 conv=>whnf
 refine⟨?_,rfl⟩
 cases hq:row.any (Qme lo hi) with
 | true=>rw[decide_eq_true (hi2.2 hq)]
 | false=>rw[decide_eq_false (fun h=>by rw[hi2.1 h] at hq;cases hq)]
end Go.Proofs.YtohkipkjleldpaaGreatDoor
namespace Go.Proofs.YtohkipkjleldpaaGreatDoor
open Go.Se Go.RowKit
open Go.Maps Go.Sort Go.Shelf
structure WC {α:Type} (c:α→α→Int):Prop where
 anti:∀ a b,c a b<0↔0<c b a
 le:∀ {a b d},c a b≤0→c b d≤0→c a d≤0
theorem WC.swo {α:Type} {c:α→α→Int} (h:WC c):Go.Sort.SWO (ltOf c) where
 irrefl a:=by
  have:=h.anti a a;simp only[ltOf,decide_eq_false_iff_not];omega
 trans a b d h1 h2:=by
  simp only[ltOf,decide_eq_true_eq] at *;have h3:=h.le (a:=a) (b:=b) (d:=d) (by omega) (by omega);have h4:=(h.anti a b).1 h1;rcases Int.lt_or_le (c a d) 0 with h5 | h5
  · exact h5
  · exfalso
    have h6:c d a≤0:=by
     have:=(h.anti a d);omega
    have h7:=h.le (a:=b) (b:=d) (d:=a) (by omega) h6;omega
 ntrans a b d h1 h2:=by
  simp only[ltOf,decide_eq_false_iff_not] at *;have h3:c b a≤0:=by have:=h.anti a b;omega
  have h4:c d b≤0:=by have:=h.anti b d;omega
  have h5:=h.le h4 h3;have:=h.anti a d;omega
def Q6q {α:Type} (c d:α→α→Int) (a b:α):Int:=if c a b≠0 then c a b else d a b
theorem WC.lex {α:Type} {c d:α→α→Int} (h:WC c) (k:WC d):WC (Q6q c d) where
 anti a b:=by
  unfold Q6q;have h1:=h.anti a b;have h2:=h.anti b a;have k1:=k.anti a b
  by_cases h0:c a b=0
  · rw[if_neg (by omega),if_neg (by omega)];exact k1
  · rw[if_pos h0,if_pos (by omega)];exact h1
 le:=by
  intro a b e h1 h2;unfold Q6q at *;have a1:=h.anti a b;have a2:=h.anti b a;have b1:=h.anti b e;have b2:=h.anti e b;have c1:=h.anti a e;have c2:=h.anti e a;have l1:c a b≤0:=by split at h1 <;> omega
  have l2:c b e≤0:=by split at h2 <;> omega
  have l3:=h.le l1 l2
  split
  · exact l3
  · next h0 =>
    have h0:c a e=0:=by omega
    have m1:=h.le (a:=b) (b:=e) (d:=a) l2 (by omega);have m2:=h.le (a:=e) (b:=a) (d:=b) (by omega) l1;rw[if_neg (by omega)] at h1 h2
    exact k.le h1 h2
theorem Q9p {α:Type} (f:α→Int):WC (fun a b=>Qd0 (f a) (f b)) where
 anti a b:=by unfold Qd0;split <;> split <;> (try split) <;> (try split) <;> omega
 le:=by intro a b d h1 h2;unfold Qd0 at *;split at h1 <;> split at h2 <;> (try split at h1) <;> (try split at h2) <;> split <;> (try split) <;> omega
theorem WC.flip {α:Type} {c:α→α→Int} (h:WC c):WC (fun a b=>c b a):=⟨fun a b=>h.anti b a,fun h1 h2=>h.le h2 h1⟩
theorem Qwy {α:Type} (f:α→ByteArray):WC (fun a b=>Qd7 (f a) (f b)) where
 anti a b:=by
  unfold Qd7
  cases h1:bLt (f a) (f b) <;> cases h2:bLt (f b) (f a) <;> simp
  rw[Qcv h1] at h2;cases h2
 le:=by
  intro a b d h1 h2
  have k1:bLt (f b) (f a)=false:=by
   unfold Qd7 at h1
   cases h3:bLt (f a) (f b) <;> cases h4:bLt (f b) (f a) <;> simp[h3,h4] at h1 ⊢
   rw[Qcv h3] at h4;cases h4
  have k2:bLt (f d) (f b)=false:=by
   unfold Qd7 at h2
   cases h3:bLt (f b) (f d) <;> cases h4:bLt (f d) (f b) <;> simp[h3,h4] at h2 ⊢
   rw[Qcv h3] at h4;cases h4
  have k3:bLt (f d) (f a)=false:=Qeq k2 k1;unfold Qd7
  cases h3:bLt (f a) (f d) <;> simp[k3]
theorem Q68 {a b:Int×Int}:Qmx a b<0↔a.1*b.2<b.1*a.2:=by
 unfold Qmx
 split
 · omega
 split
 · omega
 · omega
theorem Qo2 {a b:Int×Int}:0<Qmx a b↔b.1*a.2<a.1*b.2:=by
 unfold Qmx
 split
 · omega
 split
 · omega
 · omega
theorem Q6n {α:Type} (f:α→Int×Int) (hf:∀ a,0<(f a).2):WC (fun a b=>Qmx (f a) (f b)) where
 anti a b:=by rw[Q68,Qo2]
 le:=by
  intro a b d h1 h2;have k1:¬ (f b).1*(f a).2<(f a).1*(f b).2:=fun h=>by have:=Qo2.2 h;omega
  have k2:¬ (f d).1*(f b).2<(f b).1*(f d).2:=fun h=>by have:=Qo2.2 h;omega
  have k3:¬ (f d).1*(f a).2<(f a).1*(f d).2:=by
   intro h;have e1:(f a).1*(f b).2*(f d).2≤(f b).1*(f a).2*(f d).2:=Int.mul_le_mul_of_nonneg_right (by omega) (Int.le_of_lt (hf d));have e2:(f b).1*(f d).2*(f a).2≤(f d).1*(f b).2*(f a).2:=Int.mul_le_mul_of_nonneg_right (by omega) (Int.le_of_lt (hf a));have e3:(f d).1*(f a).2*(f b).2<(f a).1*(f d).2*(f b).2:=Int.mul_lt_mul_of_pos_right h (hf b);have r1:(f a).1*(f b).2*(f d).2=(f a).1*(f d).2*(f b).2:=by rw[Int.mul_assoc,Int.mul_comm (f b).2,← Int.mul_assoc]
   have r2:(f b).1*(f a).2*(f d).2=(f b).1*(f d).2*(f a).2:=by rw[Int.mul_assoc,Int.mul_comm (f a).2,← Int.mul_assoc]
   have r3:(f d).1*(f b).2*(f a).2=(f d).1*(f a).2*(f b).2:=by rw[Int.mul_assoc,Int.mul_comm (f b).2,← Int.mul_assoc]
   omega
  rcases Int.lt_or_le 0 (Qmx (f a) (f d)) with h | h
  · exact absurd (Qo2.1 h) k3
  · exact h
def Qdu (s:Qae) (lo hi:Int):List ByteArray:=Qbt ((s.filter fun x=>Qme lo hi x.1.2).map (·.1.1))
theorem Q60 {s:Qae} {key:ByteArray} {lo hi:Int}:(Qan s key).any (Qme lo hi)=true↔∃ x∈s,x.1.1=key∧Qme lo hi x.1.2=true:=by
 unfold Qan;rw[List.any_eq_true];constructor
 · rintro ⟨y,hy,h⟩
   obtain⟨x,hx,rfl⟩:=List.mem_map.1 hy;obtain⟨h1,h2⟩:=List.mem_filter.1 hx
   exact⟨x,h1,by simpa using h2,h⟩
 · rintro ⟨x,hx,h1,h2⟩
   exact⟨x.1.2,List.mem_map.2 ⟨x,List.mem_filter.2 ⟨hx,by simpa using h1⟩,rfl⟩,h2⟩
theorem Q3w {s:Qae} {key:ByteArray} {lo hi:Int}:key∈Qdu s lo hi↔(Qan s key).any (Qme lo hi)=true:=by
 unfold Qdu;rw[Xp,Q60,List.mem_map];constructor
 · rintro ⟨x,hx,rfl⟩
   obtain⟨h1,h2⟩:=List.mem_filter.1 hx
   exact⟨x,h1,rfl,h2⟩
 · rintro ⟨x,hx,h1,h2⟩
   exact⟨x,List.mem_filter.2 ⟨hx,h2⟩,h1⟩
theorem Qsd (s:Qae) (lo hi:Int):(Qdu s lo hi).length≤s.length:=by
 unfold Qdu;have h1:=Qkz ((s.filter fun x=>Qme lo hi x.1.2).map (·.1.1));have h2:=List.length_filter_le (fun x:PK×Int=>Qme lo hi x.1.2) s;rw[List.length_map] at h1;omega
theorem Qwf (l:List ByteArray) {ss:List (List UInt8)} (hp:ss.Perm (l.map fun x=>x.data.toList)):(ss.mergeSort fun x y=>decide (x≤y)).map (fun x=>(⟨x.toArray⟩:ByteArray))=Xb l:=by
 apply Qb8
 · have h1:=(List.mergeSort_perm ss fun x y=>decide (x≤y)).trans hp
   have h2:=h1.map (fun x=>(⟨x.toArray⟩:ByteArray))
   simpa [List.map_map,Function.comp_def] using h2
 · unfold Srt
   rw[List.pairwise_map];have:=List.pairwise_mergeSort (le:=fun x y:List UInt8=>decide (x≤y)) (fun a b c h1 h2=>by simp only[decide_eq_true_eq] at *;exact List.le_trans h1 h2) (fun a b=>by simp only[Bool.or_eq_true,decide_eq_true_eq];exact List.le_total a b) ss;refine this.imp fun {a b} h => ?_
   simp only[decide_eq_true_eq] at h;unfold bLt;rw[ByteArray.toList_eq,ByteArray.toList_eq,bytesLess_eq]
   simpa using h
theorem Qkb (l:List ByteArray) (A:Option Addr) (c base:Nat) (w:World) (hown:Own Qav 1 9 base w A c l) (hl:l.length<1000000) :
 Cal Tryz.prog 67 [.slice A l.length c] w fun r w'=>r = .tuple #[]∧SlT w' A (Xb l)∧∀ w0,Ext w0 w→w0.heap.size≤base→Ext w0 w':=by
 have hok:Qt2 Tryz.prog 67:=⟨_,Tryz.func67,rfl,rfl⟩
 by_cases h0:l = []
 · subst h0
   refine Qa3 hok (AnyM.slices_Sort_string_none Tryz.sort67 A c w) ?_;rintro w' rfl
   exact⟨rfl,by rw[Qe5];exact Sl.nil,fun w0 h _=>h⟩
 · have hsl:=hown.sl Xi
   have hpos:0<l.length:=List.length_pos_iff.2 h0;rcases hown.2 with⟨_,h1⟩ | ⟨g,cap,cur,hv,hb,hg,hc1,hc2,hc3,hc4⟩
   · omega
   injection hv with hA _ hcc;subst hA;subst hcc;obtain⟨ss,hss⟩:∃ ss,ss=l.map fun x=>x.data.toList:=⟨_,rfl⟩
   have hsl2:ss.length=l.length:=by rw[hss,List.length_map]
   have hH:Holds encStr w g 0 ss.toArray:=by
    intro j hj;have hj':j<l.length:=by rw[← hsl2];simpa using hj
    obtain⟨a,ha,hca⟩:=hsl.get hj';have ha':a=⟨g,0,none⟩:=by simpa using ha.symm
    have hcell:=Qv hca;rw[ha',Qhs,Nat.mul_one] at hcell;refine⟨?_,by unfold World.frozen?;rw[hg];simp⟩;rw[Nat.zero_add,hcell]
    simp[hss,encStr,hj']
   have hbl:g<w.heap.size:=lt_of_block hg;have hcall:=AnyM.slices_Sort_string Tryz.sort67 g 0 c ss w hH hbl (by omega);rw[hsl2] at hcall;refine Qa3 hok hcall ?_;rintro w' ⟨k,os,rfl⟩;have hz:=Qwf l (ss:=ss) (by rw[hss]);have hml:(ss.mergeSort fun x y=>decide (x≤y)).length=ss.length:=List.length_mergeSort _;generalize (ss.mergeSort fun x y=>decide (x≤y))=ms at hz hml
   have hH2:Holds encStr (grow (putRow encStr (Go.Sort.ahead w k) g 0 ms.toArray) os) g 0 ms.toArray:=by
    refine holds_grow _ _ _ _ _ _ ?_ (holds_putRow _ _ _ _ ss.toArray _ (holds_ahead _ _ _ _ _ _ hH) (by simpa using hml));show g<((Go.Sort.ahead w k).heap.modify g _).size
    rw[Array.size_modify];exact hbl
   refine⟨rfl,?_,?_⟩
   · intro i x hi
     rw[← hz,List.getElem?_map] at hi
     cases hq:ms[i]? with
     | none=>rw[hq] at hi;simp at hi
     | some y =>
       rw[hq] at hi
       simp at hi
       subst hi;have hil:i<ms.length:=(List.getElem?_eq_some_iff.1 hq).1;have:=(hH2 i (by simpa using hil)).1;refine⟨_,rfl,fun j v hj => ?_⟩
       have hj0:j=0:=by
        have:=(List.getElem?_eq_some_iff.1 hj).1
        simp[Qav] at this
        exact this
       subst hj0
       have hyv:ms.toArray[i]! = y:=by
        have:=(List.getElem?_eq_some_iff.1 hq).2
        simp[hil,this]
       rw[hyv] at this;rw[Xe,Qhs,Nat.mul_one]
       simp[Qav] at hj
       rw[← hj];rw[Nat.zero_add] at this
       exact this
   · intro w0 h0 hb0
     have hx1:Ext w0 (putRow encStr (Go.Sort.ahead w k) g 0 ms.toArray):=by
      refine⟨h0.os,h0.tape,h0.output,?_,fun k' hk => ?_⟩
      · show w0.heap.size≤((Go.Sort.ahead w k).heap.modify g _).size
        rw[Array.size_modify];exact h0.size
      · have:(putRow encStr (Go.Sort.ahead w k) g 0 ms.toArray).heap[k']? = (Go.Sort.ahead w k).heap[k']? := Qeo _ _ _ _ (by omega)
        rw[this];exact h0.block k' hk
     exact hx1.trans (Qfb _ os)
set_option maxHeartbeats 1000000 in
theorem Qsq (w:World) (S:Nat→Prop) (p:Nat) (width n:Int) (s:Qae) (h:Qmw w S p width n s) (hw:1≤width∧width≤1099511627776) (N:Int) (ok:Q9s s N) (a b:Int) (ha:-4398046511104≤a∧a≤4398046511104) (hb:-4398046511104≤b∧b≤4398046511104) :
 Cal Tryz.prog 349 [.pointer (some ⟨p,0,none⟩),.int .i64 a,.int .i64 b] w fun r w'=>∃ A c,r = .slice A (Qdu s (a/width) (b/width)).length c∧SlT w' A (Qdu s (a/width) (b/width))∧(∀ x,A=some x→w.heap.size≤x.block)∧Ext w w':=by
 obtain⟨bs,br,L,R,h⟩:=h;have hh:=h.head;have hm:=h.rows.map;have hlen:=ok.len
 have hLl:L.length≤s.length:=by
  have h1:(L.map (·.1)).Nodup:=Xx h.rows.keys
  have h2:∀ x∈L.map (·.1),x∈s.map (fun y=>y.1.1):=fun x hx=>by
   obtain⟨y,hy,rfl⟩:=List.mem_map.1 hx;have hne:=h.rows.ne y hy
   cases hq:Qan s y.1 with
   | nil=>exact absurd hq hne
   | cons n l =>
     have hn:n∈Qan s y.1:=by rw[hq];simp
     unfold Qan at hn;obtain⟨z,hz,_⟩:=List.mem_map.1 hn;obtain⟨h3,h4⟩:=List.mem_filter.1 hz
     exact List.mem_map.2 ⟨z,h3,by simpa using h4⟩
  have:=Qdh h1 h2
  simpa using this
 have hK:∀ out:List ByteArray,out.Perm ((L.map (·.1)).filter fun k=>(Qan s k).any (Qme (a/width) (b/width)))→Xb out=Qdu s (a/width) (b/width):=fun out hp=>by
  refine Qga ?_ fun x => ?_
  · exact hp.nodup_iff.2 ((Xx h.rows.keys).sublist List.filter_sublist)
  · rw[hp.mem_iff,List.mem_filter]
    have hm1:x∈((s.filter fun x=>Qme (a/width) (b/width) x.1.2).map (·.1.1))↔(Qan s x).any (Qme (a/width) (b/width))=true:=by
     rw[← Q3w];unfold Qdu;rw[Xp]
    rw[hm1];constructor
    · exact fun hx=>hx.2
    · intro hx
      refine⟨?_,hx⟩;rw[Qkx]
      cases hq:Qe L x with
      | some v=>rfl
      | none =>
        have:=h.rows.all x hq;rw[this] at hx
        simp at hx
 have hlo:=Qh4 hw.1 ha;have hhi:=Qh4 hw.1 hb;refine Fi Tryz.func349 rfl _ rfl rfl (Hh ?_);refine(Qgv w p width n bs br hh hw a ⟨by omega,by omega⟩).mono ?_;rintro _ _ ⟨rfl,rfl⟩;conv=>whnf
 refine(Qgv _ p width n bs br hh hw b ⟨by omega,by omega⟩).mono ?_;rintro _ w1 ⟨rfl,hw1⟩;subst hw1;generalize a/width=lo at *;generalize b/width=hi at *
 conv=>whnf
 intro b3 w3 hn3;conv=>whnf
 intro b4 w4 hn4;conv=>whnf
 have e3:=hn3.block;have e4:=hn4.block;have s3:=hn3.size;refine Qd Qa (e:=ty3) rfl (hn3.At.ext hn4.ext) rfl rfl rfl (by simp[Qg,Value.oneCell']) fun w5 h5 ho5 => (Hh ?_)
 have h45:At w5 b4 3 [.int .i64 0]:=(ho5.block b4 (by omega)).trans hn4.At;refine Qd Qa (e:=ty3) rfl h45 rfl rfl rfl (by simp[Qg,Value.oneCell']) fun w6 h6 ho6 => ?_
 have hx6:Ext w1 w6:=ho6.ext (ho5.ext (hn3.ext.trans hn4.ext) (by omega)) (by omega);have h63:At w6 b3 3 [.int .i64 lo]:=(ho6.block b3 (by omega)).trans h5;have h64:At w6 b4 3 [.int .i64 hi]:=h6;clear h5 h45 h6 ho5 ho6 hn3 hn4
 conv=>whnf
 refine⟨.map (some br),(hh.ext hx6).one rfl,Hh ?_⟩;refine map_range Q8w (hm.ext hx6) fun w7 hi7 hx7 => ?_
 generalize hr:w6.heap.size=r at hi7 ⊢;have hx:=hx6.trans hx7;have h73:=h63.ext hx7;have h74:=h64.ext hx7;have l3:=h63.lt;have l4:=h64.lt;have s6:=hx6.size;have hbrlt:=hm.lt;have hr7:r<w7.heap.size:=hi7.lt
 conv=>whnf
 refine Qh Qa (fun(i:List (ByteArray×(Option Addr×Nat))×Option Addr×Nat×List ByteArray) w'=>Ext w1 w'∧w7.heap.size≤w'.heap.size∧At w' b3 3 [.int .i64 lo]∧At w' b4 3 [.int .i64 hi]∧Iter w' r br Value.string (toV (Qan s) L) (toV (Qan s) i.1)∧i.2.2.2=(i.1.map (·.1)).filter (fun k=>(Qan s k).any (Qme lo hi))∧Own Qav 1 9 w7.heap.size w' i.2.1 i.2.2.1 i.2.2.2)
  (fun | (vs,A,d,F) => [(7,.pointer (some ⟨b3,0,none⟩)),(8,.pointer (some ⟨b4,0,none⟩)),(9,.slice A F.length d),(22,.pointer (some ⟨r,0,none⟩))]) (fun i=>L.length-i.1.length) ([],none,0,[]) ⟨hx,Nat.le_refl _,h73,h74,hi7,rfl,Own.nil⟩ Rr ?_
 clear hi7 h73 h74;rintro ⟨vs,A,d,F⟩ w8 ⟨hx8,z8,h83,h84,hi8,hF,hown8⟩;simp only at hi8 hF hown8
 have hFl:F.length≤vs.length:=by
  rw[hF];have:=List.length_filter_le (fun k=>(Qan s k).any (Qme lo hi)) (vs.map (·.1));rw[List.length_map] at this
  exact this
 conv=>whnf
 refine Qeb hi8 (fun hp => ?_) (fun x w9 hin hnew hlt hi9 ho9 hen => ?_)
 · have hp1:(vs.map (·.1)).Perm (L.map (·.1)):=by
    have:=hp.map (·.1)
    simpa [toV,List.map_map,Function.comp_def] using this
   have hvl:vs.length=L.length:=by simpa using hp1.length_eq
   have hk:=hK F (by rw[hF];exact hp1.filter _)
   conv=>whnf
   constructor
   · intro hx;cases hx
   intro _
   conv=>whnf
   refine(Qkb F A d w7.heap.size w8 hown8 (by omega)).mono ?_;rintro _ w9 ⟨rfl,hsl9,hx9⟩
   conv=>whnf
   have hl9:F.length=(Qdu s lo hi).length:=by rw[← hk,Qc4]
   refine⟨A,d,by rw[hl9],?_,fun x hx'=>by have:=(hown8.block hx').1;have:=hx.size;omega,hx9 w1 hx8 (by have:=hx.size;omega)⟩;rw[← hk]
   exact hsl9
 · obtain⟨y,hy,rfl⟩:=List.mem_map.1 hin
   have hlt:vs.length<L.length:=by simpa [toV] using hlt
   have hvs:toV (Qan s) vs ++ [(y.1,Value.slice y.2.1 (Qan s y.1).length y.2.2)]=toV (Qan s) (vs ++ [y]):=by simp[toV]
   rw[hvs] at hi9;have s9:=ho9.size;have hx9:=ho9.ext hx8 (by omega);have hown9:=hown8.keep fun a ha=>ho9.block _ (fun e=>by have:=(hown8.block ha).1;have:=hx7.size;have:=hi8.lt;omega)
   have h93:=(ho9.block b3 (by omega)).trans h83;have h94:=(ho9.block b4 (by omega)).trans h84
   have hsn:((vs ++ [y]).map (·.1)).filter (fun k=>(Qan s k).any (Qme lo hi))=F++if(Qan s y.1).any (Qme lo hi)=true then [y.1] else []:=by
    rw[List.map_append,List.filter_append,hF]
    cases hq:(Qan s y.1).any (Qme lo hi) <;> simp[hq]
   have hrow:Sl Qgr 1 w9 y.2.1 (Qan s y.1):=by
    have hro:=h.rows.row y hy;refine Qcn (hro.1.sl Qax) fun a ha => ?_
    have hal:=(hro.1.block ha).2
    exact(ho9.block a.block (by omega)).trans (hx8.block a.block hal)
   have hrl:=Qs1 s y.1;refine Gg ?_;constructor
   · intro _
     refine Gg ?_;refine Qat (hen w9 rfl rfl) ?_;generalize Qan s y.1=row at hrow hrl hsn ⊢;refine Gg ?_;refine(Q3i b3 b4 lo hi row y.2.1 y.2.2 w9 hrow (by omega) h93 h94).mono ?_;rintro _ w10 ⟨rfl,hw10⟩;subst hw10;generalize hq:row.any (Qme lo hi)=q at hsn;refine Gg ?_;constructor
     · intro hc
       have hc:q=true:=hc;rw[if_pos hc] at hsn;refine Gg ?_;intro b11 w11 hn11;refine Gg ?_;refine Qle (l:=F) (news := [y.1]) (hown9.ext hn11.ext) (Qbd Xi (l := [y.1]) hn11) (by simp;omega) (by have:=hn11.size;omega) fun A' c' w12 hown12 hg12 hA12 => ?_
       have s11:=hn11.size;have s12:=hg12.size;have hx12:=Qr (hx9.trans hn11.ext) hg12 (fun k hk=>by have:=Xy hown9 k hk;have:=hx7.size;omega);have hbl:∀ k,k<w7.heap.size→w12.heap[k]? = w10.heap[k]? := fun k hk=>(hg12.block k (by omega) (fun e=>by have:=Xy hown9 k e.symm;omega)).trans (hn11.ext.block k (by omega))
       have hi12:=hi9.keep (hbl br (by have:=hx7.size;omega)) (hbl r hr7);have h123:=(hbl b3 (by have:=hx7.size;omega)).trans h93;have h124:=(hbl b4 (by have:=hx7.size;omega)).trans h94;generalize F ++ [y.1]=F1 at hown12 hsn ⊢;refine Gg ?_
       exact⟨(vs ++ [y],A',c',F1),by simp;omega,⟨hx12,by omega,h123,h124,hi12,hsn.symm,hown12⟩,Rr⟩
     · intro hc
       have hc:q=false:=hc;rw[hc] at hsn;simp only[Bool.false_eq_true,if_false,List.append_nil] at hsn;refine Gg ?_
       exact⟨(vs ++ [y],A,d,F),by simp;omega,⟨hx9,by omega,h93,h94,hi9,hsn.symm,hown9⟩,Rr⟩
   · intro h;cases h
theorem Qvs (w:World) (S:Nat→Prop) (p:Nat) (width n:Int) (s:Qae) (h:Qmw w S p width n s) (hw:1≤width∧width≤1099511627776) (N:Int) (ok:Q9s s N) (a b:Int) (ha:-4398046511104≤a∧a≤4398046511104) (hb:-4398046511104≤b∧b≤4398046511104) :
 Cal Tryz.prog 349 [.pointer (some ⟨p,0,none⟩),.int .i64 a,.int .i64 b] w fun r w'=>∃ A c,r = .slice A (Qdu s (a/width) (b/width)).length c∧SlT w' A (Qdu s (a/width) (b/width))∧Ext w w' :=
 (Qsq w S p width n s h hw N ok a b ha hb).mono fun r w' ⟨A,c,h1,h2,_,h3⟩=>⟨A,c,h1,h2,h3⟩
end Go.Proofs.YtohkipkjleldpaaGreatDoor
namespace Go.Proofs.YtohkipkjleldpaaGreatDoor
open Go.Se Go.RowKit Go.Sort
abbrev Ri:=ByteArray×Int×Int
def riC (x:Ri):List Value := [.string x.1,.int .i64 x.2.1,.int .i64 x.2.2]
theorem Qvy (x:Ri):(riC x).length=3:=rfl
theorem Qvz (x:Ri):∀ u∈riC x,u.oneCell'=true:=by simp[riC,Value.oneCell']
theorem Q8f:Qne Tryz.prog 361 365 riC 3 32:=⟨by kernel_rfl,⟨_,ty365_ok,rfl,rfl⟩,by365,by decide,by decide,Qvy,Qvz⟩
def riR (x:Ri):Int×Int:=(x.2.1,x.2.2+1)
def Qq0 (x:Ri):Prop:=(0≤x.2.1∧x.2.1≤10000000)∧(0≤x.2.2∧x.2.2≤10000000)
theorem Q9c {x:Ri} (h:Qq0 x):Qla 100000000 (riR x):=by
 unfold Qq0 at h;unfold Qla riR;simp only;omega
theorem Qpz {A B:Array Obj} {b:Nat} (hb:A.size≤b) (f:Obj→Obj):(A++B).modify b f=A++B.modify (b-A.size) f:=by
 apply Array.ext_getElem?
 intro i;rw[Array.getElem?_modify,Array.getElem?_append,Array.getElem?_append,Array.getElem?_modify]
 by_cases h1:b=i
 · subst h1
   rw[if_pos rfl,if_neg (by omega),if_neg (by omega),if_pos rfl]
 · rw[if_neg h1]
   by_cases h2:i<A.size
   · rw[if_pos h2,if_pos h2]
   · rw[if_neg h2,if_neg h2,if_neg (by omega)]
theorem Xch {w0 w:World} {b:Nat} {cs:Array Value} (h:Gr w0 w) (hb:w0.heap.size≤b):Gr w0 (w.setRow b cs):=by
 obtain⟨q,os,rfl⟩:=h;have key:=Qpz (A:=w0.heap) (B:=os) hb (fun | .cells _ elem frozen=>Obj.cells cs elem frozen | o=>o)
 exact⟨q,_,congrArg (fun h=>({ heap:=h,tape:=w0.tape,drawn:=w0.drawn+q,os:=w0.os,output:=w0.output }:World)) key⟩
theorem Q8k {P:Program} {T:Tab} (hT:Qa7 P T) {t:TypeId} {e:TyE} (ht:Qg9 T t=some e) {w0 w:World} (hg:Gr w0 w) {R:Value→World→Prop} {b tb off:Nat} {l:List Value} {v:Value} {p:Addr} (h:At w b tb l) (hb:w0.heap.size≤b) (hp:p=⟨b,off,none⟩) (hn:(Qg v).length=e.size) (hle:Nat.ble (off+e.size) l.length=true) (hone:∀ u∈Qg v,u.oneCell'=true)
 (hk:∀ w',At w' b tb (spl l off (Qg v))→Gr w0 w'→R undef w'):Qub P (Instr.storeAt t (.pointer (some p)) v) w R:=by
 subst hp;have hst:=run_storeCells_at P b off tb (Qg v) 0 l.toArray w h (by have:=Nat.le_of_ble_eq_true hle;simp;omega) hone;have hvs:v.cells.size=e.size:=by rw[← hn,← Qab];simp
 refine⟨w.setRow b (spl l off (Qg v)).toArray,?_,hk _ ?_ (Xch hg hb)⟩
 · simp[Instr.storeAt,Instr.sureAddr,storeVar,Qiw (hT.get ht),hvs,Qab]
   simpa [spl] using hst
 · have:=setRow_heap w b l.toArray (spl l off (Qg v)).toArray tb (0,0) h
   simpa [Se.At,spl] using this
theorem Qmi (x:Ri) (h:Qq0 x) (w:World):Cal Tryz.prog 324 [.agg (riC x).toArray] w fun r w'=>r=Qhq (riR x)∧Gr w w':=by
 obtain⟨h1,h2⟩:=h;refine Fi Tryz.func324 rfl _ rfl rfl (Hh ?_);intro b1 w1 hn1;conv=>whnf
 intro b2 w2 hn2;conv=>whnf
 have a1:At w2 b1 _ (riC x):=hn1.At.ext hn2.ext;have hg2:=(Qbw hn1).trans (Qbw hn2);have e2:=hn2.block;have s1:=hn1.ext.size;refine⟨.int .i64 x.2.1,a1.one rfl,Hh ?_⟩;refine⟨.int .i64 x.2.2,fun _=>a1.one rfl,Hh ?_⟩;refine⟨.int .i64 x.2.2,fun _=>a1.one rfl,Hh ?_⟩;constructor
 · intro hc
   exfalso
   simp at hc
   omega
 intro _
 conv=>whnf
 refine⟨.int .i64 x.2.1,a1.one rfl,Hh ?_⟩;refine⟨.int .i64 x.2.2,a1.one rfl,Hh ?_⟩;refine⟨x.2.2+1,wrap_eq rfl ⟨by omega,by omega⟩,Hh ?_⟩;refine Q8k Qa (e:=ty71) rfl hg2 hn2.At (by omega) rfl rfl rfl (by simp[Qg,Value.oneCell']) fun w3 h3 hg3 => ?_
 conv=>whnf
 refine⟨Qhk (riR x),⟨rfl,h3.all⟩,Hh ?_⟩
 exact⟨rfl,hg3⟩
def Q98 (a b:Ri):Int:=orL [Qmx (riR b) (riR a),Qd0 b.2.1 a.2.1,Qd7 a.1 b.1]
theorem Qzf (a b:Ri) (ha:Qq0 a) (hb:Qq0 b) (w:World):Cal Tryz.prog 352 [.agg (riC a).toArray,.agg (riC b).toArray] w fun r w'=>r = .int .i64 (Q98 a b)∧Gr w w':=by
 refine Fi Tryz.func352 rfl _ rfl rfl (Hh ?_);intro b1 w1 hn1;conv=>whnf
 intro b2 w2 hn2;have h1:At w2 b1 _ (riC a):=hn1.At.ext hn2.ext;have h2:At w2 b2 _ (riC b):=hn2.At;have hx:=(Qbw hn1).trans ((Qbw hn2).trans (Gr.drew w2))
 conv=>whnf
 refine Dr .ext [0,2,5,6,7,8,10,11,12,13,1,3,4,9] [14,15,16,17] (Hh ?_);replace h1:At w2.drew b1 _ _:=h1;replace h2:At w2.drew b2 _ _:=h2;generalize w2.drew=w3 at h1 h2 hx ⊢;refine⟨riC b,⟨rfl,h2.all⟩,Hh ?_⟩;refine⟨riC a,⟨rfl,h1.all⟩,Hh ?_⟩;refine⟨_,h2.one rfl,Hh ?_⟩;refine⟨_,h1.one rfl,Hh ?_⟩;refine⟨_,h1.one rfl,Hh ?_⟩;refine⟨_,h2.one rfl,Hh ?_⟩;refine(Qmi b hb w3).mono ?_;rintro _ w4 ⟨rfl,hg4⟩;refine⟨hg4.ext,Hh ?_⟩;refine(Qmi a ha w4).mono ?_;rintro _ w5 ⟨rfl,hg5⟩;refine⟨hg5.ext,Hh ?_⟩;refine(Qdg (by omega) (riR b) (riR a) (Q9c hb) (Q9c ha) w5).mono ?_;rintro _ w6 ⟨rfl,hg6⟩;refine⟨hg6.ext,Hh ?_⟩;refine(Qi6 _ _ _).mono ?_;rintro _ w7 ⟨rfl,hw7⟩;subst hw7;refine⟨Ext.refl _,Hh ?_⟩;refine(Qcj _ _ _).mono ?_;rintro _ w8 ⟨rfl,hw8⟩;subst hw8
 conv=>whnf
 intro b9 w9 hn9;conv=>whnf
 refine(Qf4 [Qmx (riR b) (riR a),Qd0 b.2.1 a.2.1,Qd7 a.1 b.1] _ _ _ (Qbd (enc:=Qgr) Qax hn9) (by simp)).mono ?_;rintro _ w10 ⟨rfl,hw10⟩;subst hw10
 conv=>whnf
 exact⟨rfl,(hx.trans (hg4.trans (hg5.trans hg6))).trans (Qbw hn9)⟩
abbrev RiS:={ x:Ri // Qq0 x }
instance:Inhabited RiS:=⟨⟨(⟨#[]⟩,0,0),by unfold Qq0;simp⟩⟩
def Qhb (a b:RiS):Int:=Q98 a.1 b.1
theorem Qli:Qhb=Q6q (fun a b:RiS=>Qmx (riR b.1) (riR a.1)) (Q6q (fun a b:RiS=>Qd0 b.1.2.1 a.1.2.1) (fun a b:RiS=>Qd7 a.1.1 b.1.1)):=by
 funext a b
 unfold Qhb Q98 Q6q orL
 by_cases h1:Qmx (riR b.1) (riR a.1)=0
 · by_cases h2:Qd0 b.1.2.1 a.1.2.1=0
   · by_cases h3:Qd7 a.1.1 b.1.1=0 <;> simp[h1,h2,h3]
   · simp[h1,h2]
 · simp[h1]
theorem Qrm:SWO (ltOf Qhb):=by
 rw[Qli];refine(WC.lex (WC.flip (Q6n (fun x:RiS=>riR x.1) fun x => ?_)) (WC.lex (WC.flip (Q9p fun x:RiS=>x.1.2.1)) (Qwy fun x:RiS=>x.1.1))).swo;have:=x.2.2.1;unfold riR;simp only;omega
theorem Qwe (l:List RiS) (A:Option Addr) (c base:Nat) (w:World) (hown:Own (fun x:RiS=>riC x.1) 3 365 base w A c l) (hl:l.length<1000000) :
 Cal Tryz.prog 351 [.slice A l.length c,.func (.func 352) #[] #[]] w fun r w'=>r = .tuple #[]∧∃ F:List RiS,F.Perm l∧Srt (ltOf Qhb) F∧Sl (fun x:RiS=>riC x.1) 3 w' A F∧∀ w0,Ext w0 w→w0.heap.size≤base→Ext w0 w' :=
 Qgd Tryz.sortRise (enc:=fun x:RiS=>riC x.1) (by decide) Tryz.isAgg365 Tryz.sizeOf365 (fun x=>Qvy x.1) (fun x=>Qvz x.1) Qhb Qrm ⟨_,Tryz.func351,rfl,rfl⟩ (enters_of Tryz.func352 (by kernel_rfl) rfl) l A c base w hown hl (fun x y w' _=>Qzf x.1 y.1 x.2 y.2 w') (cb := #[])
def Xa7 (s:Qae) (l1 l2 l3:Int) (key:ByteArray):Ri:=(key,paS s key l2 l3,paS s key l1 l2)
def Qdc (s:Qae) (l1 l2 l3 floor:Int) (K:List ByteArray):List Ri:=(K.map (Xa7 s l1 l2 l3)).filter fun r=>decide (floor≤r.2.1)
theorem Qq7 {l:List Ri} (h:∀ x∈l,Qq0 x):∃ L:List RiS,L.map (·.1)=l:=by
 induction l with
 | nil=>exact⟨[],rfl⟩
 | cons x l ih =>
   obtain⟨L,hL⟩:=ih fun y hy=>h y (by simp[hy])
   exact⟨⟨x,h x (by simp)⟩ :: L,by rw[List.map_cons,hL]⟩
theorem Q4t {α β:Type} {enc:α→List Value} {sz:Nat} {te:TypeId} {base:Nat} {w:World} {A:Option Addr} {c:Nat} {f:β→α} {l:List β} (h:Own enc sz te base w A c (l.map f)):Own (fun x=>enc (f x)) sz te base w A c l:=by
 unfold Own at *;rw[List.length_map,List.flatMap_map] at h
 exact h
theorem Q9h {α β:Type} {enc:α→List Value} {sz:Nat} {w:World} {A:Option Addr} {f:β→α} {l:List β} (h:Sl (fun x=>enc (f x)) sz w A l):Sl enc sz w A (l.map f):=by
 intro i x hi;rw[List.getElem?_map] at hi
 cases hq:l[i]? with
 | none=>rw[hq] at hi;simp at hi
 | some y =>
   rw[hq] at hi
   simp at hi
   subst hi
   exact h i y hq
set_option maxHeartbeats 1000000 in
theorem Qsz (w:World) (S:Nat→Prop) (p:Nat) (width n:Int) (s:Qae) (h:Qmw w S p width n s) (hw:1≤width∧width≤1099511627776) (ok:Q9s s 10000000) (hsum:∀ key lo hi,paS s key lo hi≤10000000) (span now floor:Int) (hs:1≤span∧span≤1099511627776) (hd:span.tmod width=0) (hn:0≤now∧now≤1099511627776) :
 Cal Tryz.prog 308 [.pointer (some ⟨p,0,none⟩),.int .i64 span,.int .i64 now,.int .i64 floor] w fun r w'=>∃ A c,∃ F:List RiS,r = .slice A F.length c∧(F.map (·.1)).Perm (Qdc s ((now-now.tmod width-2*span)/width) ((now-now.tmod width-span)/width) ((now-now.tmod width)/width) floor (Qdu s ((now-now.tmod width-span)/width) ((now-now.tmod width)/width)))∧Srt (ltOf Qhb) F∧Sl riC 3 w' A (F.map (·.1))∧F.length≤c∧Ext w w':=by
 have hm0:0≤now.tmod width:=Int.tmod_nonneg _ hn.1;have hm1:now.tmod width<width:=Int.tmod_lt_of_pos _ (by omega);have hlen:=ok.len;have hps:=fun key lo hi=>(Qsr ok.small ok.N0 key lo hi).1
 refine Fi Tryz.func308 rfl _ rfl rfl (Hh ?_);refine⟨_,Qcq Xd9 _ _ _,Hh ?_⟩;refine⟨Unit,fun _=>(.int .i64 width),fun _ w'=>Ext w w',(),fun hg=>((Qj8 w S p width n s h)).mono fun r w' h=>⟨(),h.1,h.2⟩,?_⟩;intro _ w1 h2
 have hx1:Ext w w1:=by
  rcases h2 with⟨_,h⟩ | ⟨_,h⟩
  · exact h
  · rw[h];exact Ext.refl _
 clear h2
 conv=>whnf
 refine⟨span.tmod width,fun _=>⟨by omega,rfl⟩,Hh ?_⟩;constructor
 · intro hc
   exfalso
   simp[hd] at hc
   omega
 intro _
 conv=>whnf
 refine(Qj8 w1 S p width n s (h.ext hx1)).mono ?_;rintro _ w1b ⟨rfl,hx1b⟩;replace hx1:=hx1.trans hx1b
 conv=>whnf
 refine⟨now.tmod width,⟨by omega,rfl⟩,Hh ?_⟩;refine⟨now-now.tmod width,wrap_eq rfl ⟨by omega,by omega⟩,Hh ?_⟩
 have hb1:0≤now-now.tmod width:=by
  have:=Int.tmod_add_mul_tdiv now width;have h2:0≤now.tdiv width:=Int.tdiv_nonneg hn.1 (by omega);have h3:0≤width*now.tdiv width:=Int.mul_nonneg (by omega) h2;omega
 have hb2:now-now.tmod width≤1099511627776:=by omega
 generalize now-now.tmod width=b at hb1 hb2 ⊢;refine⟨b-span,wrap_eq rfl ⟨by omega,by omega⟩,Hh ?_⟩;refine(Qvs _ S p width n s (h.ext hx1) hw _ ok (b-span) b ⟨by omega,by omega⟩ ⟨by omega,by omega⟩).mono ?_;rintro _ w2 ⟨KA,Kc,rfl,hK,hx2⟩;have hKl:=Qsd s ((b-span)/width) (b/width);generalize Qdu s ((b-span)/width) (b/width)=K at hK hKl ⊢;replace hx2:=hx1.trans hx2;have hrn:=fun k (hk:k<K.length)=>(List.take_succ_eq_append_getElem hk)
 conv=>whnf
 refine Qh Qa (fun(i:Nat×Option Addr×Nat×List Ri) w'=>i.1≤K.length∧Ext w2 w'∧i.2.2.2=Qdc s ((b-2*span)/width) ((b-span)/width) (b/width) floor (K.take i.1)∧Own riC 3 365 w2.heap.size w' i.2.1 i.2.2.1 i.2.2.2)
  (fun | (k,A,d,F) => [(0,.pointer (some ⟨p,0,none⟩)),(1,.int .i64 span),(3,.int .i64 floor),(9,.int .i64 b),(10,.slice A F.length d),(50,.slice KA K.length Kc),(51,.int .i64 K.length),(52,.int .i64 (k:Nat))]) (fun i=>K.length-i.1) (0,none,0,[]) ⟨Nat.zero_le _,Ext.refl _,rfl,Own.nil⟩ Rr ?_
 rintro ⟨k,A,d,F⟩ w3 ⟨hk,hx3,hF,hown3⟩;simp only at hk hF hown3
 have hFl:F.length≤k:=by
  rw[hF];unfold Qdc;refine Nat.le_trans (List.length_filter_le _ _) ?_;rw[List.length_map,List.length_take];omega
 conv=>whnf
 constructor
 · intro hlt
   have hlt:k<K.length:=by simpa using hlt
   obtain⟨a2,hA,hc2⟩:=(hK.ext hx3).get hlt;subst hA
   have htk:Qdc s ((b-2*span)/width) ((b-span)/width) (b/width) floor (K.take (k+1))=F++if floor≤(Xa7 s ((b-2*span)/width) ((b-span)/width) (b/width) K[k]).2.1 then [Xa7 s ((b-2*span)/width) ((b-span)/width) (b/width) K[k]] else []:=by
    rw[hF,List.take_succ_eq_append_getElem hlt];unfold Qdc;rw[List.map_append,List.filter_append]
    congr 1
    by_cases hq:floor≤(Xa7 s ((b-2*span)/width) ((b-span)/width) (b/width) K[k]).2.1 <;> simp[hq]
   generalize K[k]=key at hc2 htk;refine Gg ?_;refine⟨a2,Ix,Gg ?_⟩;refine⟨.string key,Qv hc2,Gg ?_⟩;refine⟨b-span,wrap_eq rfl ⟨by omega,by omega⟩,Gg ?_⟩;have hP3:=h.ext (hx2.trans hx3);refine(Qn6 w3 S p width n s hP3 hw _ ok key (b-span) b ⟨by omega,by omega⟩ ⟨by omega,by omega⟩).mono ?_;rintro _ w3' ⟨rfl,hw3⟩;subst hw3;refine Gg ?_;refine⟨2*span,wrap_eq rfl ⟨by omega,by omega⟩,Gg ?_⟩;refine⟨b-2*span,wrap_eq rfl ⟨by omega,by omega⟩,Gg ?_⟩;refine⟨b-span,wrap_eq rfl ⟨by omega,by omega⟩,Gg ?_⟩;refine(Qn6 _ S p width n s hP3 hw _ ok key (b-2*span) (b-span) ⟨by omega,by omega⟩ ⟨by omega,by omega⟩).mono ?_;rintro _ w3'' ⟨rfl,hw3⟩;subst hw3;obtain⟨x,hx⟩:∃ x,x=Xa7 s ((b-2*span)/width) ((b-span)/width) (b/width) key:=⟨_,rfl⟩;rw[← hx] at htk;have hx21:paS s key ((b-span)/width) (b/width)=x.2.1:=by rw[hx];rfl
   have hx22:paS s key ((b-2*span)/width) ((b-span)/width)=x.2.2:=by rw[hx];rfl
   have hx1':key=x.1:=by rw[hx];rfl
   rw[hx21,hx22,hx1'];clear hx hx21 hx22 hx1';refine Gg ?_;intro b4 w4 hn4;refine Gg ?_;refine Qd Qa (e:=ty365) rfl hn4.At rfl rfl rfl (by simp[Qg,Value.oneCell']) fun w5 h5 ho5 => ?_
   have h5:At w5 b4 365 (riC x):=h5;have e4:=hn4.block;have s3:=hx3.size;have hx35:Ext w3'' w5:=ho5.ext hn4.ext (by omega);have hx5:=hx3.trans hx35;have hown5:=hown3.ext hx35;clear ho5 hn4;refine Gg ?_;refine⟨.int .i64 x.2.1,h5.one rfl,Gg ?_⟩;constructor
   · intro hc
     have hc:floor≤x.2.1:=by simpa using hc
     rw[if_pos hc] at htk;refine Gg ?_;refine⟨riC x,⟨rfl,h5.all⟩,Gg ?_⟩;intro b6 w6 hn6;refine Gg ?_;refine Qs Q8f (l:=F) (news := [x]) rfl (hown5.ext hn6.ext) rfl (Q8f.new1 (x:=x) hn6) (by simp;omega) ((hx5.trans hn6.ext).size) fun A' c' w7 hown7 hg7 hA7 => ?_
     have hx7:=Qr (hx5.trans hn6.ext) hg7 (Xy hown5);generalize F ++ [x]=F1 at hown7 htk ⊢;refine Gg ?_;refine⟨_,wrap_succ (by omega),Gg ?_⟩
     exact⟨(k+1,A',c',F1),by simp only;omega,⟨by simp only;omega,hx7,htk.symm,hown7⟩,Rr⟩
   · intro hc
     have hc:¬ floor≤x.2.1:=by simpa using hc
     rw[if_neg hc,List.append_nil] at htk;refine Gg ?_;refine⟨_,wrap_succ (by omega),Gg ?_⟩
     exact⟨(k+1,A,d,F),by simp only;omega,⟨by simp only;omega,hx5,htk.symm,hown5⟩,Rr⟩
 · intro hge
   have hge:K.length≤k:=by simpa using hge
   rw[List.take_of_length_le hge] at hF;rw[← hF]
   have hokF:∀ x∈F,Qq0 x:=fun x hx=>by
    rw[hF] at hx;unfold Qdc at hx;obtain⟨y,_,rfl⟩:=List.mem_map.1 (List.mem_filter.1 hx).1
    exact⟨⟨hps _ _ _,hsum _ _ _⟩,⟨hps _ _ _,hsum _ _ _⟩⟩
   obtain⟨L,hL⟩:=Qq7 hokF;have hLl:L.length=F.length:=by rw[← hL,List.length_map]
   have hownL:Own (fun x:RiS=>riC x.1) 3 365 w2.heap.size w3 A d L:=Q4t (f:=fun x:RiS=>x.1) (by rw[hL];exact hown3);have hsort:=Qwe L A d w2.heap.size w3 hownL (by omega);rw[hLl] at hsort
   conv=>whnf
   refine hsort.mono ?_;rintro _ w4 ⟨rfl,F4,hp4,hs4,hsl4,hx4⟩
   conv=>whnf
   have hpF:=hp4.map (fun x:RiS=>x.1);rw[hL] at hpF
   exact⟨A,d,F4,by rw[← hpF.length_eq,List.length_map],hpF,hs4,Q9h hsl4,by rw[← List.length_map (f:=fun x:RiS=>x.1),hpF.length_eq];exact hown3.le,hx4 w (hx2.trans hx3) hx2.size⟩
end Go.Proofs.YtohkipkjleldpaaGreatDoor
namespace Go.Proofs.YtohkipkjleldpaaGreatDoor
open Go.Se Go.RowKit
theorem Qht (gap:Int) (L:List Ad3) (a:Ad3):allL gap (L ++ [a])=Qa8 gap (allL gap L) a:=by unfold allL;rw[List.foldl_append];rfl
theorem Que (gap:Int) (acc:List Sn) (a:Ad3):(Qa8 gap acc a).length≤acc.length+1:=by
 unfold Qa8
 split
 · split
   · simp
   · simp
 · simp
theorem Q6v (gap:Int):∀ L:List Ad3,(allL gap L).length≤L.length:=by
 refine Qu (by simp[allL]) fun L a ih => ?_
 rw[Qht];have:=Que gap (allL gap L) a
 simp;omega
theorem Qyz (gap:Int):∀ L:List Ad3,∀ q∈allL gap L,q.items.length≤L.length:=by
 refine Qu (fun q hq=>by simp[allL] at hq) fun L a ih q hq => ?_
 rw[Qht] at hq;rw[List.length_append,List.length_singleton];unfold Qa8 at hq
 split at hq
 · next g hg =>
   have hgm:g∈allL gap L:=List.mem_of_getLast? hg;have hgl:=ih g hgm
   split at hq
   · rcases List.mem_append.1 hq with hq | hq
     · have:=ih q (List.dropLast_subset _ hq);omega
     · rw[List.mem_singleton] at hq
       subst hq;have:=Qpl (lt:=bLt) a.2.2 g.items;simp only;omega
   · rcases List.mem_append.1 hq with hq | hq
     · have:=ih q hq;omega
     · rw[List.mem_singleton] at hq
       subst hq
       simp
 · rcases List.mem_append.1 hq with hq | hq
   · have:=ih q hq;omega
   · rw[List.mem_singleton] at hq
     subst hq
     simp
theorem Q9l (T:Int) (I:ByteArray):∀ m:Qd1,((Q7 m T (Q7 ((Qe m T).getD []) I true)).map fun x=>x.2.length).sum≤(m.map fun x=>x.2.length).sum+1
 | []=>by simp[Q7,Qe]
 | y :: m=>by
   have ih:=Q9l T I m;rw[Qng];unfold Q7
   by_cases h:T=y.1
   · rw[if_pos h,if_pos h]
     have:=Qcp I true y.2;simp only[Option.getD_some,List.map_cons,List.sum_cons];omega
   · rw[if_neg h,if_neg h]
     simp only[List.map_cons,List.sum_cons];omega
theorem Xc7:∀ l:List Ev,∀ p,((tks (Qg7 l) p).map fun x=>x.2.length).sum≤l.length:=by
 refine Qu (fun p=>by simp[Qg7,tks,Qe]) fun l e ih p => ?_
 rw[Qwk,Qk5,List.length_append,List.length_singleton]
 split
 · next h =>
   have h1:=Q9l e.at_ e.item (tks (Qg7 l) e.person);have h2:=ih e.person;omega
 · have:=ih p;omega
theorem Q52 {α:Type} [DecidableEq α] {V E:List α} (hn:V.Nodup) (hs:∀ x∈V,x∈E):V.length≤E.length:=Qdh hn hs
theorem Xes (gap:Int) (hg:0≤gap) (l:List Ev) (hlm:∀ e∈l,Xn e=true∧wpB e=true) (hll:l.length<1000):Xdq gap (Qg7 l)∧Q16 (Qim gap (Qg7 l))∧(Qim gap (Qg7 l)).length<1000:=by
 have hsa:=Q5t gap hg l;have hE:Qim gap (Qg7 l)=allL gap (Qeu ahB (l.map adE)):=hsa.symm;have is:=Xbf l;have hil:=Qzy (lt:=ahB) (l.map adE);rw[List.length_map] at hil
 have hname:∀ e∈l,e.person.size≤1000∧e.item.size≤1000:=fun e he=>by
  have h:=hlm e he;have hw:0<Qy e:=by simpa [wpB] using h.2
  have hn:=Qdz h.1 hw;have h1:=Qdv hn.1;have h2:=Qdv hn.2;omega
 have hper:(Qg7 l).length≤l.length:=by
  have:=Q52 (V:=(Qg7 l).map (·.1)) (E:=l.map (·.person)) (Xx is.keys) fun x hx=>by
   obtain⟨e,he,h⟩:=(is.person x).1 hx
   exact List.mem_map.2 ⟨e,he,h⟩
  simpa using this
 have htk:∀ p,(tks (Qg7 l) p).length≤l.length:=fun p=>by
  have:=Q52 (V:=(tks (Qg7 l) p).map (·.1)) (E:=l.map (·.at_)) (Qlu (is.ticks p)) fun x hx=>by
   obtain⟨e,he,_,h⟩:=(is.tick p x).1 hx
   exact List.mem_map.2 ⟨e,he,h⟩
  simpa using this
 refine⟨⟨fun x hx => ?_,fun p=>⟨fun x hx => ?_,fun x hx y hy => ?_,?_,?_⟩,by omega,fun ps hps => ?_⟩,fun q hq => ?_,?_⟩
 · obtain⟨e,he,h⟩:=(is.person x.1).1 (List.mem_map.2 ⟨x,hx,rfl⟩)
   rw[← h]
   exact(hname e he).1
 · obtain⟨e,he,_,h⟩:=(is.tick p x.1).1 (List.mem_map.2 ⟨x,hx,rfl⟩)
   rw[← h]
   exact(Qbq.1 (hlm e he).1).at_
 · have hl:=Qcd (is.ticks p) (show (x.1,x.2)∈tks (Qg7 l) p from hx)
   have hy1:y.1∈Xk (tks (Qg7 l) p) x.1:=by
    unfold Xk;rw[hl]
    exact List.mem_map.2 ⟨y,hy,rfl⟩
   obtain⟨e,he,_,_,h⟩:=(is.item p x.1 y.1).1 hy1;rw[← h]
   exact(hname e he).2
 · have:=htk p
   show (tks (Qg7 l) p).length<_
   omega
 · have:=Xc7 l p
   show ((tks (Qg7 l) p).map _).sum<_
   omega
 · have h1:ps.length≤l.length:=by
    have:=hps.length_le;rw[Qc4,List.length_map] at this;omega
   have h2:∀ ps:List ByteArray,(ps.flatMap (Qe2 gap (Qg7 l))).length≤ps.length*l.length:=by
    intro ps
    induction ps with
    | nil=>simp
    | cons p ps ih =>
      rw[List.flatMap_cons,List.length_append,List.length_cons,Nat.succ_mul]
      have h3:(Qe2 gap (Qg7 l) p).length≤l.length:=by
       unfold Qe2;rw[List.length_map];have:=Q7r gap ((Qe (Qg7 l) p).getD []);have:=htk p;unfold tks at this;omega
      omega
   have h3:=h2 ps;have h4:ps.length*l.length≤999*999:=Nat.mul_le_mul (by omega) (by omega);omega
 · have h1:=hq
   rw[hE] at hq;have h2:=Qyz _ _ q hq;unfold Qim at h1;obtain⟨p,_,hp⟩:=List.mem_flatMap.1 h1;unfold Qe2 at hp;obtain⟨g,_,hgq⟩:=List.mem_map.1 hp
   exact⟨g.2.2,by rw[← hgq];rfl,by omega⟩
 · rw[hE]
   have:=Q6v gap (Qeu ahB (l.map adE));omega
theorem Xb2 (c:Cfg) (z:List Ev) (hm:∀ e∈z,Xn e=true) (hz:z.length<1000):Xec c z:=by
 have hll:=List.length_filter_le wpB z;have h:=Xes (Q3c c.gap) (by unfold Q3c;omega) (z.filter wpB) (fun e he=>⟨hm e (List.mem_filter.1 he).1,(List.mem_filter.1 he).2⟩) (by omega)
 exact⟨h.1,h.2.1,h.2.2⟩
theorem Qva (l:List ByteArray) (A:Option Addr) (c:Nat) (x:ByteArray) (w:World) (hs:SlT w A l) (hl:l.length<1000000) :
 Cal Tryz.prog 47 [.slice A l.length c,.string x] w fun r w'=>(∃ i:Int,r = .int .i64 i ∧ -1≤i∧(0≤i↔x∈l))∧w'=w:=by
 refine Fi Tryz.func47 rfl _ rfl rfl (Hh ?_)
 refine Qh Qa (fun(k:Nat) w'=>k≤l.length∧x∉l.take k∧w'=w)
  (fun k => [(0,.slice A l.length c),(1,.string x),(7,.int .i64 l.length),(8,.int .i64 (k:Nat))]) (fun k=>l.length-k) 0 ⟨Nat.zero_le _,by simp,rfl⟩ Rr ?_
 rintro k w2 ⟨hk,hno,hw2⟩;subst hw2
 conv=>whnf
 constructor
 · intro hlt
   have hlt:k<l.length:=by simpa using hlt
   obtain⟨a2,hA,hc2⟩:=hs.get hlt;subst hA;have htk:x∈l.take (k+1)↔x=l[k]:=by rw[List.take_succ_eq_append_getElem hlt,List.mem_append,List.mem_singleton];simp[hno]
   have hmem:l[k]∈l:=List.getElem_mem hlt;generalize l[k]=y at hc2 htk hmem
   conv=>whnf
   refine⟨a2,Ix,Hh ?_⟩;refine⟨.string y,Qv hc2,Hh ?_⟩;constructor
   · intro hc
     have hc:x=y:=by simpa using hc
     conv=>whnf
     exact⟨⟨k,rfl,by omega,by simp[hc,hmem]⟩,rfl⟩
   · intro hc
     have hc:¬ x=y:=by simpa using hc
     conv=>whnf
     refine⟨_,wrap_succ (by omega),Hh ?_⟩
     exact⟨k+1,by omega,⟨by omega,fun h=>hc (htk.1 h),rfl⟩,Rr⟩
 · intro hge
   have hge:l.length≤k:=by simpa using hge
   rw[List.take_of_length_le hge] at hno
   conv=>whnf
   exact⟨⟨-1,rfl,by omega,by simp[hno]⟩,rfl⟩
theorem Qm5 (l:List ByteArray) (A:Option Addr) (c:Nat) (x:ByteArray) (w:World) (hs:SlT w A l) (hl:l.length<1000000) :
 Cal Tryz.prog 15 [.slice A l.length c,.string x] w fun r w'=>r = .bool (decide (x∈l))∧w'=w:=by
 refine Fi Tryz.func15 rfl _ rfl rfl (Hh ?_);refine(Qva l A c x w hs hl).mono ?_;rintro _ _ ⟨⟨i,rfl,hi1,hi2⟩,rfl⟩
 conv=>whnf
 refine⟨?_,rfl⟩
 by_cases hq:x∈l
 · rw[decide_eq_true (hi2.2 hq),decide_eq_true hq]
 · rw[decide_eq_false (fun h=>hq (hi2.1 h)),decide_eq_false hq]
theorem Xc4 (width:Int) (z:List Ev):(Ql width z).rs.length≤z.length:=by
 have h:=(Qdt width z).2;have h1:=congrArg List.length h;unfold evs at h1;rw[List.length_map] at h1;rw[h1]
 exact List.length_filter_le _ _
theorem Xd1 (width:Int) {z:List Ev} (hm:∀ e∈z,Xn e=true) (hz:z.length<100000):Q9s (Qt7 width (z.filter wpB)) 10000000:=by
 have hc:=Qg4 width z hm;have hps:=(Qdd width z).2.1;have h1:=hc.ps;have h2:=hc.pl;rw[hps] at h1 h2
 exact⟨Xa6 width _,Qe0 h1 (by omega),by omega,by omega,by omega⟩
theorem Xd0 (width:Int) {z:List Ev} (hm:∀ e∈z,Xn e=true) (hz:z.length<100000) (key:ByteArray) (lo hi:Int):paS (Qt7 width (z.filter wpB)) key lo hi≤10000000:=by
 have hl:=List.length_filter_le wpB z;rw[Xcw width key lo hi _ fun e he=>(List.mem_filter.1 he).2];have:=(Q76 (Q9q hm) width key lo hi).2;omega
structure Quc (c:Cfg) (z:List Ev):Prop where
 cfg:Qt3 c=true
 len:z.length<1000
end Go.Proofs.YtohkipkjleldpaaGreatDoor
