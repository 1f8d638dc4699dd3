/- Several texts in one: Rf1, Rf2, Rf3. -/
import Derived.Test.YteabekcdcphjpaaGreatDoorGN
import Derived.Test.YteabekcdcphjpaaGreatDoorGXA
import Derived.Test.YteabekcdcphjpaaGreatDoorHPl8
import Derived.Test.YteabekcdcphjpaaGreatDoorGL
import Derived.Test.YteabekcdcphjpaaGreatDoorGK
import Derived.Test.YteabekcdcphjpaaGreatDoorGC
set_option linter.unusedVariables false
set_option linter.unusedSimpArgs false
namespace Go.Proofs.YteabekcdcphjpaaGreatDoor
open Go.Se Go.RowKit
theorem Qo3 (age half:Int) (ha:-4611686018427387904<=age/\age<=4611686018427387904) (hh:half<=4611686018427387904) (w:World) :
 Cal Tryz.prog 185 [.int .i64 age,.int .i64 half] w fun r w'=>r = .int .i64 (Xq age half)/\w'=w:=by
 refine Fi Tryz.func185 rfl _ rfl rfl (Hh ?_);refine Xj Qa (ι:=Int) (fun q => [(0,.int .i64 age),(1,.int .i64 q)]) (fun q w'=>q=max half 1/\w'=w) ?_ ?_
 . (conv=>whnf)
   constructor
   . intro hc
     have hc:half<1:=by simpa using hc
     conv=>whnf
     exact⟨1,⟨by omega,rfl⟩,Rr⟩
   . intro hc
     have hc:¬ half<1:=by simpa using hc
     conv=>whnf
     exact⟨half,⟨by omega,rfl⟩,Rr⟩
 rintro h w1 ⟨hh1,hw1⟩;subst hw1;have hh2:1<=h/\h<=4611686018427387904:=by omega
 conv=>whnf
 constructor
 . intro hc
   have hc:age<0:=by simpa using hc
   conv=>whnf
   exact⟨by rw[Qh8 hc],rfl⟩
 intro hc;have hc:¬ age<0:=by simpa using hc
 rw[Qoq hc,<- hh1]
 conv=>whnf
 refine Qd Qa (fun(q:Nat×Int) w'=>q.1*h<=age/\q.2=age-q.1*h/\w'=w1) (fun | (i,t) => [(0,.int .i64 t),(1,.int .i64 h),(5,.int .i64 (Qe4 i))]) (fun q=>21-q.1) (0,age) ⟨by simp;omega,by simp,rfl⟩ Rr ?_;rintro ⟨i,t⟩ w2 ⟨hi,ht,hw2⟩;simp only at hi ht;subst hw2;have hi0:0<=(i:Int)*h:=Int.mul_nonneg (by omega) (by omega);have hm:((i+1:Nat):Int)*h=i*h+h:=by rw[Int.natCast_succ,Int.add_mul,Int.one_mul]
 conv=>whnf
 constructor
 . intro hq
   have hq:h<=t/\0<Qe4 i:=by simpa using hq
   have hi20:i<=20:=by
    rcases Nat.lt_or_ge 20 i with h1 | h1
    . have:=Qft (i:=i) (by omega);omega
    . exact h1
   have hb:=Qi9 i;have hb1:=Qi9 (i+1);have hs:=Qpn i
   conv=>whnf
   refine⟨t-h,wrap_eq rfl ⟨by omega,by omega⟩,Hh ?_⟩;refine⟨Qe4 (i+1),⟨by decide,wrap_eq hs ⟨by omega,by omega⟩⟩,Hh ?_⟩
   exact⟨(i+1,t-h),by simp only;omega,⟨by simp only;omega,by simp only;omega,rfl⟩,Rr⟩
 . intro hq
   have hq:¬ (h<=t/\0<Qe4 i):=by
    have hq:(decide (h<=t)&&decide (0<Qe4 i))=false:=hq
    simpa using hq
   have hb:=Qi9 i;have hdle:(i:Int)<=age/h:=(Int.le_ediv_iff_mul_le (by omega)).2 hi;have hd0:0<=age/h:=Int.ediv_nonneg (by omega) (by omega)
   have hval:Qe4 (age/h).toNat=Qe4 i:=by
    by_cases h1:h<=t
    . have hz:¬ 0<Qe4 i:=fun h2=>hq ⟨h1,h2⟩
      have hi21:21<=i:=by
       rcases Nat.lt_or_ge i 21 with h2 | h2
       . exact absurd (Q31 (by omega)) hz
       . exact h2
      rw[Qft hi21,Qft (by omega)]
    . have:age/h<((i+1:Nat):Int):=Int.ediv_lt_of_lt_mul (by omega) (by rw[hm];omega)
      have:(age/h).toNat=i:=by omega
      rw[this]
   rw[hval]
   conv=>whnf
   exact⟨rfl,rfl⟩
abbrev A11:=ByteArray×Int×Int
def Qss (x:A11):List Value := [.string x.1,.int .i64 x.2.1,.int .i64 x.2.2]
theorem Ql3 (x:A11):(Qss x).length=3:=rfl
theorem Qyv (x:A11):∀ u∈Qss x,u.oneCell'=true:=by simp[Qss,Value.oneCell']
theorem Qg9:Qsr Tryz.prog 188 193 Qss 3 32:=⟨by kernel_rfl,⟨_,ty193_ok,rfl,rfl⟩,by193,by decide,by decide,Ql3,Qyv⟩
def Qqg (x:A11):Prop:=(1<=x.1.size/\x.1.size<=24)/\(0<=x.2.1/\x.2.1<=1099511627776)/\(0<=x.2.2/\x.2.2<=1048576)
theorem Qxh (x:A11) (h:Qqg x) (w:World):Cal Tryz.prog 184 [.agg (Qss x).toArray] w fun r w'=>r = .bool true/\Ext w w':=by
 obtain⟨h1,h2,h3⟩:=h;refine Fi Tryz.func184 rfl _ rfl rfl (Hh ?_);intro b1 w1 hn1;have hb:At w1 b1 _ (Qss x):=hn1.At
 conv=>whnf
 refine⟨.string x.1,hb.one rfl,Hh ?_⟩;refine⟨.string x.1,fun _=>hb.one rfl,Hh ?_⟩;refine⟨.int .i64 x.2.1,fun _=>hb.one rfl,Hh ?_⟩;refine⟨.int .i64 x.2.1,fun _=>hb.one rfl,Hh ?_⟩;refine⟨.int .i64 x.2.2,fun _=>hb.one rfl,Hh ?_⟩;refine⟨.int .i64 x.2.2,fun _=>hb.one rfl,Hh ?_⟩;refine⟨?_,hn1.ext⟩;have e1:decide ((1:Int)<=x.1.size)=true:=by simp;omega
 have e2:decide ((x.1.size:Int)<=24)=true:=by simp;omega
 simp[e1,e2,h2.1,h2.2,h3.1,h3.2]
def C11 (w:World) (p:Nat) (half:Int) (L:List A11):Prop:=∃ A c,At w p 190 [.int .i64 half,.slice A L.length c,.int .i64 L.length]/\Sl Qss 3 w A L/\∀ a,A=some a->a.block≠p
theorem C11.ext {w w1:World} {p:Nat} {half:Int} {L:List A11} (h:C11 w p half L) (hx:Ext w w1):C11 w1 p half L:=by
 obtain⟨A,c,h1,h2,h3⟩:=h
 exact⟨A,c,h1.ext hx,h2.ext hx,h3⟩
theorem Qxn (w:World) (p:Nat) (half:Int) (L:List A11) (h:C11 w p half L) (x:A11) (hx0:Qqg x) (hl:L.length<100000) :
 Cal Tryz.prog 118 [.pointer (some ⟨p,0,none⟩),.agg (Qss x).toArray] w fun r w'=>r = .bool true/\C11 w' p half (L ++ [x])/\Mod (fun k=>k=p) w w':=by
 obtain⟨A,c,hp,hsl,hA⟩:=h;have hpl:=hp.lt;refine Fi Tryz.func118 rfl _ rfl rfl (Hh ?_);intro b1 w1 hn1;have hb:At w1 b1 _ (Qss x):=hn1.At;have hx1:=hn1.ext;have hb1:=hn1.block
 conv=>whnf
 refine⟨Qss x,⟨rfl,hb.all⟩,Hh ?_⟩;refine(Qxh x hx0 w1).mono ?_;rintro _ w2 ⟨rfl,hx2⟩;replace hb:=hb.ext hx2;replace hx1:=hx1.trans hx2;replace hp:=hp.ext hx1;replace hsl:=hsl.ext hx1;clear hn1 hx2
 conv=>whnf
 refine⟨.int .i64 L.length,fun _=>hp.one rfl,Hh ?_⟩;constructor
 . intro hc
   exfalso
   simp at hc
   omega
 intro _
 conv=>whnf
 refine Qgh (ι:=Option Addr×Nat) (fun j => [(0,.pointer (some ⟨p,0,none⟩))]) (fun j w'=>Mod (fun k=>k=p) w2 w'/\At w' p 190 [.int .i64 half,.slice j.1 (L ++ [x]).length j.2,.int .i64 L.length]/\Own Qss 3 193 w2.heap.size w' j.1 j.2 (L ++ [x])) ?_ ?_
 . refine Qpm (.mods (fun k=>w2.heap.size<=k)) (Pl.seq [0,2,3,4,5,7] (Pl.two 1 (Pl.seq [] (Pl.two 6 (Pl.seq [8,9] Pl.done) 8 (Pl.seq [6,9] Pl.done))) 8 (Pl.seq [1,6,9] Pl.done))) [10,11,12] (by intro h;cases h) Qa mixed (by kernel_rfl) (Hh ?_)
   have hp2:=hp.lt;have hb2:=hb.lt;have hp3:At w2.drew p 190 [.int .i64 half,.slice A L.length c,.int .i64 L.length]:=hp;replace hb:At w2.drew b1 _ (Qss x):=hb;replace hsl:=hsl.ext (Ext.refl w2).drew;have hx3:=(Ext.refl w2).drew;generalize w2.drew=w3 at hp3 hb hsl hx3 ⊢;refine⟨.slice A L.length c,⟨hp3.one rfl,by show ¬ (w2.heap.size<=p);omega⟩,Hh ?_⟩;refine⟨Qss x,⟨rfl,hb.all,by show ¬ (w2.heap.size<=b1);omega⟩,Hh ?_⟩;refine⟨?_,?_⟩
   . intro b6 w6 hn6
     have o6:=(Qg9).made (base:=w2.heap.size) hn6 (hx3).size;refine⟨Mod.of_ext hn6.ext,Hh ?_⟩;refine⟨?_,?_⟩
     . refine Qi Qg9 (l := []) (news:=L) rfl (o6) (rfl) ((hsl).ext hn6.ext) (by simp;omega) (Nat.le_trans (hx3).size hn6.ext.size) fun A7 c7 w7 hown7 hg7 hA7 => ?_
       refine⟨Qo hg7 (Qs o6),Hh ?_⟩;intro b8 w8 hn8;refine⟨Mod.of_ext hn8.ext,Hh ?_⟩;refine Qi Qg9 (l:=L) (news := [x]) rfl (hown7.ext hn8.ext) rfl ((Qg9).new1 hn8) (by simp;omega) (Nat.le_trans (Nat.le_trans (Nat.le_trans (hx3).size hn6.ext.size) hg7.size) hn8.ext.size) fun A9 c9 w9 hown9 hg9 hA9 => ?_
       refine⟨Qo hg9 (Qs hown7),Hh ?_⟩;have hE9:=Qh ((Qh ((hx3).trans hn6.ext) hg7 (Qs o6)).trans hn8.ext) hg9 (Qs hown7);generalize L ++ [x]=L9 at hown9 ⊢;refine Qg Qa (e:=ty188) rfl ((hp).ext hE9) rfl rfl rfl (by simp[Qr,Value.oneCell']) fun w10 h10 ho10 => ?_
       conv=>whnf
       exact⟨(A9,c9),⟨(Mod.of_ext hE9).trans (Qq ho10 rfl),h10,hown9.keep fun a ha=>ho10.block a.block (fun e=>by have:=(hown9.block ha).1;have:=(hp).lt;omega)⟩,Rr⟩
     . intro b8 w8 hn8
       refine⟨Mod.of_ext hn8.ext,Hh ?_⟩;refine Qi Qg9 (l := []) (news:=L) rfl (o6.ext hn8.ext) (rfl) (((hsl).ext hn6.ext).ext hn8.ext) (by simp;omega) (Nat.le_trans (Nat.le_trans (hx3).size hn6.ext.size) hn8.ext.size) fun A7 c7 w7 hown7 hg7 hA7 => ?_
       refine⟨Qo hg7 (Qs o6),Hh ?_⟩
       have h8:=Qck ((Qg9).new1 hn8) (w1:=w7) (fun a' ha'=>by
        obtain rfl:(⟨b8,0,none⟩:Addr)=a':=by simpa using ha'
        exact hg7.block b8 (by rw[hn8.block];have:=hn6.size;have:=hn8.size;omega) (fun e'=>by
         have h68:b8=b6:=by simpa using e'
         have:=hn6.size;have:=hn8.size;rw[hn6.block,hn8.block] at h68;omega))
       refine Qi Qg9 (l:=L) (news := [x]) rfl (hown7) rfl (h8) (by simp;omega) (Nat.le_trans (Nat.le_trans (Nat.le_trans (hx3).size hn6.ext.size) hn8.ext.size) hg7.size) fun A9 c9 w9 hown9 hg9 hA9 => ?_
       refine⟨Qo hg9 (Qs hown7),Hh ?_⟩;have hE9:=Qh (Qh (((hx3).trans hn6.ext).trans hn8.ext) hg7 (Qs o6)) hg9 (Qs hown7);generalize L ++ [x]=L9 at hown9 ⊢;refine Qg Qa (e:=ty188) rfl ((hp).ext hE9) rfl rfl rfl (by simp[Qr,Value.oneCell']) fun w10 h10 ho10 => ?_
       conv=>whnf
       exact⟨(A9,c9),⟨(Mod.of_ext hE9).trans (Qq ho10 rfl),h10,hown9.keep fun a ha=>ho10.block a.block (fun e=>by have:=(hown9.block ha).1;have:=(hp).lt;omega)⟩,Rr⟩
   . intro b8 w8 hn8
     refine⟨Mod.of_ext hn8.ext,Hh ?_⟩;intro b6 w6 hn6;have o6:=(Qg9).made (base:=w2.heap.size) hn6 (Nat.le_trans (hx3).size hn8.ext.size);refine⟨Mod.of_ext hn6.ext,Hh ?_⟩;refine Qi Qg9 (l := []) (news:=L) rfl (o6) (rfl) (((hsl).ext hn8.ext).ext hn6.ext) (by simp;omega) (Nat.le_trans (Nat.le_trans (hx3).size hn8.ext.size) hn6.ext.size) fun A7 c7 w7 hown7 hg7 hA7 => ?_
     refine⟨Qo hg7 (Qs o6),Hh ?_⟩
     have h8:=Qck (((Qg9).new1 hn8).ext hn6.ext) (w1:=w7) (fun a' ha'=>by
      obtain rfl:(⟨b8,0,none⟩:Addr)=a':=by simpa using ha'
      exact hg7.block b8 (by rw[hn8.block];have:=hn6.size;have:=hn8.size;omega) (fun e'=>by
       have h68:b8=b6:=by simpa using e'
       have:=hn6.size;have:=hn8.size;rw[hn6.block,hn8.block] at h68;omega))
     refine Qi Qg9 (l:=L) (news := [x]) rfl (hown7) rfl (h8) (by simp;omega) (Nat.le_trans (Nat.le_trans (Nat.le_trans (hx3).size hn8.ext.size) hn6.ext.size) hg7.size) fun A9 c9 w9 hown9 hg9 hA9 => ?_
     refine⟨Qo hg9 (Qs hown7),Hh ?_⟩;have hE9:=Qh (Qh (((hx3).trans hn8.ext).trans hn6.ext) hg7 (Qs o6)) hg9 (Qs hown7);generalize L ++ [x]=L9 at hown9 ⊢;refine Qg Qa (e:=ty188) rfl ((hp).ext hE9) rfl rfl rfl (by simp[Qr,Value.oneCell']) fun w10 h10 ho10 => ?_
     conv=>whnf
     exact⟨(A9,c9),⟨(Mod.of_ext hE9).trans (Qq ho10 rfl),h10,hown9.keep fun a ha=>ho10.block a.block (fun e=>by have:=(hown9.block ha).1;have:=(hp).lt;omega)⟩,Rr⟩
 rintro ⟨A3,c3⟩ w3 ⟨hM3,hp3,hown3⟩;simp only at hp3 hown3;have hll:((L ++ [x]).length:Int)=L.length+1:=by simp
 have hl2:(L ++ [x]).length=L.length+1:=by simp
 generalize L ++ [x]=L1 at hp3 hown3 hll hl2 ⊢
 conv=>whnf
 refine⟨.int .i64 L.length,hp3.one rfl,Hh ?_⟩;refine⟨(L.length:Int)+1,wrap_eq rfl ⟨by omega,by omega⟩,Hh ?_⟩;refine Qg Qa (e:=ty3) rfl hp3 rfl rfl rfl (by simp[Qr,Value.oneCell']) fun w4 h4 ho4 => ?_
 conv=>whnf
 refine⟨rfl,⟨A3,c3,by rw[hll];exact h4,ho4.sl (hown3.sl Ql3) (fun a ha e=>by have:=(hown3.block ha).1;have:=hx1.size;omega),fun a ha e=>by have:=(hown3.block ha).1;have:=hx1.size;omega⟩,?_⟩
 exact((Mod.of_ext hx1).trans hM3).trans (Qq ho4 rfl)
def Qe5 (half now:Int) (key:ByteArray) (L:List A11):Int:=((L.filter fun x=>decide (x.1=key)&&decide (x.2.1<=now)).map fun x=>x.2.2*Xq (now-x.2.1) half).sum
theorem Qpz (half now:Int) (key:ByteArray) (L:List A11) (x:A11):Qe5 half now key (L ++ [x])=Qe5 half now key L+if x.1=key/\x.2.1<=now then x.2.2*Xq (now-x.2.1) half else 0:=by
 unfold Qe5;rw[List.filter_append,List.map_append,List.sum_append]
 by_cases h1:x.1=key <;> by_cases h2:x.2.1<=now <;> simp[h1,h2]
theorem Qnv {half now:Int} {key:ByteArray} {L:List A11} (h:∀ x∈L,Qqg x):0<=Qe5 half now key L/\Qe5 half now key L<=L.length*1099511627776:=by
 have hb:=Qdd (fun x:A11=>x.2.2*Xq (now-x.2.1) half) 1099511627776 (L.filter fun x=>decide (x.1=key)&&decide (x.2.1<=now)) fun x hx=>by
  have h1:=(h x (List.mem_filter.1 hx).1).2.2;have h2:=Qc1 (now-x.2.1) half;refine⟨Int.mul_nonneg h1.1 h2.1,?_⟩;have:x.2.2*Xq (now-x.2.1) half<=1048576*1048576:=Int.mul_le_mul h1.2 h2.2 h2.1 (by omega);omega
 have hl:=List.length_filter_le (fun x:A11=>decide (x.1=key)&&decide (x.2.1<=now)) L;unfold Qe5
 exact⟨hb.1,Int.le_trans hb.2 (Int.mul_le_mul_of_nonneg_right (by omega) (by omega))⟩
set_option maxHeartbeats 1000000 in
theorem Qkv (w:World) (p:Nat) (half:Int) (L:List A11) (h:C11 w p half L) (hok:∀ x∈L,Qqg x) (hl:L.length<1000) (hh:1<=half/\half<=1099511627776) (key:ByteArray) (now:Int) (hn:0<=now/\now<=1099511627776) :
 Cal Tryz.prog 120 [.pointer (some ⟨p,0,none⟩),.string key,.int .i64 now] w fun r w'=>r = .int .i64 (Qe5 half now key L)/\Ext w w':=by
 obtain⟨A,c,hp,hsl,hA⟩:=h;refine Fi Tryz.func120 rfl _ rfl rfl (Hh ?_)
 refine Qd Qa (fun(q:Nat×Int) w'=>q.1<=L.length/\q.2=Qe5 half now key (L.take q.1)/\Ext w w')
  (fun | (i,n) => [(0,.pointer (some ⟨p,0,none⟩)),(1,.string key),(2,.int .i64 now),(7,.int .i64 n),(8,.int .i64 (i:Nat))]) (fun q=>L.length-q.1) (0,0) ⟨Nat.zero_le _,rfl,Ext.refl _⟩ Rr ?_
 rintro ⟨i,n⟩ w1 ⟨hi,hnn,hx1⟩;simp only at hi hnn;have hp1:=hp.ext hx1;have hs1:=hsl.ext hx1
 conv=>whnf
 refine⟨.slice A L.length c,hp1.one rfl,Hh ?_⟩;constructor
 . intro hlt
   have hlt:i<L.length/\0<=now:=by simpa using hlt
   obtain⟨a,hAa,hc⟩:=hs1.get hlt.1;subst hAa;have htk:Qe5 half now key (L.take (i+1))=n+if L[i].1=key/\L[i].2.1<=now then L[i].2.2*Xq (now-L[i].2.1) half else 0:=by rw[hnn,List.take_succ_eq_append_getElem hlt.1,Qpz]
   have hb0:=Qnv (half:=half) (now:=now) (key:=key) (L:=L.take i) fun x hx=>hok x (List.mem_of_mem_take hx)
   have hb1:=Qnv (half:=half) (now:=now) (key:=key) (L:=L.take (i+1)) fun x hx=>hok x (List.mem_of_mem_take hx)
   rw[<- hnn] at hb0;rw[List.length_take] at hb0 hb1;have hxo:=hok L[i] (List.getElem_mem hlt.1);generalize L[i]=x at hc htk hxo;have hwb:=Qc1 (now-x.2.1) half
   have hmul:0<=x.2.2*Xq (now-x.2.1) half/\x.2.2*Xq (now-x.2.1) half<=1099511627776:=by
    refine⟨Int.mul_nonneg hxo.2.2.1 hwb.1,?_⟩;have:x.2.2*Xq (now-x.2.1) half<=1048576*1048576:=Int.mul_le_mul hxo.2.2.2 hwb.2 hwb.1 (by omega);omega
   refine Gg ?_;refine⟨.slice (some a) L.length c,hp1.one rfl,Gg ?_⟩;refine⟨a,Ix,Gg ?_⟩;refine⟨.string x.1,cells_at hc (k:=0) rfl,Gg ?_⟩;refine⟨.slice (some a) L.length c,fun _=>hp1.one rfl,Gg ?_⟩;refine⟨a,fun _=>Ix,Gg ?_⟩;refine⟨.int .i64 x.2.1,fun _=>cells_at hc (k:=1) rfl,Gg ?_⟩;constructor
   . intro hq
     have hq:x.1=key/\x.2.1<=now:=by simpa using hq
     rw[if_pos hq] at htk;rw[htk] at hb1;refine Gg ?_;refine Dr .ext [0,1,2,3,4,5,6,7,8,9,10,11,12,13,14,15,16,17,18,19,20,21,22,23,24,25,26] [] (Hh ?_);have hxd:=hx1.drew;have hp2:=hp.ext hxd;obtain⟨a',hAa',hc2⟩:=(hsl.ext hxd).get hlt.1;obtain rfl:a=a':=by simpa using hAa'
     replace hc2:Xm w1.drew (a.add (i*3)) (Qss x):=hc;generalize w1.drew=w2 at hxd hp2 hc2 ⊢;refine⟨.slice (some a) L.length c,hp2.one rfl,Hh ?_⟩;refine⟨a,Ix,Hh ?_⟩;refine⟨.int .i64 x.2.2,cells_at hc2 (k:=2) rfl,Hh ?_⟩;refine⟨.slice (some a) L.length c,hp2.one rfl,Hh ?_⟩;refine⟨a,Ix,Hh ?_⟩;refine⟨.int .i64 x.2.1,cells_at hc2 (k:=1) rfl,Hh ?_⟩;refine⟨now-x.2.1,wrap_eq rfl ⟨by have:=hxo.2.1;omega,by have:=hxo.2.1;omega⟩,Hh ?_⟩;refine⟨.int .i64 half,hp2.one rfl,Hh ?_⟩;refine(Qo3 (now-x.2.1) half ⟨by have:=hxo.2.1;omega,by have:=hxo.2.1;omega⟩ (by omega) w2).mono ?_;rintro _ w3 ⟨rfl,hw3⟩;subst hw3;refine⟨Ext.refl _,Hh ?_⟩;refine⟨x.2.2*Xq (now-x.2.1) half,wrap_eq rfl ⟨by omega,by omega⟩,Hh ?_⟩;refine⟨n+x.2.2*Xq (now-x.2.1) half,wrap_eq rfl ⟨by omega,by omega⟩,Gg ?_⟩;refine⟨_,wrap_succ (by omega),Gg ?_⟩
     exact⟨(i+1,n+x.2.2*Xq (now-x.2.1) half),by simp only;omega,⟨by simp only;omega,htk.symm,hxd⟩,Rr⟩
   . intro hq
     have hq:¬ (x.1=key/\x.2.1<=now):=by
      have hq:(decide (x.1=key)&&decide (x.2.1<=now))=false:=hq
      simpa using hq
     rw[if_neg hq,Int.add_zero] at htk;refine Gg ?_;refine⟨_,wrap_succ (by omega),Gg ?_⟩
     exact⟨(i+1,n),by simp only;omega,⟨by simp only;omega,htk.symm,hx1⟩,Rr⟩
 . intro hge
   have hge:L.length<=i:=by
    have hge:(decide ((i:Int)<L.length)&&decide ((0:Int)<=now))=false:=hge
    simp at hge
    omega
   rw[List.take_of_length_le hge] at hnn;rw[<- hnn]
   conv=>whnf
   exact⟨rfl,hx1⟩
def Qlt (e:Ev):A11:=(e.item,e.at_,Qw e)
theorem Q89 {e:Ev} (hm:Xp e=true) (hw:wpB e=true):Qqg (Qlt e):=by
 have h0:0<Qw e:=by simpa [wpB] using hw
 have h1:=Xu (Qcv hm h0).2;have h2:=Qif hm;have h3:=Qdt hm;unfold Qqg Qlt;simp only;omega
theorem Q1x (half now:Int) (key:ByteArray) (l:List Ev):Qe5 half now key (l.map Qlt)=Qoz l half key now:=by
 induction l using Xf with
 | h0=>rfl
 | h1 l e ih =>
   rw[List.map_append,List.map_cons,List.map_nil,Qpz,ih];unfold Qoz Qlt;rw[List.filter_append,List.map_append,List.sum_append]
   by_cases h1:e.item=key
   . by_cases h2:e.at_<=now
     . simp[h1,h2]
     . have:=Qh8 (half:=half) (show now-e.at_<0 by omega)
       simp[h1,h2,this]
   . simp[h1]
set_option maxHeartbeats 1000000 in
theorem Qr1 (l:List Ev) (A:Option Addr) (c:Nat) (half:Int) (w:World) (hs:SlE w A l) (hl:l.length<1000) (hm:∀ e∈l,Xp e=true) :
 Cal Tryz.prog 57 [.slice A l.length c,.int .i64 half] w fun r w'=>∃ p,r = .pointer (some ⟨p,0,none⟩)/\C11 w' p half ((l.filter wpB).map Qlt)/\Ext w w':=by
 refine Fi Tryz.func57 rfl _ rfl rfl (Hh ?_);intro p w1 hn1;conv=>whnf
 have e1:=hn1.block;have h0:C11 w1 p half []:=⟨none,0,hn1.At,Sl.nil,by simp⟩
 refine Qd Qa (fun(i:Nat) w'=>i<=l.length/\C11 w' p half (((l.take i).filter wpB).map Qlt)/\Ext w w')
  (fun i => [(0,.slice A l.length c),(5,.pointer (some ⟨p,0,none⟩)),(6,.int .i64 (i:Nat))]) (fun i=>l.length-i) 0 ⟨Nat.zero_le _,h0,hn1.ext⟩ Rr ?_
 clear h0 hn1;rintro i w2 ⟨hi,hC,hx2⟩
 conv=>whnf
 constructor
 . intro hlt
   have hlt:i<l.length:=by simpa using hlt
   obtain⟨a,hA,hc⟩:=(hs.ext hx2).get hlt;subst hA
   have htk:((l.take (i+1)).filter wpB).map Qlt=((l.take i).filter wpB).map Qlt++if wpB l[i]=true then [Qlt l[i]] else []:=by
    rw[List.take_succ_eq_append_getElem hlt,List.filter_append,List.map_append]
    congr 1
    cases h:wpB l[i] <;> simp[h]
   have hml:=hm l[i] (List.getElem_mem hlt)
   have hlen:(((l.take i).filter wpB).map Qlt).length<100000:=by
    rw[List.length_map];have:=List.length_filter_le wpB (l.take i);rw[List.length_take] at this;omega
   generalize l[i]=e at hc htk hml;generalize ((l.take i).filter wpB).map Qlt=L at hC htk hlen;refine Gg ?_;refine⟨a,Ix,Gg ?_⟩;refine⟨evC e,⟨rfl,hc⟩,Gg ?_⟩;refine(Qhb e w2).mono ?_;rintro _ w3 ⟨rfl,hx3⟩;have hx23:=hx2.trans hx3;replace hC:=hC.ext hx3;refine Gg ?_;constructor
   . intro hq
     have hq:0<Qw e:=by simpa using hq
     have hwp:wpB e=true:=by simpa [wpB] using hq
     rw[if_pos hwp] at htk;refine Gg ?_;refine Dr .same [0,1,2,3,4,5,6,7,8,9,10,11,12] [13] (Hh ?_);have hxd:=hx23.drew;obtain⟨a',hA',hcd⟩:=(hs.ext hxd).get hlt;obtain rfl:a=a':=by simpa using hA'
     replace hcd:Xm w3.drew (a.add (i*8)) (evC e):=hx3.cells hc;replace hC:=hC.ext (Ext.refl w3).drew;generalize w3.drew=w4 at hxd hcd hC ⊢;refine⟨a,Ix,Hh ?_⟩;refine⟨.string e.item,cells_at hcd (k:=5) rfl,Hh ?_⟩;refine⟨a,Ix,Hh ?_⟩;refine⟨.int .i64 e.at_,cells_at hcd (k:=2) rfl,Hh ?_⟩;refine(Qxn w4 p half L hC (Qlt e) (Q89 hml hwp) hlen).mono ?_;rintro _ w5 ⟨rfl,hC5,hM5⟩;have hx5:=Qwh (T:=fun k=>k=p) hxd (fun k hk=>by rw[hk,e1];exact Nat.le_refl _) hM5;refine Gg ?_;refine⟨_,wrap_succ (by omega),Gg ?_⟩
     exact⟨i+1,by omega,⟨by omega,by rw[htk];exact hC5,hx5⟩,Rr⟩
   . intro hq
     have hq:¬ 0<Qw e:=by simpa using hq
     have hwp:wpB e=false:=by simpa [wpB] using hq
     rw[hwp] at htk;simp only[Bool.false_eq_true,if_false,List.append_nil] at htk;refine Gg ?_;refine⟨_,wrap_succ (by omega),Gg ?_⟩
     exact⟨i+1,by omega,⟨by omega,by rw[htk];exact hC,hx23⟩,Rr⟩
 . intro hge
   have hge:l.length<=i:=by simpa using hge
   rw[List.take_of_length_le hge] at hC
   conv=>whnf
   exact⟨p,rfl,hC,hx2⟩
theorem Q8m:Qsr Tryz.prog 196 200 Qss 3 32:=⟨by kernel_rfl,⟨_,ty200_ok,rfl,rfl⟩,by200,by decide,by decide,Ql3,Qyv⟩
def P9 (w:World) (p:Nat) (width:Int) (L:List S9):Prop:=∃ A c,At w p 198 [.int .i64 width,.slice A L.length c,.int .i64 L.length]/\Sl Qss 3 w A L/\∀ a,A=some a->a.block≠p
theorem P9.ext {w w1:World} {p:Nat} {width:Int} {L:List S9} (h:P9 w p width L) (hx:Ext w w1):P9 w1 p width L:=by
 obtain⟨A,c,h1,h2,h3⟩:=h
 exact⟨A,c,h1.ext hx,h2.ext hx,h3⟩
theorem Q18 (width:Int) (w:World):Cal Tryz.prog 121 [.int .i64 width] w fun r w'=>∃ p,r = .pointer (some ⟨p,0,none⟩)/\w.heap.size<=p/\P9 w' p (Qv width) []/\Ext w w':=by
 refine Fi Tryz.func121 rfl _ rfl rfl (Hh ?_);intro p w1 hn1;conv=>whnf
 exact⟨p,rfl,by rw[hn1.block];exact Nat.le_refl _,⟨none,0,hn1.At,Sl.nil,by simp⟩,hn1.ext⟩
theorem Qz0 (w:World) (p:Nat) (width:Int) (v1 v2:Value) (hp:At w p 198 [.int .i64 width,v1,v2]) (hw:1<=width/\width<=1099511627776) (t:Int) (ht:-4398046511104<=t/\t<=4398046511104) :
 Cal Tryz.prog 123 [.pointer (some ⟨p,0,none⟩),.int .i64 t] w fun r w'=>r = .int .i64 (t/width)/\w'=w:=by
 have hd:t.tdiv width=t/width+if 0<=t\/width ∣ t then 0 else width.sign:=Int.tdiv_eq_ediv
 have hm:=Int.tmod_eq_emod (a:=t) (b:=width);have hs:width.sign=1:=Int.sign_eq_one_of_pos (by omega);have h5:0<=t % width:=Int.emod_nonneg _ (by omega);have h6:t % width<width:=Int.emod_lt_of_pos _ (by omega);have hna:(width.natAbs:Int)=width:=by omega
 have hdv:width ∣ t↔t % width=0:=Int.dvd_iff_emod_eq_zero;have hr:=Qg0 hw.1 ht;rw[hs] at hd;refine Fi Tryz.func123 rfl _ rfl rfl (Hh ?_);refine⟨_,hp.one0,Hh ?_⟩
 by_cases hc:0<=t\/width ∣ t
 . rw[if_pos hc] at hd hm
   refine⟨t/width,⟨by omega,wrap_eq (by omega) ⟨by omega,by omega⟩⟩,Gg ?_⟩;refine⟨_,fun _=>hp.one0,Gg ?_⟩;refine⟨t.tmod width,fun _=>⟨by omega,rfl⟩,Gg ?_⟩;constructor
   . intro q
     have q:t<0/\¬ t.tmod width=0:=by simpa using q
     omega
   . intro _
     conv=>whnf
     exact⟨rfl,rfl⟩
 . rw[if_neg hc] at hd hm
   have hneg:t<0:=by omega
   have hd0:=Int.ediv_neg_of_neg_of_pos hneg (show 0<width by omega);refine⟨t/width+1,⟨by omega,wrap_eq (by omega) ⟨by omega,by omega⟩⟩,Gg ?_⟩;refine⟨_,fun _=>hp.one0,Gg ?_⟩;refine⟨t.tmod width,fun _=>⟨by omega,rfl⟩,Gg ?_⟩;constructor
   . intro _
     conv=>whnf
     refine⟨t/width,wrap_eq (by omega) ⟨by omega,by omega⟩,Hh ?_⟩
     exact⟨rfl,rfl⟩
   . intro q
     have q:¬ (t<0/\¬ t.tmod width=0):=by simpa using q
     omega
theorem Qp3 (w:World) (p:Nat) (width:Int) (L:List S9) (h:P9 w p width L) (hw:1<=width/\width<=1099511627776) (t:Int) (ht:-4398046511104<=t/\t<=4398046511104) :
 Cal Tryz.prog 123 [.pointer (some ⟨p,0,none⟩),.int .i64 t] w fun r w'=>r = .int .i64 (t/width)/\Ext w w':=by
 obtain⟨A,c,hp,_,_⟩:=h;refine(Qz0 w p width _ _ hp hw t ht).mono ?_;rintro r w' ⟨h1,h2⟩
 exact⟨h1,by rw[h2];exact Ext.refl _⟩
set_option maxHeartbeats 1000000 in
theorem Qp4 (w:World) (p:Nat) (width:Int) (L:List S9) (h:P9 w p width L) (hw:1<=width/\width<=1099511627776) (hok:∀ x∈L,0<=x.2.2/\x.2.2<=1048576) (hl:L.length<1000000) (key:ByteArray) (a b:Int) (ha:-4398046511104<=a/\a<=4398046511104) (hb:-4398046511104<=b/\b<=4398046511104) :
 Cal Tryz.prog 61 [.pointer (some ⟨p,0,none⟩),.string key,.int .i64 a,.int .i64 b] w fun r w'=>r = .int .i64 (pa9 L key (a/width) (b/width))/\Ext w w':=by
 have hP:=h;obtain⟨A,c,hp,hsl,hA⟩:=h;refine Fi Tryz.func61 rfl _ rfl rfl (Hh ?_)
 refine Qd Qa (fun(q:Nat×Int) w'=>q.1<=L.length/\q.2=pa9 (L.take q.1) key (a/width) (b/width)/\Ext w w')
  (fun | (i,n) => [(0,.pointer (some ⟨p,0,none⟩)),(1,.string key),(2,.int .i64 a),(3,.int .i64 b),(9,.int .i64 n),(10,.int .i64 (i:Nat))]) (fun q=>L.length-q.1) (0,0) ⟨Nat.zero_le _,rfl,Ext.refl _⟩ Rr ?_
 rintro ⟨i,n⟩ w1 ⟨hi,hnn,hx1⟩;simp only at hi hnn;have hp1:=hp.ext hx1
 conv=>whnf
 refine⟨.slice A L.length c,hp1.one rfl,Hh ?_⟩;constructor
 . intro hlt
   have hlt:i<L.length:=by simpa using hlt
   obtain⟨a0,hAa,hc⟩:=(hsl.ext hx1).get hlt;subst hAa;have htk:pa9 (L.take (i+1)) key (a/width) (b/width)=n+if q9 key (a/width) (b/width) L[i]=true then L[i].2.2 else 0:=by rw[hnn,List.take_succ_eq_append_getElem hlt,Q79]
   have hb1:=Q43 (L:=L.take (i+1)) (fun x hx=>hok x (List.mem_of_mem_take hx)) key (a/width) (b/width);rw[List.length_take] at hb1;generalize L[i]=x at hc htk;refine Gg ?_;refine Dr .ext [0,1,2,3,4,5,6,7,8,9,10,11,12,13,14,15,16,17,18,19,20,21,22,23,24,25,26,27,28,29,30,31,32,33,34,35,36,37] [] (Hh ?_);have hxd:=(Ext.refl w1).drew;replace hx1:=hx1.drew;replace hp1:=hp1.ext hxd;replace hc:Xm w1.drew (a0.add (i*3)) (Qss x):=hc;generalize w1.drew=w2 at hx1 hp1 hc ⊢;refine⟨.slice (some a0) L.length c,hp1.one rfl,Hh ?_⟩;refine⟨a0,Ix,Hh ?_⟩;refine⟨.string x.1,cells_at hc (k:=0) rfl,Hh ?_⟩;refine⟨.slice (some a0) L.length c,fun _=>hp1.one rfl,Hh ?_⟩;refine⟨a0,fun _=>Ix,Hh ?_⟩;refine⟨.int .i64 x.2.1,fun _=>cells_at hc (k:=1) rfl,Hh ?_⟩;refine⟨Unit,fun _=>(.int .i64 (a/width)),fun _ w'=>Ext w2 w',(),fun hg=>((Qp3 w2 p width L (hP.ext hx1) hw a ha)).mono fun r w' h=>⟨(),h.1,h.2⟩,?_⟩;intro _ w3 h2
   have hx3:Ext w2 w3:=by
    rcases h2 with⟨_,h⟩ | ⟨_,h⟩
    . exact h
    . rw[h];exact Ext.refl _
   clear h2;refine⟨hx3,?_⟩
   conv=>whnf
   replace hx1:=hx1.trans hx3;replace hp1:=hp1.ext hx3;replace hc:=hx3.cells hc;refine⟨.slice (some a0) L.length c,fun _=>hp1.one rfl,Hh ?_⟩;refine⟨a0,fun _=>Ix,Hh ?_⟩;refine⟨.int .i64 x.2.1,fun _=>cells_at hc (k:=1) rfl,Hh ?_⟩;refine⟨Unit,fun _=>(.int .i64 (b/width)),fun _ w'=>Ext w3 w',(),fun hg=>((Qp3 w3 p width L (hP.ext hx1) hw b hb)).mono fun r w' h=>⟨(),h.1,h.2⟩,?_⟩;intro _ w4 h2
   have hx4:Ext w3 w4:=by
    rcases h2 with⟨_,h⟩ | ⟨_,h⟩
    . exact h
    . rw[h];exact Ext.refl _
   clear h2;refine⟨hx4,?_⟩
   conv=>whnf
   replace hx1:=hx1.trans hx4;replace hp1:=hp1.ext hx4;replace hc:=hx4.cells hc;refine Gg ?_;have hqq:(((decide (x.1=key))&&(decide (a/width<=x.2.1)))&&(decide (x.2.1<b/width)))=q9 key (a/width) (b/width) x:=Bool.and_assoc _ _ _;constructor
   . intro hq
     have hq:q9 key (a/width) (b/width) x=true:=by rw[<- hqq];exact hq
     rw[if_pos hq] at htk;rw[htk] at hb1;refine Gg ?_;refine⟨.slice (some a0) L.length c,hp1.one rfl,Gg ?_⟩;refine⟨a0,Ix,Gg ?_⟩;refine⟨.int .i64 x.2.2,cells_at hc (k:=2) rfl,Gg ?_⟩;refine⟨n+x.2.2,wrap_eq rfl ⟨by omega,by omega⟩,Gg ?_⟩;refine⟨_,wrap_succ (by omega),Gg ?_⟩
     exact⟨(i+1,n+x.2.2),by simp only;omega,⟨by simp only;omega,htk.symm,hx1⟩,Rr⟩
   . intro hq
     have hq:¬ q9 key (a/width) (b/width) x=true:=by rw[<- hqq,Bool.not_eq_true];exact hq
     rw[if_neg hq,Int.add_zero] at htk;refine Gg ?_;refine⟨_,wrap_succ (by omega),Gg ?_⟩
     exact⟨(i+1,n),by simp only;omega,⟨by simp only;omega,htk.symm,hx1⟩,Rr⟩
 . intro hge
   have hge:L.length<=i:=by simpa using hge
   rw[List.take_of_length_le hge] at hnn;rw[<- hnn]
   conv=>whnf
   exact⟨rfl,hx1⟩
set_option maxHeartbeats 1000000 in
theorem Q16 (w:World) (p:Nat) (width:Int) (L:List S9) (h:P9 w p width L) (hw:1<=width/\width<=1099511627776) (hl:L.length<100000) (key:ByteArray) (hk:1<=key.size/\key.size<=24) (t:Int) (ht:0<=t/\t<=1099511627776) (n:Int) (hn:0<=n/\n<=1048576) :
 Cal Tryz.prog 122 [.pointer (some ⟨p,0,none⟩),.string key,.int .i64 t,.int .i64 n] w fun r w'=>r = .bool true/\P9 w' p width (L ++ [(key,t/width,n)])/\Mod (fun k=>k=p) w w':=by
 obtain⟨A,c,hp,hsl,hA⟩:=h;have hpl:=hp.lt;refine Fi Tryz.func122 rfl _ rfl rfl (Hh ?_);refine⟨.int .i64 L.length,fun _=>hp.one rfl,Hh ?_⟩;constructor
 . intro hc
   exfalso
   simp at hc
   omega
 intro _
 conv=>whnf
 intro b6 w6 hn6;conv=>whnf
 have o6:=Q8m.made (base:=w.heap.size) hn6 (Nat.le_refl _);have hE:=hn6.ext;refine⟨.slice A L.length c,(hp.ext hE).one rfl,Hh ?_⟩;refine Qi Q8m (l := []) (news:=L) rfl o6 rfl (hsl.ext hE) (by simp;omega) hE.size fun A7 c7 w7 hown7 hg7 hA7 => ?_
 have hE7:=Qh hE hg7 (Qs o6)
 conv=>whnf
 refine(Qz0 _ p width _ _ (hp.ext hE7) hw t ⟨by omega,by omega⟩).mono ?_;rintro _ wp ⟨rfl,hwp⟩;replace hwp:=hwp.symm;subst hwp
 conv=>whnf
 intro b8 w8 hn8;conv=>whnf
 have hE8:=hE7.trans hn8.ext;refine Qi Q8m (l:=L) (news := [(key,t/width,n)]) rfl (hown7.ext hn8.ext) rfl (Q8m.new1 (x:=(key,t/width,n)) hn8) (by simp;omega) hE8.size fun A9 c9 w9 hown9 hg9 hA9 => ?_
 have hE9:=Qh hE8 hg9 (Qs hown7);have hll:((L ++ [(key,t/width,n)]).length:Int)=L.length+1:=by simp
 generalize L ++ [(key,t/width,n)]=L1 at hown9 hll ⊢
 conv=>whnf
 refine Qg Qa (e:=ty196) rfl (hp.ext hE9) rfl rfl rfl (by simp[Qr,Value.oneCell']) fun w10 h10 ho10 => ?_
 have h10:At w10 p 198 [.int .i64 width,.slice A9 L1.length c9,.int .i64 L.length]:=h10;have hown10:Own Qss 3 200 w.heap.size w10 A9 c9 L1:=hown9.keep fun a ha=>ho10.block a.block (fun e=>by have:=(hown9.block ha).1;omega)
 have hM10:Mod (fun k=>k=p) w w10:=(Mod.of_ext hE9).trans (Qq ho10 rfl)
 conv=>whnf
 refine⟨.int .i64 L.length,h10.one rfl,Hh ?_⟩;refine⟨(L.length:Int)+1,wrap_eq rfl ⟨by omega,by omega⟩,Hh ?_⟩;refine Qg Qa (e:=ty3) rfl h10 rfl rfl rfl (by simp[Qr,Value.oneCell']) fun w11 h11 ho11 => ?_
 conv=>whnf
 refine⟨rfl,⟨A9,c9,by rw[hll];exact h11,ho11.sl (hown10.sl Ql3) (fun a ha e=>by have:=(hown10.block ha).1;omega),fun a ha e=>by have:=(hown10.block ha).1;omega⟩,?_⟩
 exact hM10.trans (Qq ho11 rfl)
set_option maxHeartbeats 1000000 in
theorem Qxk (l:List Ev) (A:Option Addr) (c:Nat) (width:Int) (hwd:1<=width/\width<=1099511627776) (w:World) (hs:SlE w A l) (hl:l.length<1000) (hm:∀ e∈l,Xp e=true) :
 Cal Tryz.prog 59 [.slice A l.length c,.int .i64 width] w fun r w'=>∃ p,r = .pointer (some ⟨p,0,none⟩)/\P9 w' p width ((l.filter wpB).map (s9E width))/\Ext w w':=by
 have hhn:=Qkg hwd;refine Fi Tryz.func59 rfl _ rfl rfl (Hh ?_);refine(Q18 width w).mono ?_;rintro _ w1 ⟨p,rfl,hpn,h0,hx1⟩;rw[hhn] at h0
 conv=>whnf
 refine Qd Qa (fun(i:Nat) w'=>i<=l.length/\P9 w' p width (((l.take i).filter wpB).map (s9E width))/\Ext w w')
  (fun i => [(0,.slice A l.length c),(5,.pointer (some ⟨p,0,none⟩)),(6,.int .i64 (i:Nat))]) (fun i=>l.length-i) 0 ⟨Nat.zero_le _,h0,hx1⟩ Rr ?_
 clear h0 hx1;rintro i w2 ⟨hi,hC,hx2⟩
 conv=>whnf
 constructor
 . intro hlt
   have hlt:i<l.length:=by simpa using hlt
   obtain⟨a,hA,hc⟩:=(hs.ext hx2).get hlt;subst hA
   have htk:((l.take (i+1)).filter wpB).map (s9E width)=((l.take i).filter wpB).map (s9E width)++if wpB l[i]=true then [s9E width l[i]] else []:=by
    rw[List.take_succ_eq_append_getElem hlt,List.filter_append,List.map_append]
    congr 1
    cases h:wpB l[i] <;> simp[h]
   have hml:=hm l[i] (List.getElem_mem hlt)
   have hlen:(((l.take i).filter wpB).map (s9E width)).length<100000:=by
    rw[List.length_map];have:=List.length_filter_le wpB (l.take i);rw[List.length_take] at this;omega
   generalize l[i]=e at hc htk hml;generalize ((l.take i).filter wpB).map (s9E width)=L at hC htk hlen;refine Gg ?_;refine⟨a,Ix,Gg ?_⟩;refine⟨evC e,⟨rfl,hc⟩,Gg ?_⟩;refine(Qhb e w2).mono ?_;rintro _ w3 ⟨rfl,hx3⟩;have hx23:=hx2.trans hx3;replace hC:=hC.ext hx3;have hce:=hx3.cells hc;refine Gg ?_;constructor
   . intro hq
     have hq:0<Qw e:=by simpa using hq
     have hwp:wpB e=true:=by simpa [wpB] using hq
     rw[if_pos hwp] at htk;have hno:=Qcv hml hq;have hnm:=Xu hno.2;have hat:=Qif hml;have hwl:=Qdt hml;refine Gg ?_;refine Dr .same [0,1,2,3,4,5,6,7,8,9,10,11] [12] (Hh ?_);have hxd:=hx23.drew;replace hC:=hC.ext (Ext.refl w3).drew;replace hce:Xm w3.drew (a.add (i*8)) (evC e):=hce;generalize w3.drew=w4 at hxd hC hce ⊢;refine⟨a,Ix,Hh ?_⟩;refine⟨.string e.item,cells_at hce (k:=5) rfl,Hh ?_⟩;refine⟨a,Ix,Hh ?_⟩;refine⟨.int .i64 e.at_,cells_at hce (k:=2) rfl,Hh ?_⟩;refine(Q16 w4 p width L hC hwd hlen e.item (by omega) e.at_ hat (Qw e) (by omega)).mono ?_;rintro _ w5 ⟨rfl,hC5,hM5⟩;have hx5:=Qwh (T:=fun k=>k=p) hxd (fun k hk=>by rw[hk];exact hpn) hM5;refine Gg ?_;refine⟨_,wrap_succ (by omega),Gg ?_⟩
     exact⟨i+1,by omega,⟨by omega,by rw[htk];exact hC5,hx5⟩,Rr⟩
   . intro hq
     have hq:¬ 0<Qw e:=by simpa using hq
     have hwp:wpB e=false:=by simpa [wpB] using hq
     rw[hwp] at htk;simp only[Bool.false_eq_true,if_false,List.append_nil] at htk;refine Gg ?_;refine⟨_,wrap_succ (by omega),Gg ?_⟩
     exact⟨i+1,by omega,⟨by omega,by rw[htk];exact hC,hx23⟩,Rr⟩
 . intro hge
   have hge:l.length<=i:=by simpa using hge
   rw[List.take_of_length_le hge] at hC
   conv=>whnf
   exact⟨p,rfl,hC,hx2⟩
theorem Qp2 (l:List ByteArray) (s:ByteArray) (A:Option Addr) (c:Nat) (w:World) (hs:Sl Qbg 1 w A l) (hl:l.length<1000000000) :
 Cal Tryz.prog 132 [.slice A l.length c,.string s] w fun r w'=>r = .bool (inT l s)/\w'=w:=by
 refine Fi Tryz.func132 rfl _ rfl rfl (Hh ?_)
 refine Qd Qa (fun(k:Nat) w'=>k<=l.length/\w'=w/\s∉l.take k)
  (fun k => [(0,.slice A l.length c),(1,.string s),(5,.int .i64 k)]) (fun k=>l.length-k) 0 ⟨by omega,rfl,by simp⟩ Rr ?_
 rintro k w1 ⟨hk,rfl,hall⟩
 conv=>whnf
 constructor
 . intro hlt
   have hlt:k<l.length:=by simpa using hlt
   obtain⟨a,rfl,hc⟩:=hs.get hlt;have htk:=Xl l k hlt;have hin:=List.getElem_mem hlt;generalize l[k]=x at hc htk hin
   conv=>whnf
   refine⟨a,Ix,Hh ?_⟩;refine⟨.string x,Qp hc,Hh ?_⟩;constructor
   . intro h
     have h:x=s:=by simpa using h
     subst h
     conv=>whnf
     exact⟨by rw[Qf8.2 hin],rfl⟩
   . intro h
     have h:¬ x=s:=by simpa using h
     conv=>whnf
     refine⟨_,wrap_succ (by omega),Hh ?_⟩
     exact⟨k+1,by omega,⟨by omega,rfl,by rw[htk];simp[hall,Ne.symm h]⟩,Rr⟩
 . intro hge
   have hge:l.length<=k:=by simpa using hge
   rw[List.take_of_length_le hge] at hall
   conv=>whnf
   exact⟨by rw[Qq7.2 hall],rfl⟩
theorem Q3h:Swo bLt where
 asymm x y h:=by
  cases hy:bLt y x with
  | false=>rfl
  | true=>have:=Qaw h hy;rw[X6] at this;cases this
 trans x y z h k:=by
  cases hc:bLt z x with
  | false=>rfl
  | true =>
    cases hb:bLt x y with
    | true=>rw[Qaw hc hb] at k;cases k
    | false=>rw[Qby hb h,k] at hc;cases hc
def Qvk {α:Type} (lt:α->α->Bool) (l:List α) (s:α) (k:Nat) (dn:Bool) (T:List α):Prop :=
 (dn=false/\T=l.take k/\∀ u∈l.take k,lt s u=false)\/(dn=true/\∃ m,m<k/\(∀ u∈l.take m,lt s u=false)/\(∀ y,l[m]? = some y->lt s y=true)/\T=l.take m++s :: (l.take k).drop m)
theorem Qvk.zero {α:Type} (lt:α->α->Bool) (l:List α) (s:α):Qvk lt l s 0 false [] := .inl ⟨rfl,rfl,by simp⟩
theorem Qvk.len {α:Type} {lt:α->α->Bool} {l:List α} {s:α} {k:Nat} {dn:Bool} {T:List α} (h:Qvk lt l s k dn T):T.length<=k+1:=by
 rcases h with⟨_,rfl,_⟩ | ⟨_,m,h1,_,_,rfl⟩
 . rw[List.length_take];omega
 . rw[List.length_append,List.length_cons,List.length_drop,List.length_take,List.length_take];omega
theorem Qvk.put {α:Type} {lt:α->α->Bool} {l:List α} {s y:α} {k:Nat} {T:List α} (h:Qvk lt l s k false T) (hlt:k<l.length) (hy:l[k]=y) (hq:lt s y=true):Qvk lt l s (k+1) true (T ++ [s] ++ [y]):=by
 rcases h with⟨_,rfl,h2⟩ | ⟨h,_⟩
 . refine .inr ⟨rfl,k,by omega,h2,fun z hz => ?_,?_⟩
   . rw[List.getElem?_eq_getElem hlt,hy] at hz
     simp at hz
     rw[<- hz];exact hq
   . have hk:(l.take k).length=k:=by rw[List.length_take];omega
     have hd:(l.take (k+1)).drop k = [y]:=by
      rw[Xl l k hlt,hy,List.drop_append,hk,Nat.sub_self,List.drop_of_length_le (by omega)]
      rfl
     rw[hd,List.append_assoc];rfl
 . cases h
theorem Qvk.pass {α:Type} {lt:α->α->Bool} {l:List α} {s y:α} {k:Nat} {dn:Bool} {T:List α} (h:Qvk lt l s k dn T) (hlt:k<l.length) (hy:l[k]=y) (hq:dn=false->lt s y=false):Qvk lt l s (k+1) dn (T ++ [y]):=by
 have htk:=Xl l k hlt;rw[hy] at htk;rcases h with⟨rfl,rfl,h2⟩ | ⟨rfl,m,h1,h2,h3,rfl⟩
 . refine .inl ⟨rfl,htk.symm,fun u hu => ?_⟩
   rw[htk] at hu;rcases List.mem_append.1 hu with hu | hu
   . exact h2 u hu
   . rw[List.mem_singleton.1 hu];exact hq rfl
 . refine .inr ⟨rfl,m,by omega,h2,h3,?_⟩
   have hd:(l.take (k+1)).drop m=(l.take k).drop m ++ [y]:=by
    rw[htk,List.drop_append]
    congr 1
    have:m-(l.take k).length=0:=by rw[List.length_take];omega
    rw[this];rfl
   rw[hd,List.append_assoc];rfl
theorem Qhj {α:Type} {lt:α->α->Bool} (O:Swo lt) {l:List α} {s:α} {m:Nat} (hm:m<=l.length) (h1:∀ u∈l.take m,lt s u=false) (h2:∀ y,l[m]? = some y->lt s y=true) (hs:Srt lt l):Srt lt (l.take m++s :: l.drop m):=by
 refine Qse O hm hs ?_ ?_
 . rcases Nat.eq_zero_or_pos m with h | h
   . exact .inl h
   . have h0:m-1<l.length:=by omega
     refine .inr ⟨l[m-1],List.getElem?_eq_getElem h0,h1 _ ?_⟩
     exact List.mem_take_iff_getElem.2 ⟨m-1,by omega,rfl⟩
 . rcases Nat.lt_or_ge m l.length with h | h
   . exact .inr ⟨l[m],List.getElem?_eq_getElem h,O.asymm _ _ (h2 _ (List.getElem?_eq_getElem h))⟩
   . exact .inl (by omega)
theorem Qvk.ends {α:Type} {lt:α->α->Bool} (O:Swo lt) {l:List α} {s:α} {dn:Bool} {T:List α} (h:Qvk lt l s l.length dn T):(dn=false->(T ++ [s]).Perm (s :: l)/\(Srt lt l->Srt lt (T ++ [s])))/\(dn=true->T.Perm (s :: l)/\(Srt lt l->Srt lt T)):=by
 rcases h with⟨rfl,rfl,h2⟩ | ⟨rfl,m,h1,h2,h3,rfl⟩
 . rw[List.take_length] at h2 ⊢
   refine⟨fun _=>⟨List.perm_append_comm,fun hs => ?_⟩,fun h=>by cases h⟩;have:=Qhj O (s:=s) (Nat.le_refl l.length) (by rw[List.take_length];exact h2) (fun y hy=>by simp at hy) hs
   rwa [List.take_length,List.drop_length] at this
 . rw[List.take_length]
   refine⟨fun h=>(by cases h),fun _=>⟨?_,Qhj O (by omega) h2 h3⟩⟩;have:=(List.perm_middle (a:=s) (l₁:=l.take m) (l₂:=l.drop m))
   rwa [List.take_append_drop] at this
set_option maxHeartbeats 1000000 in
theorem Qn0 (l:List ByteArray) (s:ByteArray) (A:Option Addr) (c:Nat) (w:World) (hs:SlT w A l) (hl:l.length<1000000) (hn:l.Nodup) :
 Cal Tryz.prog 130 [.slice A l.length c,.string s] w fun r w'=>∃ A' c' L,r = .slice A' L.length c'/\SlT w' A' L/\L.Nodup/\(∀ x,x∈L↔x∈l\/x=s)/\L.length<=l.length+1/\(Srt bLt l->Srt bLt L)/\Ext w w':=by
 refine Fi Tryz.func130 rfl _ rfl rfl (Hh ?_);refine(Qp2 l s A c w hs (by omega)).mono ?_;rintro _ w0 ⟨rfl,hw0⟩;subst hw0
 conv=>whnf
 constructor
 . intro h
   have h:s∈l:=Qf8.1 h
   conv=>whnf
   exact⟨A,c,l,rfl,hs,hn,fun x=>⟨.inl,fun hx=>hx.elim id (fun e=>e ▸ h)⟩,by omega,id,Ext.refl _⟩
 intro h;have h:s∉l:=Qq7.1 h
 conv=>whnf
 intro b1 w1 hn1;conv=>whnf
 have o1:=Xa.made (base:=w0.heap.size) hn1 (Nat.le_refl _)
 refine Qd Qa (fun(q:Nat×Option Addr×Nat×List ByteArray×Bool) w'=>q.1<=l.length/\Ext w0 w'/\Qvk bLt l s q.1 q.2.2.2.2 q.2.2.2.1/\Own Qbg 1 9 w0.heap.size w' q.2.1 q.2.2.1 q.2.2.2.1)
  (fun | (k,B,d,T,dn) => [(0,.slice A l.length c),(1,.string s),(5,.slice B T.length d),(6,.bool dn),(7,.int .i64 (k:Nat))]) (fun q=>l.length-q.1) (0,some ⟨b1,0,none⟩,0,[],false) ⟨Nat.zero_le _,hn1.ext,Qvk.zero _ _ _,o1⟩ Rr ?_
 rintro ⟨k,B,d,T,dn⟩ w2 ⟨hk,hx2,hT,hown⟩;simp only at hk hT hown;have hTl:T.length<=k+1:=hT.len
 conv=>whnf
 constructor
 . intro hlt
   have hlt:k<l.length:=by simpa using hlt
   obtain⟨a2,hA,hc2⟩:=(hs.ext hx2).get hlt;subst hA;generalize hy:l[k]=y at hc2;refine Gg ?_;refine⟨a2,fun _=>Ix,Gg ?_⟩;refine⟨.string y,fun _=>Qp hc2,Gg ?_⟩;constructor
   . intro hq
     have hq:(!dn&&bLt s y)=true:=hq;have hq:dn=false/\bLt s y=true:=by simpa using hq
     obtain⟨rfl,hq⟩:=hq;have hT7:=hT.put hlt hy hq;refine Gg ?_;intro b3 w3 hn3;refine Gg ?_;refine Qi Xa (l:=T) (news := [s]) rfl (hown.ext hn3.ext) rfl (Xa.new1 (x:=s) hn3) (by simp;omega) ((hx2.trans hn3.ext).size) fun A4 c4 w4 hown4 hg4 hA4 => ?_
     have hx4:=Qh (hx2.trans hn3.ext) hg4 (Qs hown);have hT4l:(T ++ [s]).length=T.length+1:=by simp
     generalize T ++ [s]=T4 at hown4 hT7 hT4l ⊢;obtain⟨a5,hA5,hc5⟩:=(hs.ext hx4).get hlt;obtain rfl:a2=a5:=by simpa using hA5
     rw[hy] at hc5;refine Gg ?_;refine⟨a2,Ix,Gg ?_⟩;refine⟨.string y,Qp hc5,Gg ?_⟩;intro b6 w6 hn6;refine Gg ?_;refine Qi Xa (l:=T4) (news := [y]) rfl (hown4.ext hn6.ext) rfl (Xa.new1 (x:=y) hn6) (by simp;omega) ((hx4.trans hn6.ext).size) fun A7 c7 w7 hown7 hg7 hA7 => ?_
     have hx7:=Qh (hx4.trans hn6.ext) hg7 (Qs hown4);generalize T4 ++ [y]=T7 at hown7 hT7 ⊢;refine Gg ?_;refine⟨_,wrap_succ (by omega),Gg ?_⟩
     exact⟨(k+1,A7,c7,T7,true),by simp only;omega,⟨by simp only;omega,hx7,hT7,hown7⟩,Rr⟩
   . intro hq
     have hq:(!dn&&bLt s y)=false:=hq;have hq:dn=false->bLt s y=false:=by simpa using hq
     have hT7:=hT.pass hlt hy hq;refine Gg ?_;refine⟨a2,Ix,Gg ?_⟩;refine⟨.string y,Qp hc2,Gg ?_⟩;intro b6 w6 hn6;refine Gg ?_;refine Qi Xa (l:=T) (news := [y]) rfl (hown.ext hn6.ext) rfl (Xa.new1 (x:=y) hn6) (by simp;omega) ((hx2.trans hn6.ext).size) fun A7 c7 w7 hown7 hg7 hA7 => ?_
     have hx7:=Qh (hx2.trans hn6.ext) hg7 (Qs hown);generalize T ++ [y]=T7 at hown7 hT7 ⊢;refine Gg ?_;refine⟨_,wrap_succ (by omega),Gg ?_⟩
     exact⟨(k+1,A7,c7,T7,dn),by simp only;omega,⟨by simp only;omega,hx7,hT7,hown7⟩,Rr⟩
 . intro hge
   have hge:l.length<=k:=by simpa using hge
   obtain rfl:k=l.length:=by omega
   obtain⟨he1,he2⟩:=hT.ends Q3h
   have hfin:∀ {L:List ByteArray},L.Perm (s :: l)->L.Nodup/\(∀ x,x∈L↔x∈l\/x=s)/\L.length<=l.length+1:=fun hp =>
    ⟨hp.nodup_iff.2 (List.nodup_cons.2 ⟨h,hn⟩),fun x=>by rw[hp.mem_iff,List.mem_cons];exact or_comm,by rw[hp.length_eq];simp⟩
   refine Gg ?_;constructor
   . intro hq
     have hq:dn=false:=by simpa using hq
     subst hq;obtain⟨hT4,ho4⟩:=he1 rfl;refine Gg ?_;intro b3 w3 hn3;refine Gg ?_;refine Qi Xa (l:=T) (news := [s]) rfl (hown.ext hn3.ext) rfl (Xa.new1 (x:=s) hn3) (by simp;omega) ((hx2.trans hn3.ext).size) fun A4 c4 w4 hown4 hg4 hA4 => ?_
     have hx4:=Qh (hx2.trans hn3.ext) hg4 (Qs hown);generalize T ++ [s]=T4 at hown4 hT4 ho4 ⊢;obtain⟨f1,f2,f3⟩:=hfin hT4;refine Gg ?_
     exact⟨A4,c4,T4,rfl,hown4.sl Xa.sz,f1,f2,f3,ho4,hx4⟩
   . intro hq
     have hq:dn=true:=by simpa using hq
     subst hq;obtain⟨hT4,ho4⟩:=he2 rfl;obtain⟨f1,f2,f3⟩:=hfin hT4;refine Gg ?_
     exact⟨B,d,T,rfl,hown.sl Xa.sz,f1,f2,f3,ho4,hx2⟩
theorem Qzn:Swo Qfg where
 asymm x y h:=by
  cases hy:Qfg y x with
  | false=>rfl
  | true=>have:=Qjf.trans x y x h hy;rw[Qjf.irrefl] at this;cases this
 trans x y z h k:=Qjf.ntrans z y x k h
theorem Quc (a b:Ct) (w:World):Cal Tryz.prog 189 [.agg (Qc2 a).toArray,.agg (Qc2 b).toArray] w fun r w'=>r = .bool (Qfg a b)/\Ext w w':=by
 refine Fi Tryz.func189 rfl _ rfl rfl (Hh ?_);intro b1 w1 hn1;conv=>whnf
 intro b2 w2 hn2;conv=>whnf
 have h1:At w2 b1 _ (Qc2 a):=hn1.At.ext hn2.ext;have h2:At w2 b2 _ (Qc2 b):=hn2.At
 repeat (first | (refine⟨_,h1.one rfl,?_⟩;(conv=>whnf)) | (refine⟨_,And.symm ⟨h1.all,rfl⟩,?_⟩;(conv=>whnf)) | (refine⟨_,fun _=>h1.one rfl,?_⟩;(conv=>whnf)) | (refine⟨_,fun _=>And.symm ⟨h1.all,rfl⟩,?_⟩;(conv=>whnf)) | (refine⟨_,fun _ _=>h1.one rfl,?_⟩;(conv=>whnf)) | (refine⟨_,fun _ _=>And.symm ⟨h1.all,rfl⟩,?_⟩;(conv=>whnf)) | (refine⟨_,h2.one rfl,?_⟩;(conv=>whnf)) | (refine⟨_,And.symm ⟨h2.all,rfl⟩,?_⟩;(conv=>whnf)) | (refine⟨_,fun _=>h2.one rfl,?_⟩;(conv=>whnf)) | (refine⟨_,fun _=>And.symm ⟨h2.all,rfl⟩,?_⟩;(conv=>whnf)) | (refine⟨_,fun _ _=>h2.one rfl,?_⟩;(conv=>whnf)) | (refine⟨_,fun _ _=>And.symm ⟨h2.all,rfl⟩,?_⟩;(conv=>whnf)))
 refine⟨?_,hn1.ext.trans hn2.ext⟩
 first
  | rfl
  | (unfold Qfg;rfl)
  | (unfold Qfg;congr 1;simp)
set_option maxHeartbeats 1000000 in
theorem Qxm (l:List Ct) (s:Ct) (A:Option Addr) (c:Nat) (w:World) (hs:Sl Qc2 2 w A l) (hl:l.length<1000000) :
 Cal Tryz.prog 135 [.slice A l.length c,.agg (Qc2 s).toArray] w fun r w'=>∃ A' c' L,r = .slice A' L.length c'/\Sl Qc2 2 w' A' L/\L.Perm (s :: l)/\(Srt Qfg l->Srt Qfg L)/\Ext w w':=by
 refine Fi Tryz.func135 rfl _ rfl rfl (Hh ?_);intro b0 w0 hn0;have hb:At w0 b0 _ (Qc2 s):=hn0.At
 conv=>whnf
 intro b1 w1 hn1;conv=>whnf
 have o1:=Qc9.made (base:=w0.heap.size) hn1 (Nat.le_refl _);replace hs:=hs.ext hn0.ext;have hxw:=hn0.ext
 refine Qd Qa (fun(q:Nat×Option Addr×Nat×List Ct×Bool) w'=>q.1<=l.length/\Ext w0 w'/\Qvk Qfg l s q.1 q.2.2.2.2 q.2.2.2.1/\Own Qc2 2 98 w0.heap.size w' q.2.1 q.2.2.1 q.2.2.2.1)
  (fun | (k,B,d,T,dn) => [(0,.slice A l.length c),(3,.pointer (some ⟨b0,0,none⟩)),(5,.slice B T.length d),(6,.bool dn),(7,.int .i64 (k:Nat))]) (fun q=>l.length-q.1) (0,some ⟨b1,0,none⟩,0,[],false) ⟨Nat.zero_le _,hn1.ext,Qvk.zero _ _ _,o1⟩ Rr ?_
 rintro ⟨k,B,d,T,dn⟩ w2 ⟨hk,hx2,hT,hown⟩;simp only at hk hT hown;have hTl:T.length<=k+1:=hT.len
 conv=>whnf
 constructor
 . intro hlt
   have hlt:k<l.length:=by simpa using hlt
   obtain⟨a2,hA,hc2⟩:=(hs.ext hx2).get hlt;subst hA;generalize hy:l[k]=y at hc2;refine Gg ?_;refine Dr .same [0,1,2,3,4,5,6,7] [8,9] (Hh ?_);replace hx2:=hx2.drew;replace hown:=hown.ext (Ext.refl w2).drew;replace hc2:=(Ext.refl w2).drew.cells hc2;generalize w2.drew=w2 at hx2 hown hc2 ⊢;refine⟨Qc2 s,fun _=>⟨rfl,(hb.ext hx2).all⟩,Hh ?_⟩;refine⟨a2,fun _=>Ix,Hh ?_⟩;refine⟨Qc2 y,fun _=>⟨rfl,hc2⟩,Hh ?_⟩;refine⟨Unit,fun _ => .bool (Qfg s y),fun _ w'=>Ext w2 w',(),fun hg=>(Quc s y w2).mono fun r w' h=>⟨(),h.1,h.2⟩,?_⟩;intro _ w3 h3
   have hx3:Ext w2 w3:=by
    rcases h3 with⟨_,h⟩ | ⟨_,h⟩
    . exact h
    . rw[h];exact Ext.refl _
   clear h3;replace hown:=hown.ext hx3;replace hx2:=hx2.trans hx3;replace hc2:=hx3.cells hc2;clear hx3;refine Gg ?_;constructor
   . intro hq
     have hq:dn=false/\Qfg s y=true:=by simpa using hq
     obtain⟨rfl,hq⟩:=hq;have hT7:=hT.put hlt hy hq;refine Gg ?_;refine⟨Qc2 s,⟨rfl,(hb.ext hx2).all⟩,Gg ?_⟩;intro b4 w4 hn4;refine Gg ?_;refine Qi Qc9 (l:=T) (news := [s]) rfl (hown.ext hn4.ext) rfl (Qc9.new1 (x:=s) hn4) (by simp;omega) ((hx2.trans hn4.ext).size) fun A4 c4 w4 hown4 hg4 hA4 => ?_
     have hx4:=Qh (hx2.trans hn4.ext) hg4 (Qs hown);have hT4l:(T ++ [s]).length=T.length+1:=by simp
     generalize T ++ [s]=T4 at hown4 hT7 hT4l ⊢;obtain⟨a5,hA5,hc5⟩:=(hs.ext hx4).get hlt;obtain rfl:a2=a5:=by simpa using hA5
     rw[hy] at hc5;refine Gg ?_;refine⟨a2,Ix,Gg ?_⟩;refine⟨Qc2 y,⟨rfl,hc5⟩,Gg ?_⟩;intro b6 w6 hn6;refine Gg ?_;refine Qi Qc9 (l:=T4) (news := [y]) rfl (hown4.ext hn6.ext) rfl (Qc9.new1 (x:=y) hn6) (by simp;omega) ((hx4.trans hn6.ext).size) fun A7 c7 w7 hown7 hg7 hA7 => ?_
     have hx7:=Qh (hx4.trans hn6.ext) hg7 (Qs hown4);generalize T4 ++ [y]=T7 at hown7 hT7 ⊢;refine Gg ?_;refine⟨_,wrap_succ (by omega),Gg ?_⟩
     exact⟨(k+1,A7,c7,T7,true),by simp only;omega,⟨by simp only;omega,hx7,hT7,hown7⟩,Rr⟩
   . intro hq
     have hq:dn=false->Qfg s y=false:=by simpa using hq
     have hT7:=hT.pass hlt hy hq;refine Gg ?_;refine⟨a2,Ix,Gg ?_⟩;refine⟨Qc2 y,⟨rfl,hc2⟩,Gg ?_⟩;intro b6 w6 hn6;refine Gg ?_;refine Qi Qc9 (l:=T) (news := [y]) rfl (hown.ext hn6.ext) rfl (Qc9.new1 (x:=y) hn6) (by simp;omega) ((hx2.trans hn6.ext).size) fun A7 c7 w7 hown7 hg7 hA7 => ?_
     have hx7:=Qh (hx2.trans hn6.ext) hg7 (Qs hown);generalize T ++ [y]=T7 at hown7 hT7 ⊢;refine Gg ?_;refine⟨_,wrap_succ (by omega),Gg ?_⟩
     exact⟨(k+1,A7,c7,T7,dn),by simp only;omega,⟨by simp only;omega,hx7,hT7,hown7⟩,Rr⟩
 . intro hge
   have hge:l.length<=k:=by simpa using hge
   obtain rfl:k=l.length:=by omega
   obtain⟨he1,he2⟩:=hT.ends Qzn;refine Gg ?_;constructor
   . intro hq
     have hq:dn=false:=by simpa using hq
     subst hq;obtain⟨hp4,ho4⟩:=he1 rfl;refine Gg ?_;refine⟨Qc2 s,⟨rfl,(hb.ext hx2).all⟩,Gg ?_⟩;intro b3 w3 hn3;refine Gg ?_;refine Qi Qc9 (l:=T) (news := [s]) rfl (hown.ext hn3.ext) rfl (Qc9.new1 (x:=s) hn3) (by simp;omega) ((hx2.trans hn3.ext).size) fun A4 c4 w4 hown4 hg4 hA4 => ?_
     have hx4:=Qh (hx2.trans hn3.ext) hg4 (Qs hown);generalize T ++ [s]=T4 at hown4 hp4 ho4 ⊢;refine Gg ?_
     exact⟨A4,c4,T4,rfl,hown4.sl Qc9.sz,hp4,ho4,hxw.trans hx4⟩
   . intro hq
     have hq:dn=true:=by simpa using hq
     subst hq;obtain⟨hp4,ho4⟩:=he2 rfl;refine Gg ?_
     exact⟨B,d,T,rfl,hown.sl Qc9.sz,hp4,ho4,hxw.trans hx2⟩
theorem Qr6 (e:Ev) (w:World):Cal Tryz.prog 133 [evV e] w fun r w'=>r = .int .i64 (Qw e)/\Ext w w':=by
 refine Fi Tryz.func133 rfl _ rfl rfl (Hh ?_);intro b w1 hn;have hb:=hn.At
 conv=>whnf
 refine⟨_,hb.one rfl,Hh ?_⟩;refine⟨fun h1 => ?_,fun h1 => ?_⟩
 . have h1:e.kind=1:=by simpa using h1
   conv=>whnf
   exact⟨by unfold Qw;rw[if_pos h1],hn.ext⟩
 have h1:¬ e.kind=1:=by simpa using h1
 conv=>whnf
 refine⟨fun h2 => ?_,fun h2 => ?_⟩
 . have h2:e.kind=2:=by simpa using h2
   conv=>whnf
   exact⟨by unfold Qw;rw[if_neg h1,if_pos h2],hn.ext⟩
 have h2:¬ e.kind=2:=by simpa using h2
 conv=>whnf
 refine⟨fun h3 => ?_,fun h3 => ?_⟩
 . have h3:e.kind=3:=by simpa using h3
   conv=>whnf
   exact⟨by unfold Qw;rw[if_neg h1,if_neg h2,if_pos h3],hn.ext⟩
 have h3:¬ e.kind=3:=by simpa using h3
 conv=>whnf
 refine⟨fun h4 => ?_,fun h4 => ?_⟩
 . have h4:e.kind=4:=by simpa using h4
   conv=>whnf
   refine⟨_,hb.one rfl,Hh ?_⟩
   exact⟨by unfold Qw;rw[if_neg h1,if_neg h2,if_neg h3,if_pos h4],hn.ext⟩
 have h4:¬ e.kind=4:=by simpa using h4
 conv=>whnf
 exact⟨by unfold Qw;rw[if_neg h1,if_neg h2,if_neg h3,if_neg h4],hn.ext⟩
theorem Qo4 (age half:Int) (ha:-4611686018427387904<=age/\age<=4611686018427387904) (hh:1<=half/\half<=4611686018427387904) (w:World) :
 Cal Tryz.prog 134 [.int .i64 age,.int .i64 half] w fun r w'=>r = .int .i64 (Xq age half)/\w'=w:=by
 have hmx:max half 1=half:=by omega
 refine Fi Tryz.func134 rfl _ rfl rfl (Hh ?_)
 by_cases ha0:age<0
 . refine⟨0,fun hg => ?_,?_⟩
   . exfalso
     simp[ha0] at hg
   conv=>whnf
   constructor
   . intro _
     conv=>whnf
     exact⟨by rw[Qh8 ha0],rfl⟩
   . intro hc
     simp[ha0] at hc
 have hq:age.tdiv half=age/half:=Int.tdiv_eq_ediv_of_nonneg (by omega);have hq0:0<=age/half:=Int.ediv_nonneg (by omega) (by omega);have hq1:age/half<=age:=Int.ediv_le_self _ (by omega);rw[Qoq ha0,hmx];refine⟨age/half,fun _=>⟨by omega,wrap_eq hq.symm ⟨by omega,by omega⟩⟩,Hh ?_⟩;constructor
 . intro hc
   have hc:20<age/half:=by
    have hc:(decide (age<0)||decide (20<age/half))=true:=hc
    simp[ha0] at hc
    exact hc
   conv=>whnf
   exact⟨by rw[Qft (by omega)],rfl⟩
 intro hc
 have hc:¬ 20<age/half:=by
  have hc:(decide (age<0)||decide (20<age/half))=false:=hc
  simp[ha0] at hc
  omega
 conv=>whnf
 refine Qd Qa (fun(i:Nat) w'=>i<=(age/half).toNat/\w'=w) (fun i => [(0,.int .i64 age),(1,.int .i64 half),(5,.int .i64 (Qe4 i)),(6,.int .i64 (i:Nat))]) (fun i=>21-i) 0 ⟨Nat.zero_le _,rfl⟩ Rr ?_;rintro i w2 ⟨hi,hw2⟩;subst hw2
 conv=>whnf
 refine⟨age/half,⟨by omega,wrap_eq hq.symm ⟨by omega,by omega⟩⟩,Hh ?_⟩;constructor
 . intro hlt
   have hlt:(i:Int)<age/half:=by simpa using hlt
   have hb:=Qi9 i;have hb1:=Qi9 (i+1);have hs:=Qpn i
   conv=>whnf
   refine⟨Qe4 (i+1),⟨by decide,wrap_eq hs ⟨by omega,by omega⟩⟩,Hh ?_⟩;refine⟨_,wrap_succ (by omega),Hh ?_⟩
   exact⟨i+1,by omega,⟨by omega,rfl⟩,Rr⟩
 . intro hge
   have hge:¬ (i:Int)<age/half:=by simpa using hge
   have:i=(age/half).toNat:=by omega
   rw[<- this]
   conv=>whnf
   exact⟨rfl,rfl⟩
theorem Qud:Qsr Tryz.prog 115 211 Qdv 9 120:=⟨by kernel_rfl,⟨_,ty211_ok,rfl,rfl⟩,by211,by decide,by decide,Qfo,Qfp⟩
set_option maxHeartbeats 1000000 in
theorem Qxj (D:List (Ev×SV)) (R:List Row) (person:ByteArray) (A:Option Addr) (c:Nat) (w:World) (hs:Sl Qdv 9 w A D) (hT:Qa1 w (TgR w A) D R) (hl:D.length<1000000) :
 Cal Tryz.prog 131 [.slice A D.length c,.string person] w fun r w'=>∃ A' c',r = .slice A' (X9 D person).length c'/\Sl Qdv 9 w' A' (X9 D person)/\Qa1 w' (fun k=>k<w.heap.size) (X9 D person) (rowsOf R person)/\Ext w w':=by
 refine Fi Tryz.func131 rfl _ rfl rfl (Hh ?_);intro b1 w1 hn1;conv=>whnf
 have o1:=Qud.made (base:=w.heap.size) hn1 (Nat.le_refl _)
 refine Qd Qa (fun(k:Nat×Option Addr×Nat×List (Ev×SV)) w'=>k.1<=D.length/\Ext w w'/\k.2.2.2=X9 (D.take k.1) person/\Own Qdv 9 211 w.heap.size w' k.2.1 k.2.2.1 k.2.2.2)
  (fun | (k,B,d,T) => [(0,.slice A D.length c),(1,.string person),(5,.slice B T.length d),(6,.int .i64 k)]) (fun k=>D.length-k.1) (0,some ⟨b1,0,none⟩,0,[]) ⟨by simp,hn1.ext,rfl,o1⟩ Rr ?_
 rintro ⟨k,B,d,T⟩ w2 ⟨hk,hx2,hT2,hown⟩;simp only at hk hT2 hown
 have hTl:T.length<=k:=by
  rw[hT2];have:=List.length_filter_le (fun d:Ev×SV=>decide (d.1.person=person)) (D.take k);rw[List.length_take] at this;unfold X9;omega
 conv=>whnf
 constructor
 . intro hc
   have hc:k<D.length:=by simpa using hc
   obtain⟨a2,hA2,hce⟩:=(hs.ext hx2).get hc;subst hA2;have htk:=Xl D k hc;generalize D[k]=e at hce htk
   have hsn:X9 (D.take (k+1)) person=T++if e.1.person=person then [e] else []:=by
    rw[htk,hT2];unfold X9;rw[List.filter_append]
    by_cases h:e.1.person=person <;> simp[h]
   refine Gg ?_;refine⟨a2,Ix,Gg ?_⟩;refine⟨.string e.1.person,cells_at hce (k:=4) rfl,Gg ?_⟩;constructor
   . intro hq
     have hq:e.1.person=person:=by simpa using hq
     rw[if_pos hq] at hsn;refine Gg ?_;refine⟨a2,Ix,Gg ?_⟩;refine⟨Qdv e,⟨rfl,hce⟩,Gg ?_⟩;intro b3 w3 hn3;refine Gg ?_;refine Qi Qud (l:=T) (news := [e]) rfl (hown.ext hn3.ext) rfl (Qud.new1 (x:=e) hn3) (by simp;omega) ((hx2.trans hn3.ext).size) fun A' c' w4 hown4 hg4 hA4 => ?_
     have hx4:=Qh (hx2.trans hn3.ext) hg4 (Qs hown);generalize hT1:T ++ [e]=T1 at hown4 hsn ⊢;refine Gg ?_;refine⟨_,wrap_succ (by omega),Gg ?_⟩
     exact⟨(k+1,A',c',T1),by simp only;omega,⟨by simp only;omega,hx4,hsn.symm,hown4⟩,Rr⟩
   . intro hq
     have hq:¬ e.1.person=person:=by simpa using hq
     rw[if_neg hq,List.append_nil] at hsn;refine Gg ?_;refine⟨_,wrap_succ (by omega),Gg ?_⟩
     exact⟨(k+1,B,d,T),by simp only;omega,⟨by simp only;omega,hx2,hsn.symm,hown⟩,Rr⟩
 . intro hc
   have hc:D.length<=k:=by simpa using hc
   rw[List.take_of_length_le hc] at hT2;rw[<- hT2]
   conv=>whnf
   refine⟨B,d,rfl,hown.sl Qfo,?_,hx2⟩;rw[hT2]
   have h0:Qa1 w (fun k=>k<w.heap.size) D R:=⟨hT.len,fun i d r hd hr=>by
    obtain⟨q1,q2,q3,q4⟩:=hT.ev i d r hd hr
    exact⟨q1,q2,q3,fun a ha=>(q4 a ha).1⟩⟩
   exact Qiv person (h0.ext (fun k hk=>hk) hx2)
theorem Q9g {e:Ev} (hm:Xp e=true):peB e=true↔e.kind<11:=by
 have hk:=Qzp hm;unfold peB thB;simp only[Bool.and_eq_true,Bool.not_eq_true',decide_eq_false_iff_not];omega
theorem Qug (l:List Ev) (n:Nat) (hn:n=l.length) (A:Option Addr) (c:Nat) (w:World) (hs:SlE w A l) (hl:l.length<1000000) :
 Cal Tryz.prog 52 [.slice A n c] w fun r w'=>∃ A' c',r = .slice A' (Qu l).length c'/\SlE w' A' (Qu l)/\Ext w w':=by
 subst hn
 exact Qlm l A c w hs hl
set_option maxHeartbeats 2000000 in
theorem Q19 (l:List Ev) (A:Option Addr) (c:Nat) (w:World) (hs:SlE w A l) (hcap:l.length<=c) (hl:l.length<1000) (hm:∀ e∈l,Xp e=true) :
 Cal Tryz.prog 65 [.slice A l.length c] w fun r w'=>∃ A' c' D,r = .slice A' D.length c'/\Sl Qdv 9 w' A' D/\Qa1 w' (TgR w' A') D (Qha l)/\D.length<=l.length/\Ext w w':=by
 refine Fi Tryz.func65 rfl _ rfl rfl (Hh ?_);intro b1 w1 hn1;conv=>whnf
 have o1:=Qud.made (base:=w.heap.size) hn1 (Nat.le_refl _)
 refine Qd Qa (fun(k:Nat×Option Addr×Nat×List (Ev×SV)) w'=>k.1<=l.length/\Ext w w'/\k.2.2.2.length<=k.1/\Qa1 w' (TgR w' k.2.1) k.2.2.2 (Qha (l.take k.1))/\Own Qdv 9 211 w.heap.size w' k.2.1 k.2.2.1 k.2.2.2)
  (fun | (k,B,d,T) => [(0,.slice A l.length c),(3,.slice B T.length d),(4,.int .i64 k)]) (fun k=>l.length-k.1) (0,some ⟨b1,0,none⟩,0,[]) ⟨by simp,hn1.ext,by simp,Qa1.nilR,o1⟩ Rr ?_
 rintro ⟨k,B,d,T⟩ w2 ⟨hk,hx2,hTl,hT,hown⟩;simp only at hk hTl hT hown
 conv=>whnf
 constructor
 . intro hc
   have hc:k<l.length:=by simpa using hc
   obtain⟨a2,hA2,hce⟩:=(hs.ext hx2).get hc;subst hA2;have htk:=Xl l k hc;have hme:=hm l[k] (List.getElem_mem hc);have hmt:∀ e∈l.take k,Xp e=true:=fun e he=>hm e (List.mem_of_mem_take he)
   have hstk:=Xt (Qfj hs k) 0 c (by rw[List.length_take];omega);rw[List.drop_zero] at hstk;have hkl:k=(l.take k).length:=by rw[List.length_take];omega
   generalize l[k]=e at hce htk hme;refine Gg ?_;refine⟨a2,Ix,Gg ?_⟩;refine⟨evC e,⟨rfl,hce⟩,Gg ?_⟩;intro b3 w3 hn3;refine Gg ?_;refine Qg Qa (e:=ty66) rfl hn3.At rfl rfl rfl (Qdk e) fun w4 h4 ho4 => ?_
   have h4:At w4 b3 66 (evC e):=h4;have hx24:Ext w2 w4:=ho4.ext hn3.ext (by rw[hn3.block];exact Nat.le_refl _);clear ho4 hn3;refine Gg ?_;refine⟨.int .i64 e.kind,h4.one rfl,Gg ?_⟩;constructor
   . intro hq
     have hq:11<=e.kind:=by simpa using hq
     have hpe:¬ peB e=true:=fun h=>by have:=(Q9g hme).1 h;omega
     refine Gg ?_;refine⟨_,wrap_succ (by omega),Gg ?_⟩;refine⟨(k+1,B,d,T),by simp only;omega,⟨by simp only;omega,hx2.trans hx24,by simp only;omega,?_,hown.ext hx24⟩,Rr⟩;simp only;rw[htk,Qej,if_neg hpe,List.append_nil]
     exact hT.extR hx24
   intro hq;have hq:¬ 11<=e.kind:=by simpa using hq
   have hpe:peB e=true:=(Q9g hme).2 (by omega);refine Gg ?_;intro b5 w5 hn5;refine Gg ?_;have o5:=Xa.made (base:=w2.heap.size) hn5 hx24.size;have hx25:=hx24.trans hn5.ext;have h5:=h4.ext hn5.ext;refine⟨.string e.item,h5.one rfl,Gg ?_⟩;constructor
   . intro hi
     have hi:¬ e.item=⟨#[]⟩:=by simpa using hi
     obtain⟨tg,htg⟩:∃ tg,tg=Qoj (Qu (l.take k)) e:=⟨_,rfl⟩;have htg2:tg=Xd (Qmj (Qjb e.item ((Qu (l.take k)).filter (thQ e.item e.at_))).tags):=by rw[htg];unfold Qoj;rw[if_neg hi]
     have htz:=Qtm e.item ((Qu (l.take k)).filter (thQ e.item e.at_)) fun x hx=>Qd2 hmt x (List.mem_filter.1 hx).1
     refine Qgh (ι:=Nat) (fun b => [(0,.slice (some a2) l.length c),(3,.slice B T.length d),(4,.int .i64 k),(5,.pointer (some ⟨b3,0,none⟩)),(6,.slice (some ⟨b5,0,none⟩) 0 0),(7,.pointer (some ⟨b,0,none⟩))]) (fun b w'=>Ext w5 w'/\At w' b 103 (itC (Qjb e.item ((Qu (l.take k)).filter (thQ e.item e.at_))))) ?_ ?_
     . refine Qcl (.mods (fun k=>w5.heap.size<=k)) (Pl.seq [0,1,2,4,5,6,7] (Pl.two 3 (Pl.seq [] (Pl.two 8 (Pl.seq [9,10,11,12,13,14] Pl.done) 12 (Pl.seq [8,9,10,11,13,14] Pl.done))) 12 (Pl.seq [3,8,9,10,11,13,14] Pl.done))) (by intro h;cases h) Qa mixed (by kernel_rfl) (Hh ?_)
       have hb3:=h5.lt;have hE:Ext w5 w5.drew:=(Ext.refl w5).drew;replace h5:At w5.drew b3 66 (evC e):=h5;generalize w5.drew=w6 at hE h5 ⊢;refine⟨⟨by omega,by omega,by omega,by omega⟩,Hh ?_⟩;refine⟨.string e.item,⟨h5.one rfl,by show ¬ (w5.heap.size<=b3);omega⟩,Hh ?_⟩;refine⟨.int .i64 e.at_,⟨h5.one rfl,by show ¬ (w5.heap.size<=b3);omega⟩,Hh ?_⟩;refine⟨?_,?_⟩
       . refine(Qug (l.take k) k hkl _ c _ (hstk.ext ((hx2.trans hx25).trans hE)) (by rw[List.length_take];omega)).mono ?_
         rintro _ wt ⟨At',ct,rfl,hst,hxt⟩;have hE:=hE.trans hxt;refine⟨Mod.of_ext hxt,Hh ?_⟩;refine⟨?_,?_⟩
         . refine(Qjp (Qu (l.take k)) e.item e.at_ At' ct _ hst (by have:=List.length_filter_le thB (l.take k);rw[List.length_take] at this;unfold Qu;omega) (fun x hx=>(List.mem_filter.1 hx).2) (Qd2 hmt)).mono ?_
           rintro _ wa ⟨rfl,hxa⟩;have hE:=hE.trans hxa;refine⟨Mod.of_ext hxa,Hh ?_⟩;intro b7 w7 hn7;have hb7:w5.heap.size<=b7:=by rw[hn7.block];exact hE.size
           have hE:=hE.trans hn7.ext;refine⟨Mod.of_ext hn7.ext,Hh ?_⟩;refine Qg Qa (e:=ty103) rfl (hn7.At) rfl rfl rfl (by simp[Qr,itC,Value.oneCell']) fun w8 h8 ho8 => ?_
           refine⟨Qq ho8 hb7,Hh ?_⟩
           exact⟨b7,⟨ho8.ext hE hb7,h8⟩,Rr⟩
         . intro b7 w7 hn7
           have hb7:w5.heap.size<=b7:=by rw[hn7.block];exact hE.size
           have hE:=hE.trans hn7.ext;refine⟨Mod.of_ext hn7.ext,Hh ?_⟩;refine(Qjp (Qu (l.take k)) e.item e.at_ At' ct _ (hst.ext hn7.ext) (by have:=List.length_filter_le thB (l.take k);rw[List.length_take] at this;unfold Qu;omega) (fun x hx=>(List.mem_filter.1 hx).2) (Qd2 hmt)).mono ?_;rintro _ wa ⟨rfl,hxa⟩;have hE:=hE.trans hxa;refine⟨Mod.of_ext hxa,Hh ?_⟩;refine Qg Qa (e:=ty103) rfl (hn7.At.ext hxa) rfl rfl rfl (by simp[Qr,itC,Value.oneCell']) fun w8 h8 ho8 => ?_
           refine⟨Qq ho8 hb7,Hh ?_⟩
           exact⟨b7,⟨ho8.ext hE hb7,h8⟩,Rr⟩
       . intro b7 w7 hn7
         have hb7:w5.heap.size<=b7:=by rw[hn7.block];exact hE.size
         have hE:=hE.trans hn7.ext;refine⟨Mod.of_ext hn7.ext,Hh ?_⟩;refine(Qug (l.take k) k hkl _ c _ (hstk.ext ((hx2.trans hx25).trans hE)) (by rw[List.length_take];omega)).mono ?_;rintro _ wt ⟨At',ct,rfl,hst,hxt⟩;have hE:=hE.trans hxt;refine⟨Mod.of_ext hxt,Hh ?_⟩;refine(Qjp (Qu (l.take k)) e.item e.at_ At' ct _ hst (by have:=List.length_filter_le thB (l.take k);rw[List.length_take] at this;unfold Qu;omega) (fun x hx=>(List.mem_filter.1 hx).2) (Qd2 hmt)).mono ?_;rintro _ wa ⟨rfl,hxa⟩;have hE:=hE.trans hxa;refine⟨Mod.of_ext hxa,Hh ?_⟩;refine Qg Qa (e:=ty103) rfl ((hn7.At.ext hxt).ext hxa) rfl rfl rfl (by simp[Qr,itC,Value.oneCell']) fun w8 h8 ho8 => ?_
         refine⟨Qq ho8 hb7,Hh ?_⟩
         exact⟨b7,⟨ho8.ext hE hb7,h8⟩,Rr⟩
     rintro b6 w6 ⟨hx56,h6⟩;generalize Qjb e.item ((Qu (l.take k)).filter (thQ e.item e.at_))=it at h6 htg2 htz;refine Gg ?_;refine⟨.string it.tags,h6.one rfl,Gg ?_⟩;refine⟨sz2 (by decide) (by omega),Gg ?_⟩;refine(Quf (Qmj it.tags) w6 (by unfold Qmj;rw[ByteArray.size_append];have:(⟨#[59]⟩:ByteArray).size=1:=rfl;omega)).mono ?_;rintro _ w7 ⟨A6,c6,rfl,htown,hx67⟩;rw[<- htg2] at htown ⊢;have hx26:=(hx25.trans hx56).trans hx67;replace htown:Own Qbg 1 9 w2.heap.size w7 A6 c6 tg:=Qmy htown (hx25.trans hx56).size;have hown6:=hown.ext hx26;have hx6:=hx2.trans hx26;have h7:=(h5.ext hx56).ext hx67;refine Gg ?_;refine⟨evC e,⟨rfl,h7.all⟩,Gg ?_⟩;intro b8 w8 hn8;refine Gg ?_;refine Qi Qud (l:=T) (news := [(e,(A6,tg.length,c6))]) rfl (hown6.ext hn8.ext) rfl (Qud.new1 (x:=(e,(A6,tg.length,c6))) hn8) (by simp;omega) ((hx6.trans hn8.ext).size) fun A9 c9 w9 hown9 hg9 hA9 => ?_
     have hx9:=Qh (hx6.trans hn8.ext) hg9 (Qs hown6);have s26:=hx26.size
     have hT9:Qa1 w9 (TgR w9 A9) (T ++ [(e,(A6,tg.length,c6))]) (Qha (l.take (k+1))):=by
      rw[htk,Qej,if_pos hpe,<- htg];refine((hT.extR (hx26.trans hn8.ext)).keepR (fun k' hk1 hk2=>Qb8 hg9 hA9 k' hk1 hk2) hg9.size).snocR ⟨rfl,rfl,?_,fun a ha => ?_⟩
      . refine Qct ((htown.sl Qad).ext hn8.ext) fun a ha=>(Qb8 hg9 hA9 a.block (by have:=(htown.block ha).2;have:=hn8.ext.size;omega) ?_).1
        rintro ⟨y,hy,he⟩;have h1:=(htown.block ha).1;have h2:=(hown.block hy).2;omega
      . have h1:=(htown.block ha)
        have h3:=hn8.ext.size;refine⟨by have:=hg9.size;omega,(Qb8 hg9 hA9 a.block (by omega) ?_).2⟩;rintro ⟨y,hy,he⟩;have h2:=(hown.block hy).2;omega
     have hTl9:(T ++ [(e,(A6,tg.length,c6))]).length<=k+1:=by simp;omega
     generalize T ++ [(e,(A6,tg.length,c6))]=T9 at hown9 hT9 hTl9 ⊢;refine Gg ?_;refine⟨_,wrap_succ (by omega),Gg ?_⟩
     exact⟨(k+1,A9,c9,T9),by simp only;omega,⟨by simp only;omega,hx9,hTl9,hT9,hown9⟩,Rr⟩
   . intro hi
     have hi:e.item=⟨#[]⟩:=by simpa using hi
     obtain⟨tg,htg⟩:∃ tg,tg=Qoj (Qu (l.take k)) e:=⟨_,rfl⟩;have htg2:tg = []:=by rw[htg];unfold Qoj;rw[if_pos hi]
     obtain⟨A6,hA6⟩:∃ A6:Option Addr,A6=some ⟨b5,0,none⟩:=⟨_,rfl⟩;obtain⟨c6,hc6⟩:∃ c6:Nat,c6=0:=⟨_,rfl⟩;have htown:Own Qbg 1 9 w2.heap.size w5 A6 c6 tg:=by rw[hA6,hc6,htg2];exact o5
     have hx26:=hx25;have hown6:=hown.ext hx26;have hx6:=hx2.trans hx26;have hz:(Value.slice (some ⟨b5,0,none⟩) 0 0) = .slice A6 tg.length c6:=by rw[hA6,hc6,htg2];rfl
     refine Gg ?_;refine⟨evC e,⟨rfl,h5.all⟩,Gg ?_⟩;rw[hz];intro b8 w8 hn8;refine Gg ?_;refine Qi Qud (l:=T) (news := [(e,(A6,tg.length,c6))]) rfl (hown6.ext hn8.ext) rfl (Qud.new1 (x:=(e,(A6,tg.length,c6))) hn8) (by simp;omega) ((hx6.trans hn8.ext).size) fun A9 c9 w9 hown9 hg9 hA9 => ?_
     have hx9:=Qh (hx6.trans hn8.ext) hg9 (Qs hown6);have s26:=hx26.size
     have hT9:Qa1 w9 (TgR w9 A9) (T ++ [(e,(A6,tg.length,c6))]) (Qha (l.take (k+1))):=by
      rw[htk,Qej,if_pos hpe,<- htg];refine((hT.extR (hx26.trans hn8.ext)).keepR (fun k' hk1 hk2=>Qb8 hg9 hA9 k' hk1 hk2) hg9.size).snocR ⟨rfl,rfl,?_,fun a ha => ?_⟩
      . refine Qct ((htown.sl Qad).ext hn8.ext) fun a ha=>(Qb8 hg9 hA9 a.block (by have:=(htown.block ha).2;have:=hn8.ext.size;omega) ?_).1
        rintro ⟨y,hy,he⟩;have h1:=(htown.block ha).1;have h2:=(hown.block hy).2;omega
      . have h1:=(htown.block ha)
        have h3:=hn8.ext.size;refine⟨by have:=hg9.size;omega,(Qb8 hg9 hA9 a.block (by omega) ?_).2⟩;rintro ⟨y,hy,he⟩;have h2:=(hown.block hy).2;omega
     have hTl9:(T ++ [(e,(A6,tg.length,c6))]).length<=k+1:=by simp;omega
     generalize T ++ [(e,(A6,tg.length,c6))]=T9 at hown9 hT9 hTl9 ⊢;refine Gg ?_;refine⟨_,wrap_succ (by omega),Gg ?_⟩
     exact⟨(k+1,A9,c9,T9),by simp only;omega,⟨by simp only;omega,hx9,hTl9,hT9,hown9⟩,Rr⟩
 . intro hc
   have hc:l.length<=k:=by simpa using hc
   rw[List.take_of_length_le hc] at hT
   conv=>whnf
   exact⟨B,d,T,rfl,hown.sl Qfo,hT,by omega,hx2⟩
set_option maxHeartbeats 2000000 in
theorem Qr2 (D:List (Ev×SV)) (R:List Row) (half now:Int) (person:ByteArray) (A:Option Addr) (c:Nat) (w:World) (hs:Sl Qdv 9 w A D) (hT:Qa1 w (TgR w A) D R) (hl:D.length<1000) (hm:∀ r∈R,Xp r.1=true/\r.2.length<=8) (hh:1<=half/\half<=1099511627776) (hn:0<=now/\now<=1099511627776) :
 Cal Tryz.prog 67 [.slice A D.length c,.int .i64 half,.string person,.int .i64 now] w fun r w'=>∃ A' c' L,r = .slice A' L.length c'/\Sl Qc2 2 w' A' L/\Qqi (Qsv half now (rowsOf R person)) L/\L.length<1000000/\Srt Qfg L/\Ext w w':=by
 have hRm:∀ r∈rowsOf R person,Xp r.1=true/\r.2.length<=8:=fun r hr=>hm r (List.mem_filter.1 hr).1
 have hDO:(X9 D person).length<=D.length:=List.length_filter_le _ _;have hfb:=fun t=>Qqb (half:=half) (now:=now) (fun r hr=>(hRm r hr).1) t
 have hfz:=fun t=>Q6p (half:=half) (now:=now) (R:=rowsOf R person) (t:=t)
 have hfm:∀ j t,0<=Qsv half now ((rowsOf R person).take j) t/\Qsv half now ((rowsOf R person).take j) t<=((rowsOf R person).take j).length*5242880:=fun j t=>Qqb (fun r hr=>(hRm r (List.mem_of_mem_take hr)).1) t
 refine Fi Tryz.func67 rfl _ rfl rfl (Hh ?_);intro b1 w1 hn1;conv=>whnf
 have hx1:=hn1.ext;have o1:SlT w1 (some ⟨b1,0,none⟩) []:=Sl.nil;refine(Qxj D R person A c w1 (hs.ext hx1) (hT.extR hx1) (by omega)).mono ?_;rintro _ w2 ⟨A2,c2,rfl,hs2,hT2,hx2⟩;replace o1:=o1.ext hx2;replace hx1:=hx1.trans hx2;have hT2l:∀ k,(fun k=>k<w1.heap.size) k->k<w2.heap.size:=fun k hk=>Nat.lt_of_lt_of_le hk hx2.size
 have hlen:=hT2.len
 have hgetT:∀ {w':World},Ext w2 w'->∀ i (hi:i<(X9 D person).length),∃ d r,(X9 D person)[i]? = some d/\(rowsOf R person)[i]? = some r/\d.1=r.1/\d.2.2.1=r.2.length/\SlT w' d.2.1 r.2/\Xp r.1=true/\r.2.length<=8/\(rowsOf R person).take (i+1)=(rowsOf R person).take i ++ [r]:=fun hx i hi=>by
  have hi2:i<(rowsOf R person).length:=by omega
  have h:=(hT2.ext hT2l hx).ev i _ _ (List.getElem?_eq_getElem hi) (List.getElem?_eq_getElem hi2);have hr:=hRm _ (List.getElem_mem hi2)
  exact⟨_,_,List.getElem?_eq_getElem hi,List.getElem?_eq_getElem hi2,h.1,h.2.1,h.2.2.1,hr.1,hr.2,List.take_succ_eq_append_getElem hi2⟩
 generalize X9 D person=O at hs2 hT2 hDO hlen hgetT ⊢;have hu0:∀ x,x∈([]:List ByteArray)↔Q2v ((rowsOf R person).take 0) x:=by simp[Q2v]
 generalize rowsOf R person=RO at hT2 hRm hfb hfz hfm hlen hgetT hu0 ⊢
 conv=>whnf
 refine Qd Qa (fun(q:Nat×Option Addr×Nat×List ByteArray) w'=>q.1<=O.length/\Ext w2 w'/\SlT w' q.2.1 q.2.2.2/\q.2.2.2.Nodup/\(∀ x,x∈q.2.2.2↔Q2v (RO.take q.1) x)/\q.2.2.2.length<=8*q.1)
  (fun | (i,B,d,T) => [(1,.int .i64 half),(3,.int .i64 now),(10,.slice A2 O.length c2),(9,.slice B T.length d),(25,.slice A2 O.length c2),(26,.int .i64 O.length),(27,.int .i64 (i:Nat))]) (fun q=>O.length-q.1) (0,some ⟨b1,0,none⟩,0,[]) ⟨Nat.zero_le _,Ext.refl _,o1,List.nodup_nil,hu0,by simp⟩ Rr ?_
 clear hu0 o1;rintro ⟨i,B,d,T⟩ w3 ⟨hi,hx3,hsT,hnT,hmT,hlT⟩;simp only at hi hsT hnT hmT hlT
 conv=>whnf
 constructor
 . intro hlt
   have hlt:i<O.length:=by simpa using hlt
   obtain⟨dd,r,hd,hr,h1,h2,h3,h4,h5,htk⟩:=hgetT hx3 i hlt;obtain⟨a4,hA4,hc4⟩:=(hs2.ext hx3) i dd hd;subst hA4;refine Gg ?_;refine⟨a4,Ix,Gg ?_⟩;refine⟨Qdv dd,⟨rfl,hc4⟩,Gg ?_⟩;intro b5 w5 hn5;refine Gg ?_;refine Qg Qa (e:=ty211) rfl hn5.At rfl rfl rfl (Qfp dd) fun w6 h6 ho6 => ?_
   have h6:At w6 b5 211 (Qdv dd):=h6;have hx36:Ext w3 w6:=ho6.ext hn5.ext (by rw[hn5.block];exact Nat.le_refl _);clear ho6 hn5;refine Gg ?_;refine⟨.slice dd.2.1 dd.2.2.1 dd.2.2.2,h6.one rfl,Gg ?_⟩;rw[h2]
   refine Qd Qa (fun(q:Nat×Option Addr×Nat×List ByteArray) w'=>q.1<=r.2.length/\Ext w6 w'/\SlT w' q.2.1 q.2.2.2/\q.2.2.2.Nodup/\(∀ x,x∈q.2.2.2↔Q2v (RO.take i) x\/x∈r.2.take q.1)/\q.2.2.2.length<=8*i+q.1)
    (fun | (j,B,d,T) => [(1,.int .i64 half),(3,.int .i64 now),(10,.slice (some a4) O.length c2),(9,.slice B T.length d),(25,.slice (some a4) O.length c2),(26,.int .i64 O.length),(27,.int .i64 (i:Nat)),(32,.slice dd.2.1 r.2.length dd.2.2.2),(33,.int .i64 r.2.length),(34,.int .i64 (j:Nat))]) (fun q=>r.2.length-q.1) (0,B,d,T) ⟨Nat.zero_le _,Ext.refl _,hsT.ext hx36,hnT,fun x=>by rw[hmT];simp,by simpa using hlT⟩ Rr ?_
   clear hsT hnT hmT hlT;rintro ⟨j,B,d,T⟩ w7 ⟨hj,hx7,hsT,hnT,hmT,hlT⟩;simp only at hj hsT hnT hmT hlT
   conv=>whnf
   constructor
   . intro hlt2
     have hlt2:j<r.2.length:=by simpa using hlt2
     obtain⟨a8,hA8,hc8⟩:=((h3.ext hx36).ext hx7).get hlt2;have htk2:=Xl r.2 j hlt2;generalize r.2[j]=t at hc8 htk2;refine Gg ?_;refine⟨a8,⟨hA8,by omega,by omega⟩,Gg ?_⟩;refine⟨.string t,Qp hc8,Gg ?_⟩;refine(Qn0 T t B d w7 hsT (by omega) hnT).mono ?_;rintro _ w8 ⟨B8,d8,T8,rfl,hs8,hn8,hm8,hl8,_,hx8⟩;refine Gg ?_;refine⟨_,wrap_succ (by omega),Gg ?_⟩;refine⟨(j+1,B8,d8,T8),by simp only;omega,⟨by simp only;omega,hx7.trans hx8,hs8,hn8,fun x => ?_,by simp only;omega⟩,Rr⟩;simp only;rw[hm8,hmT,htk2,List.mem_append,List.mem_singleton,or_assoc]
   . intro hge
     have hge:r.2.length<=j:=by simpa using hge
     rw[List.take_of_length_le hge] at hmT;refine Gg ?_;refine⟨_,wrap_succ (by omega),Gg ?_⟩;refine⟨(i+1,B,d,T),by simp only;omega,⟨by simp only;omega,hx3.trans (hx36.trans hx7),hsT,hnT,fun x => ?_,by simp only;omega⟩,Rr⟩;simp only;rw[hmT,htk];unfold Q2v;constructor
     . rintro (⟨y,hy,hx⟩ | hx)
       . exact⟨y,by simp[hy],hx⟩
       . exact⟨r,by simp,hx⟩
     . rintro ⟨y,hy,hx⟩
       rcases List.mem_append.1 hy with hy | hy
       . exact .inl ⟨y,hy,hx⟩
       . rw[List.mem_singleton] at hy
         subst hy
         exact .inr hx
 intro hge;have hge:O.length<=i:=by simpa using hge
 rw[List.take_of_length_le (by omega)] at hmT;refine Gg ?_;intro b4 w4 hn4;refine Gg ?_;have hx4:=hx3.trans hn4.ext;have hsT4:=hsT.ext hn4.ext;have o4:Sl Qc2 2 w4 (some ⟨b4,0,none⟩) []:=Sl.nil;obtain⟨f,hf⟩:∃ f,f=Qsv half now RO:=⟨_,rfl⟩;rw[<- hf] at hfb hfz ⊢
 refine Qd Qa (fun(q:Nat×Option Addr×Nat×List Ct) w'=>q.1<=T.length/\Ext w4 w'/\Sl Qc2 2 w' q.2.1 q.2.2.2/\q.2.2.2.Perm (Q0t f (T.take q.1))/\Srt Qfg q.2.2.2)
  (fun | (k,B',d',L) => [(1,.int .i64 half),(3,.int .i64 now),(10,.slice A2 O.length c2),(15,.slice B' L.length d'),(44,.slice B T.length d),(45,.int .i64 T.length),(46,.int .i64 (k:Nat))]) (fun q=>T.length-q.1) (0,some ⟨b4,0,none⟩,0,[]) ⟨Nat.zero_le _,Ext.refl _,o4,by simp[Q0t],List.Pairwise.nil⟩ Rr ?_
 have hdn:=hnT;rintro ⟨k,B',d',L⟩ w5 ⟨hk,hx5,hs5,hp5,ho5⟩;simp only at hk hs5 hp5 ho5
 have hLl:L.length<=k:=by
  have h1:=hp5.length_eq;have h2:=Q7k f (T.take k);rw[List.length_take] at h2;omega
 conv=>whnf
 constructor
 . intro hlt
   have hlt:k<T.length:=by simpa using hlt
   obtain⟨a6,hA6,hc6⟩:=(hsT4.ext hx5).get hlt;subst hA6;have htk:=Xl T k hlt;generalize T[k]=t at hc6 htk;have hsn:Q0t f (T.take (k+1))=Q0t f (T.take k)++if 0<f t then [(t,f t)] else []:=by rw[htk,Q3s]
   refine Gg ?_;refine⟨a6,Ix,Gg ?_⟩;refine⟨.string t,Qp hc6,Gg ?_⟩
   refine Qd Qa (fun(q:Nat×Int) w'=>q.1<=O.length/\q.2=Qsv half now (RO.take q.1) t/\Ext w5 w')
    (fun | (j,n) => [(1,.int .i64 half),(3,.int .i64 now),(10,.slice A2 O.length c2),(15,.slice B' L.length d'),(44,.slice (some a6) T.length d),(45,.int .i64 T.length),(46,.int .i64 (k:Nat)),(17,.string t),(18,.int .i64 n),(50,.slice A2 O.length c2),(51,.int .i64 O.length),(52,.int .i64 (j:Nat))]) (fun q=>O.length-q.1) (0,0) ⟨Nat.zero_le _,rfl,Ext.refl _⟩ Rr ?_
   rintro ⟨j,n⟩ w6 ⟨hj,hn',hx6⟩;simp only at hj hn';have hx06:=(hx4.trans hx5).trans hx6
   conv=>whnf
   constructor
   . intro hlt2
     have hlt2:j<O.length:=by simpa using hlt2
     obtain⟨dd,r,hd,hr,h1,h2,h3,h4,h5,htk2⟩:=hgetT hx06 j hlt2;obtain⟨a7,hA7,hc7⟩:=(hs2.ext hx06) j dd hd;subst hA7;have hst:Qsv half now (RO.take (j+1)) t=n+if t∈r.2 then Ql1 half now r.1 else 0:=by rw[htk2,Qu8,<- hn']
     have hb0:=hfm j t;have hb1:=hfm (j+1) t;rw[List.length_take] at hb0 hb1;rw[<- hn'] at hb0;refine Gg ?_;refine⟨a7,Ix,Gg ?_⟩;refine⟨Qdv dd,⟨rfl,hc7⟩,Gg ?_⟩;intro b8 w8 hn8;refine Gg ?_;refine Qg Qa (e:=ty211) rfl hn8.At rfl rfl rfl (Qfp dd) fun w9 h9 ho9 => ?_
     have h9:At w9 b8 211 (Qdv dd):=h9;have hx69:Ext w6 w9:=ho9.ext hn8.ext (by rw[hn8.block];exact Nat.le_refl _);clear ho9 hn8;refine Gg ?_;refine⟨.slice dd.2.1 dd.2.2.1 dd.2.2.2,h9.one rfl,Gg ?_⟩;rw[h2];refine(Qp2 r.2 t dd.2.1 dd.2.2.2 w9 (h3.ext hx69) (by omega)).mono ?_;rintro _ w10 ⟨rfl,hw10⟩;replace hw10:=hw10.symm;subst hw10;refine Gg ?_;constructor
     . intro hq
       have hq:t∈r.2:=Qf8.1 hq;rw[if_pos hq] at hst;have hwl:=Qdt h4;have hat:=Qif h4;have hwb:=Qc1 (now-r.1.at_) half
       have hmul:0<=Ql1 half now r.1/\Ql1 half now r.1<=5242880:=by
        unfold Ql1;refine⟨Int.mul_nonneg hwl.1 hwb.1,?_⟩;have:Qw r.1*Xq (now-r.1.at_) half<=5*1048576:=Int.mul_le_mul hwl.2 hwb.2 hwb.1 (by omega);omega
       have hde:dd.1=r.1:=h1;have hmu2:0<=Qw r.1*Xq (now-r.1.at_) half/\Qw r.1*Xq (now-r.1.at_) half<=5242880:=hmul;refine Gg ?_;refine Dr .ext [0,1,2,4,5,6,7,8,9,3,10,11,12,13] [] (Hh ?_);have hxd:=(Ext.refl w9).drew;replace h9:=h9.ext hxd;replace hx69:=hx69.trans hxd;generalize w9.drew=w11 at h9 hx69 ⊢;refine⟨evC dd.1,⟨rfl,fun i v hv=>h9.all i v (by show (evC dd.1 ++ [Value.slice dd.2.1 dd.2.2.1 dd.2.2.2])[i]? = some v;rw[List.getElem?_append_left (List.getElem?_eq_some_iff.1 hv).1];exact hv)⟩,?_⟩;conv=>whnf
       refine⟨.int .i64 dd.1.at_,h9.one rfl,Hh ?_⟩;rw[hde];refine⟨now-r.1.at_,wrap_eq rfl ⟨by omega,by omega⟩,Hh ?_⟩;refine(Qr6 r.1 w11).mono ?_;rintro _ w12 ⟨rfl,hx12⟩;refine⟨hx12,Hh ?_⟩;refine(Qo4 (now-r.1.at_) half ⟨by omega,by omega⟩ ⟨by omega,by omega⟩ w12).mono ?_;rintro _ w13 ⟨rfl,hw13⟩;replace hw13:=hw13.symm;subst hw13;refine⟨Ext.refl _,Hh ?_⟩;refine⟨Ql1 half now r.1,wrap_eq rfl ⟨by omega,by omega⟩,Hh ?_⟩;refine⟨n+Ql1 half now r.1,wrap_eq rfl ⟨by omega,by omega⟩,Gg ?_⟩;refine⟨_,wrap_succ (by omega),Gg ?_⟩
       exact⟨(j+1,n+Ql1 half now r.1),by simp only;omega,⟨by simp only;omega,hst.symm,hx6.trans (hx69.trans hx12)⟩,Rr⟩
     . intro hq
       have hq:¬ t∈r.2:=by
        have hq:inT r.2 t=false:=hq
        exact Qq7.1 hq
       rw[if_neg hq,Int.add_zero] at hst;refine Gg ?_;refine⟨_,wrap_succ (by omega),Gg ?_⟩
       exact⟨(j+1,n),by simp only;omega,⟨by simp only;omega,hst.symm,hx6.trans hx69⟩,Rr⟩
   . intro hge2
     have hge2:O.length<=j:=by simpa using hge2
     rw[List.take_of_length_le (by omega)] at hn';have hft:n=f t:=by rw[hf,hn']
     subst hft;refine Gg ?_;constructor
     . intro hq
       have hq:0<f t:=by simpa using hq
       rw[if_pos hq] at hsn;refine Gg ?_;refine(Qxm L (t,f t) B' d' w6 (hs5.ext hx6) (by omega)).mono ?_;rintro _ w7 ⟨B7,d7,L7,rfl,hs7,hp7,ho7,hx7⟩;refine Gg ?_;refine⟨_,wrap_succ (by omega),Gg ?_⟩;refine⟨(k+1,B7,d7,L7),by simp only;omega,⟨by simp only;omega,hx5.trans (hx6.trans hx7),hs7,?_,ho7 ho5⟩,Rr⟩;simp only;rw[hsn]
       exact hp7.trans ((hp5.cons _).trans (List.perm_append_comm (l₁ := [(t,f t)])))
     . intro hq
       have hq:¬ 0<f t:=by simpa using hq
       rw[if_neg hq,List.append_nil] at hsn;refine Gg ?_;refine⟨_,wrap_succ (by omega),Gg ?_⟩
       exact⟨(k+1,B',d',L),by simp only;omega,⟨by simp only;omega,hx5.trans hx6,hs5.ext hx6,by simp only;rw[hsn];exact hp5,ho5⟩,Rr⟩
 . intro hge
   have hge:T.length<=k:=by simpa using hge
   rw[List.take_of_length_le hge] at hp5
   conv=>whnf
   refine⟨B',d',L,rfl,hs5,Q3r hnT (fun t ht => ?_) hp5,by omega,ho5,hx1.trans (hx4.trans hx5)⟩;refine(hmT t).2 (Classical.byContradiction fun h => ?_);have:=hfz t h;omega
end Go.Proofs.YteabekcdcphjpaaGreatDoor
