import Derived.Lib.AppendIntMem
import Derived.Test.YtnpacgccajekgaaGreatDoorGAA
import Derived.Test.YtnpacgccajekgaaGreatDoorGN
set_option linter.all false
namespace Go.Proofs.YtnpacgccajekgaaGreatDoor
open Go.Se Go.RowKit Go.Lib Go.Sort
theorem Xln:Qql Tryz.prog 195:=⟨_,Tryz.func195,rfl,rfl⟩
theorem Xlo:Qql Tryz.prog 196:=⟨_,Tryz.func196,rfl,rfl⟩
theorem Xlp:Qql Tryz.prog 197:=⟨_,Tryz.func197,rfl,rfl⟩
set_option maxHeartbeats 1000000 in
theorem Qzo(u:Nat)(i:u<18446744073709551616)(w)(C:Gl w) :
 Cal Tryz.prog 155 [.int .u64 u,Vj 10] w fun r w'=>r=.string (Qd4 u)/\Ext w w':=by
 refine Fi Tryz.func155 rfl _ rfl rfl (Hh ?_);constructor
 rotate_left
 .intro h;simp at h
 intro _;refine Gg ?_;constructor
 .intro a;have a:u<100:=(by have:(u:Int)<100:=Su a;omega);refine Gg ?_;refine⟨(u:Int),wrap_i64 ⟨Om,Om⟩,Gg ?_⟩;refine(Qae Xln (Tryz.internal_strconv_small u a w) (R:=fun r w'=>r=.string (Qd4 u)/\w'=w) fun w' d=>⟨rfl,d⟩).mono ?_;rintro _ K ⟨rfl,rfl⟩;refine Gg ?_;exact⟨rfl,Ext.refl _⟩
 .intro a;have a:100<=u:=(by have:¬(u:Int)<100:=Su a;omega);have N:nDigits u<=20:=by have:=numDigits_eq u Om i;split at this<;>omega
  refine Gg ?_;intro M m e;have A:=e.block;have l:m=w.alloc (.cells zeros24 308):=e.world;have I:=e.ext;clear e;subst A;refine Gg ?_;refine(Qae Xlo (Tryz.internal_strconv_numDigits u Om i m (C.ext I).pow10) (R:=fun r w'=>r=Vj (nDigits u)/\w'=m) fun w' d=>⟨rfl,d⟩).mono ?_;rintro _ K ⟨rfl,H⟩;subst H;have s:Tryz.prog.arrayLen 308=24:=by kernel_rfl
  have x:∀W,(Instr.sliceAt 308 (Pj w.heap.size) none (some (Vj (nDigits u:Int))) none).run Tryz.prog W=.ok (.slice (some ⟨w.heap.size,0,none⟩) (nDigits u) 24) W:=fun W=>by
   rw[run_sliceAt_array_h W 308 ⟨w.heap.size,0,none⟩ Kr .i64 (nDigits u:Int) Om (by rw[s];omega)];have F:(sizeOf (Tryz.prog.elem 308)).run Tryz.prog W=.ok 1 W:=by kernel_rfl
   simp[s,F,slicedAt,Addr.add]
  refine Gg ?_;refine⟨_,fun w' _=>x w',Gg ?_⟩;have o:=holds_zero0 w 308 (nDigits u) Om;have v:=Tryz.internal_strconv_formatBase10 w.heap.size 0 24 u (Array.replicate (nDigits u) 0) (w.alloc (.cells zeros24 308)) o (by rw[Array.size_replicate];exact lt_pow_nDigits u) i (by rw[Array.size_replicate];omega);rw[Array.size_replicate,<- l]at v;refine(Qae Xlp v (R:=fun r w'=>r=.tuple #[]/\SlB w' (some ⟨w.heap.size,0,none⟩) (decDigits u)/\Ext w w') fun w' d=>?_).mono ?_
  .obtain⟨k,O,n,rfl,f⟩:=d;refine⟨rfl,fun j b D=>⟨_,rfl,?_⟩,?_⟩
   .obtain⟨g,rfl⟩:=Zi.1 D;rw[row_is_numeral f j g,add_plain,World.cell?_drewN,l];exact cell?_putRow (fun(b:UInt8)=>Value.int .u8 (b.toNat:Int)) _ w.heap.size 0 _ n o (by rw[f.size,Array.size_replicate]) j (by rw[f.size];rw[decDigits_length]at g;exact g)
   .obtain⟨os,B⟩:=fin_at w (.cells zeros24 308) n k 0;rw[l,B];exact(Qhn w k).trans (Qdm _ _)
  rintro _ L ⟨rfl,E,J⟩;refine Gg ?_;refine⟨_,fun w' _=>x w',Gg ?_⟩;have y:=fun(z:Value->World->Prop) (h:z (.string (bytesOf (decDigits u))) L)=>text_of (c:=24) E h
  rw[decDigits_length]at y;refine y _ ?_;refine Gg ?_;exact⟨rfl,J⟩
theorem Qrq(u)(a:0<=u)(c:u<18446744073709551616)(w)(b:Gl w) :
 Cal Tryz.prog 83 [.int .u64 u,Vj 10] w fun r w'=>r=.string (Qd4 u.toNat)/\Ext w w':=by
 obtain⟨n,rfl⟩:=Int.eq_ofNat_of_zero_le a;refine Fi Tryz.func83 rfl _ rfl rfl (Hh ?_);refine(Qzo n Om w b).mono ?_;rintro _ d ⟨rfl,hx⟩;refine Gg ?_;exact⟨rfl,hx⟩
theorem Q35(seed):(⟨#[97,117,100,105,116,32]⟩:Bj)++Qd4 seed.toNat=bytesOf (Qcv seed):=by
 unfold Qd4 Qcv;rw[<- Q8o];rfl
theorem Qf4(n)(h:n<18446744073709551616):(Qd4 n).size<=20:=by
 unfold Qd4;rw[Qag,decDigits_length]
 by_cases a:1<=n
 .have:=numDigits_eq n a h;split at this<;>omega
 .obtain rfl:n=0:=Om;rw[nDigits_small (by decide)];decide
theorem Qq9(seed)(a:0<=seed)(c:seed<18446744073709551616)(w)(b:Gl w) :
 Cal Tryz.prog 39 [.int .u64 seed] w fun r w'=>r=.string (bytesOf (Qcv seed))/\Ext w w':=by
 refine Fi Tryz.func39 rfl _ rfl rfl (Hh ?_);refine(Qrq seed a c w b).mono ?_;rintro _ e ⟨rfl,hx⟩;refine Gg ?_;have d:=Qf4 seed.toNat Om;refine⟨by show 6+(Qd4 seed.toNat).size<=_;omega,Gg ?_⟩;exact⟨by rw[<- Q35],hx⟩
end Go.Proofs.YtnpacgccajekgaaGreatDoor
namespace Go.Proofs.YtnpacgccajekgaaGreatDoor
open Go.Se Go.RowKit
theorem Qgu{x}(a:ntB x=true):0<=x.off/\x.off<=1048576/\0<=x.now/\x.now<=1099511627776/\Qo x.person=true/\x.items.length<=1000/\∀i∈x.items,Qo i=true:=by
 unfold ntB at a;simp only[Zk,decide_eq_true_eq,Zaa]at a;exact⟨a.1.1.1.1.1.1,a.1.1.1.1.1.2,a.1.1.1.1.2,a.1.1.1.2,a.1.1.2,a.1.2,a.2⟩
def Qk9(e:En):List Bj:= [Qd4 e.nt.off.toNat,Qd4 e.nt.now.toNat,e.nt.person,bytesOf (Qqe e.nt.items),Qd4 e.sum.toNat]
theorem Qsl(e):(Qk9 e).map (·.data.toList)=Qsk e:=rfl
set_option maxHeartbeats 1000000 in
theorem Qw0(r e w)(o:Gl w)(F:r.off=e.nt.off)(H:r.now=e.nt.now)(I:r.person=e.nt.person)(K:r.sum=e.sum)(J:r.n=e.nt.items.length)(L:r.n<=r.c)(N:SlT w r.A e.nt.items)(O:∀a,r.A=some a->a.spot=none)(ae:ntB e.nt=true)(P:0<=e.sum/\e.sum<18446744073709551616)(aq:(Qck e).length<=1000000) :
 Cal Tryz.prog 43 [.agg (erC r).toArray] w fun v w'=>v=.string (bytesOf (Qck e))/\Ext w w':=by
 obtain⟨off,now,person,A,n,c,sum⟩:=r;simp only at F H I K J L N O;subst F H I K J;obtain⟨V,ak,W,al,an,ao,Y⟩:=Qgu ae;refine Fi Tryz.func43 rfl _ rfl rfl (Hh ?_);intro U D s;have i:At D U 45 (erC ⟨e.nt.off,e.nt.now,e.nt.person,A,e.nt.items.length,c,e.sum⟩):=s.At;have y:=s.ext;clear s;refine Hh ?_;refine Xi Qb (ι:=Unit) (fun _=>[(1,Pj U),(3,.string (bytesOf (Qqe e.nt.items)))]) (fun _ w'=>Ext D w') ?_ ?_
 .refine Gg ?_;refine⟨.slice A e.nt.items.length c,i.one rfl,Gg ?_⟩;constructor
  .intro b;have b:0<e.nt.items.length:=Su b;have M:e.nt.items≠[]:=fun q=>by rw[q]at b;simp at b
   refine Gg ?_;refine⟨.slice A e.nt.items.length c,i.one rfl,Gg ?_⟩;refine(Q5e e.nt.items A c D M (N.ext y) (fun a aa=>⟨O a aa,L⟩) Y Om).mono ?_;rintro _ h ⟨rfl,g⟩;refine Gg ?_;have m:Xjf e.nt.items=bytesOf (Qqe e.nt.items):=(by unfold Qqe;rw[if_neg M];rfl);rw[m];exact⟨(),g,Rr⟩
  .intro b;have b:e.nt.items.length=0:=(by have:¬0<e.nt.items.length:=Su b;omega);have Z:e.nt.items=[]:=Zan b;refine Gg ?_;have m:bytesOf (Qqe e.nt.items)=⟨#[46]⟩:=by rw[Z];rfl
   rw[m];exact⟨(),Ext.refl _,Rr⟩
 rintro _ h g;have d:=i.ext g;have f:=y.trans g;clear i y g;refine Gg ?_;refine Dr .ext [0,1,3,4,6,7,8,9,10,2,5,11] [12,13,14] (Hh ?_);have B:Ext h h.drew:=(Ext.refl h).drew;replace d:=d.ext B;replace f:=f.trans B;generalize h.drew=ai at d f⊢;clear B;refine⟨Vj e.nt.off,d.one rfl,Hh ?_⟩;refine⟨Vj e.nt.now,d.one rfl,Hh ?_⟩;refine⟨.string e.nt.person,d.one rfl,Hh ?_⟩;refine⟨.int .u64 e.sum,d.one rfl,Hh ?_⟩;refine(Qcj e.nt.off ai (o.ext f) V Om).mono ?_;rintro _ aj ⟨rfl,k⟩;refine⟨k,Hh ?_⟩;refine(Qcj e.nt.now aj (o.ext (f.trans k)) W Om).mono ?_;rintro _ w5 ⟨rfl,z⟩;refine⟨z,Hh ?_⟩;refine(Qrq e.sum P.1 P.2 w5 (o.ext ((f.trans k).trans z))).mono ?_;rintro _ ar ⟨rfl,S⟩;refine⟨S,Hh ?_⟩;intro C l u;have E:At l C 9 ((Qk9 e).map Value.string):=u.At;have ag:=((f.trans k).trans (z.trans S)).trans u.ext;clear u;refine Hh ?_;have ab:∀(j:Nat) x,(Qk9 e)[j]?=some x->l.cell? ⟨C,0+j,none⟩=some (.string x):=(by intro j x ac;rw[Za6,E.cell j,Zaf,ac];rfl);refine(Qae Qt9 (Tryz.strings_Join C 0 5 (Qk9 e) ⟨#[32]⟩ l ab E.lt (by simp[Qk9]) (by simp[Qk9]) ?_) (R:=fun r w'=>r=.string (bytesOf (Qck e))/\Ext l w') ?_).mono ?_
 .rw[Qsl];show (Qck e).length<=_
  omega
 .intro w' af;exact⟨by rw[Qsl];rfl,af⟩
 .rintro _ au ⟨rfl,ah⟩;refine Gg ?_;exact⟨rfl,ag.trans ah⟩
theorem Xby{E:List En}{k}(h:k<E.length):Qb1 (E.take (k+1))=Qb1 (E.take k)++Qck E[k]++[10]:=by
 unfold Qb1;rw[Za h,Zbn];simp
theorem Q3g(E k):(Qb1 (E.take k)).length<=(Qb1 E).length:=by
 conv=>rhs;rw[<- Zag k E]
 unfold Qb1;rw[Zbn,Zo];omega
set_option maxHeartbeats 2000000 in
theorem Qzg{lo w p seed E A c X}(h:Qnh lo w p seed E A c X)(H:Gl w)(a5:X.length<100000)(ai:∀e∈E,ntB e.nt=true)(ak:∀e∈E,0<=e.sum/\e.sum<18446744073709551616)(M:0<=seed/\seed<18446744073709551616)(a8:(Q7u seed E).length<=1000000) :
 Cal Tryz.prog 14 [Pj p] w fun r w'=>∃B d,r=.slice B (Q7u seed E).length d/\SlB w' B (Q7u seed E)/\Ext w w':=by
 have a0:=h.ents.1;have a4:(Qcv seed).length<=26:=(by have:=Qf4 seed.toNat Om;unfold Qd4 at this;rw[Qag]at this;unfold Qcv;simp;omega);have a3:(Q7u seed E).length=(Qcv seed).length+1+(Qb1 E).length:=by rw[Q2j];simp;omega
 refine Fi Tryz.func14 rfl _ rfl rfl (Hh ?_);refine⟨.int .u64 seed,h.head.one rfl,Gg ?_⟩;refine(Qq9 seed M.1 M.2 w H).mono ?_;rintro _ bd ⟨rfl,O⟩;refine Gg ?_;refine Xej (base:=w.heap.size) (bytesOf (Qcv seed)) O.size (by rw[Qag];simp only[maxLen];omega) fun W aw bg v an=>?_
 rw[show (bytesOf (Qcv seed)).data.toList=Qcv seed from rfl]at v;rw[Qag];refine Hh ?_;intro a9 bh u;refine Hh ?_;have P:=O.trans (an.trans u.ext);refine Qoa (base:=w.heap.size) 10 (v.ext u.ext) P.size u.At.one0 Om fun Y ab au aj ag=>?_
 have R:Ext w au:=Qu P ag fun k b=>by
  cases f:W with
  |none=>rw[f]at b;simp at b
  |some a=>rw[f]at b;simp at b;have:=(v.block f).1;omega
 refine Gg ?_;refine⟨.slice A X.length c,(h.ext R).head.one rfl,Gg ?_⟩
 refine Qh Qb (fun(q:Nat×(Option Addr×Nat)) w'=>q.1<=X.length/\Ext w w'/\OwnB w.heap.size w' q.2.1 q.2.2 (Qcv seed++[10]++Qb1 (E.take q.1)))
  (fun|(k,(B,d))=>[(3,.slice B (Qcv seed++[10]++Qb1 (E.take k)).length d),(17,.slice A X.length c),(18,Vj X.length),(19,Vj (k:Nat))]) (fun q=>X.length-q.1) (0,(Y,ab)) ⟨Zt _,R,by simpa [Qb1] using aj⟩ ⟨by rw[show Qb1 (E.take 0)=[] from rfl,Z4];rfl,rfl,rfl,rfl,trivial⟩ ?_
 rintro ⟨k,⟨B,d⟩⟩ w5 ⟨b,i,o⟩;simp only at b o;have a7:=Q3g E k;refine Gg ?_;constructor
 .intro j;have j:k<X.length:=Su j;have l:k<E.length:=Om;obtain⟨a,ae,F⟩:=((h.ext i).row.sl Qfr).get j;have g:=(h.ext i).ents.2 k E[k] X[k] (Zb l) (Zb j);have hstep:=Xby l;have J:=ai E[k] (Zu l);have N:=ak E[k] (Zu l);have y:=Q3g E (k+1);rw[hstep]at y;generalize X[k]=r at F g;generalize E[k]=e at g hstep J N y;simp only[Zo,Zar]at y;have az:(Qcv seed++[10]++Qb1 (E.take k)).length<=30+(Qb1 (E.take k)).length:=by simp;omega
  refine Gg ?_;refine⟨a,⟨ae,Om,Om⟩,Gg ?_⟩;refine⟨erC r,⟨rfl,F⟩,Gg ?_⟩;intro aq bi n;refine Gg ?_;have ay:=n.block;refine Qc Qb (e:=ty45) rfl n.At rfl rfl rfl (by simp[Qg,erC,Value.oneCell']) fun C s L=>?_
  have s:At C aq 45 (erC r):=s;have z:Ext w5 C:=L.ext n.ext Om;clear L n;refine Gg ?_;refine⟨erC r,⟨rfl,s.all⟩,Gg ?_⟩;refine(Qw0 r e C (H.ext (i.trans z)) g.off g.now g.person g.sum g.len g.cap (g.its.ext z) g.spot J N Om).mono ?_;rintro _ bj ⟨rfl,ao⟩;have S:=z.trans ao;have U:=i.trans S;refine Gg ?_;refine Q39 (base:=w.heap.size) (bytesOf (Qck e)) (o.ext S) U.size (by rw[Qag];omega) fun Z ax av x ah=>?_
  rw[show (bytesOf (Qck e)).data.toList=Qck e from rfl]at x⊢
  have V:Ext w av:=Qu U ah fun k b=>by
   cases f:B with
   |none=>rw[f]at b;simp at b
   |some a=>rw[f]at b;simp at b;have:=(o.block f).1;omega
  refine Gg ?_;intro bb be m;refine Gg ?_;refine Qoa (base:=w.heap.size) 10 (x.ext m.ext) (V.trans m.ext).size m.At.one0 (by rw[Zo];omega) fun A11 aa ar K af=>?_
  have al:Ext w ar:=Qu (V.trans m.ext) af fun k b=>by
   cases f:Z with
   |none=>rw[f]at b;simp at b
   |some a=>rw[f]at b;simp at b;have:=(x.block f).1;omega
  have ac:Qcv seed++[10]++Qb1 (E.take (k+1))=Qcv seed++[10]++Qb1 (E.take k)++Qck e++[10]:=by rw[hstep];simp
  rw[<- ac]at K⊢;refine Gg ?_;refine⟨_,wrap_succ Om,Gg ?_⟩;exact⟨(k+1,(A11,aa)),Sj,⟨Sj,al,K⟩,Rr⟩
 intro I;have I:X.length<=k:=Su I;have D:Qcv seed++[10]++Qb1 (E.take k)=Q7u seed E:=(by rw[Zd Om,Q2j];simp);refine Gg ?_;exact⟨B,d,by rw[D],by rw[<- D];exact o.sl,i⟩
theorem Qp7(c)(s:Bj)(w)(h:Gl w)(j:s.size<4000000000) :
 Cal Tryz.prog 84 [.string s,.string ⟨#[c]⟩] w fun r w'=>∃A f,r=.slice A (Qab c s).length f/\(Qab c s).length<=f/\(∀a,A=some a->a.spot=none/\a.block=w.heap.size)/\SlT w' A (Qab c s)/\Ext w w'/\w'.heap.size=w.heap.size+1:=by
 have k:(⟨#[c]⟩:Bj).size=1:=rfl;obtain⟨m,i⟩:=h.maxLen;refine Qae Qua (Tryz.strings_Split s ⟨#[c]⟩ m w Om i Om) ?_;rintro w' rfl;have d:=Lib.splitB_all ⟨#[c]⟩ Om 0 _ s rfl;have b:=Qx2 c s.size s (Zf _);rw[b]at d;have e:New w (w.alloc (.cells ((Qab c s).flatMap Qac).toArray 9)) w.heap.size (.cells ((Qab c s).flatMap Qac).toArray 9):=⟨rfl,rfl⟩;refine⟨some ⟨w.heap.size,0,none⟩,Lib.countB s ⟨#[c]⟩+1,by rw[d],by rw[d];exact Zf _,fun a g=>?_,?_,?_,?_⟩
 .obtain rfl:(⟨w.heap.size,0,none⟩:Addr)=a:=Su g;exact⟨rfl,rfl⟩
 .rw[b,<- Qgr];exact Qai Qv e
 .rw[b,<- Qgr];exact e.ext
 .rw[b,<- Qgr];exact e.size
theorem Qwb(a b w)(d:Gl w)(c:∀x∈a,x≠10)(f:(a++10::b).length<4000000000) :
 Cal Tryz.prog 42 [.string (bytesOf (a++10::b)),.string ⟨#[10]⟩] w fun r w'=>r=.tuple #[.string (bytesOf a),.string (bytesOf b),.bool true]/\Ext w w':=by
 obtain⟨m,e⟩:=d.maxLen;refine Qae Xhk (Tryz.strings_Cut (bytesOf (a++10::b)) ⟨#[10]⟩ m w (by rw[Qag];omega) e) ?_;rintro w' ⟨n,rfl⟩;refine⟨?_,Qhn w n⟩;show Value.tuple #[.string ⟨(Lib.cut (a++10::b) [10]).1.toArray⟩,.string ⟨(Lib.cut (a++10::b) [10]).2.1.toArray⟩,.bool (Lib.cut (a++10::b) [10]).2.2]=_
 rw[Xk5 c];rfl
theorem Q9a:∀(k n:Nat),n<10^(k+1)->Lib.nDigits n<=k+1
 |0,n,h=>by rw[Lib.nDigits_small (Su h)];exact Zf _
 |k+1,n,h=>by
  by_cases a:n<10
  .rw[Lib.nDigits_small a];omega
  .rw[Nat.pow_succ]at h;rw[Lib.nDigits_big a];have:=Q9a k (n/10) Om;omega
theorem Qlj(n)(h:n<=1099511627776):(Qd4 n).size<=13:=by
 unfold Qd4;rw[Qag,Lib.decDigits_length];exact Q9a 12 n (Zbw h (by decide))
theorem Qrd(n)(b:n<=1099511627776)(w) :
 Cal Tryz.prog 85 [.string (Qd4 n)] w fun r w'=>r=.tuple #[Vj (n:Nat),.nilIface]/\Ext w w':=by
 have c:=Qlj n b;refine Qae ⟨_,Tryz.func85,rfl,rfl⟩ (Tryz.strconv_Atoi (Qd4 n) n Om (Xee n) w) ?_;rintro w' ⟨t,rfl⟩;exact⟨rfl,rfl,rfl,rfl,by rw[Lib.bytesWorld_size];omega,fun k a=>Lib.bytesWorld_at_old w _ _ k a⟩
theorem Xlq:Qql Tryz.prog 80:=⟨_,Tryz.func80,rfl,rfl⟩
theorem Xbp(n)(a:n<18446744073709551616)(w) :
 Cal Tryz.prog 37 [.string (Qd4 n),Vj 10,Vj 64] w fun r w'=>r=.tuple #[.int .u64 (n:Nat),.nilIface]/\Ext w w':=by
 have c:=Qf4 n a;refine Fi Tryz.func37 rfl _ rfl rfl (Hh ?_);refine(Qae Xlq (Tryz.internal_strconv_ParseUint_10_at64 (Qd4 n) Om w) (R:=fun r w'=>r=.tuple #[.int .u64 (n:Nat),.nilIface]/\Ext w w') ?_).mono ?_
 .rintro w' h;refine⟨by rw[show (Qd4 n).data.toList=Lib.decDigits n from rfl,Xlu n a];rfl,?_⟩;rcases h with rfl|rfl
  .exact Ext.refl _
  .exact⟨rfl,rfl,rfl,by rw[Lib.bytesWorld_size];omega,fun k b=>Lib.bytesWorld_at_old w _ _ k b⟩
 .rintro _ d ⟨rfl,hx⟩;refine Gg ?_;refine⟨true,fun w'=>⟨by kernel_rfl,by kernel_rfl⟩,Gg ?_⟩;constructor
  .intro q;simp at q
  intro _;refine Gg ?_;exact⟨rfl,hx⟩
theorem Q7e(seed w) :
 Cal Tryz.prog 38 [.string (bytesOf (Qcv seed)),.string ⟨#[97,117,100,105,116,32]⟩] w fun r w'=>r=.string (Qd4 seed.toNat)/\w'=w:=by
 refine Qae ⟨_,Tryz.func38,rfl,rfl⟩ (Tryz.strings_TrimPrefix (bytesOf (Qcv seed)) ⟨#[97,117,100,105,116,32]⟩ w) ?_;rintro w' rfl;refine⟨?_,rfl⟩;show Value.string ⟨(Lib.trimPrefix (Qcv seed) [97,117,100,105,116,32]).toArray⟩=_
 rw[Xdq];rfl
theorem Xex(l m A B c d w)(v:SlT w A l)(u:SlT w B m)(y:l.length<1000000000000) :
 Cal Tryz.prog 35 [.slice A l.length c,.slice B m.length d] w fun r w'=>r=.bool (decide (l=m))/\Ext w w':=by
 refine Fi Tryz.func35 rfl _ rfl rfl (Hh ?_);constructor
 .intro g;have g:l.length≠m.length:=by simp at g;omega
  refine Hh ?_;exact⟨by rw[decide_eq_false (fun e=>g (by rw[e]))],Ext.refl _⟩
 .intro g;have g:l.length=m.length:=by simp at g;omega
  refine Hh ?_
  refine Qh Qb (fun(k:Nat) w'=>k<=l.length/\Ext w w'/\l.take k=m.take k)
   (fun k=>[(0,.slice A l.length c),(1,.slice B m.length d),(12,Vj l.length),(13,Vj (k:Nat))]) (fun k=>l.length-k) 0 ⟨Om,Ext.refl _,by simp⟩ Rr ?_
  rintro k z ⟨x,hx,i⟩;refine Hh ?_;constructor
  .intro h;have h:k<l.length:=Su h;have n:k<m.length:=Om;obtain⟨a,rfl,o⟩:=v.get h;obtain⟨b,rfl,s⟩:=u.get n;refine Gg ?_;refine Dr .same [0,1,2,3,4,5,6,7,8] [] (Hh ?_);refine⟨a,Ix,Hh ?_⟩;refine⟨.string l[k],Qp (hx.cells o),Hh ?_⟩;refine⟨b,Ix,Hh ?_⟩;refine⟨.string m[k],Qp (hx.cells s),Gg ?_⟩;constructor
   .intro f;have f:l[k]≠m[k]:=Su f;refine Gg ?_;refine⟨by rw[decide_eq_false (fun e=>f (by simp[e]))],hx.drew⟩
   .intro f;have f:l[k]=m[k]:=Su f;refine Gg ?_;refine⟨_,wrap_succ Om,Gg ?_⟩;refine⟨k+1,Om,⟨Om,hx.drew,?_⟩,Rr⟩;rw[Za h,Za n,i,f]
  .intro j;have j:l.length<=k:=Su j;refine Gg ?_;rw[Zd j,Zd Om]at i;exact⟨by rw[decide_eq_true i],hx⟩
theorem Qyj(s:Bj)(w):Cal Tryz.prog 56 [.string s] w fun r w'=>r=.bool (!Qo s)/\w'=w:=by
 refine Fi Tryz.func56 rfl _ rfl rfl (Hh ?_);refine(Qbd s w).mono ?_;rintro _ _ ⟨rfl,rfl⟩;refine Hh ?_;exact⟨rfl,rfl⟩
theorem Q93(row B f w)(m:SlT w B row)(u:row.length<1000000) :
 Cal Tryz.prog 108 [.slice B row.length f,.func (.func 56) #[] #[]] w fun r w'=>(∃i:Int,r=Vj i /\ -1<=i/\(0<=i↔row.any (fun t=>!Qo t)=true))/\w'=w:=by
 refine Fi Tryz.func108 rfl _ rfl rfl (Hh ?_)
 refine Qh Qb (fun(k:Nat) w'=>k<=row.length/\(row.take k).any (fun t=>!Qo t)=false/\w'=w)
  (fun k=>[(0,.slice B row.length f),(1,.func (.func 56) #[] #[]),(7,Vj row.length),(8,Vj (k:Nat))]) (fun k=>row.length-k) 0 ⟨Zt _,rfl,rfl⟩ Rr ?_
 rintro k o ⟨s,d,n⟩;subst n;refine Hh ?_;constructor
 .intro b;have b:k<row.length:=Su b;obtain⟨a2,j,g⟩:=m.get b;subst j;have e:(row.take (k+1)).any (fun t=>!Qo t)=!Qo row[k]:=by rw[Za b,List.any_append,d];simp
  have h:row[k]∈row:=Zu b;generalize row[k]=y at g e h;refine Hh ?_;refine⟨a2,Ix,Hh ?_⟩;refine⟨.string y,Qp g,Hh ?_⟩;refine(Qyj y o).mono ?_;rintro _ _ ⟨rfl,rfl⟩;generalize l:(!Qo y)=q at e⊢;refine Hh ?_;constructor
  .intro a;have a:q=true:=a;refine Hh ?_;refine⟨⟨k,rfl,Om,?_⟩,rfl⟩;simp only[Int.natCast_nonneg,true_iff,Zb7];exact⟨y,h,by rw[l,a]⟩
  .intro a;have a:q=false:=a;refine Hh ?_;refine⟨_,wrap_succ Om,Hh ?_⟩;exact⟨k+1,Om,⟨Om,by rw[e,a],rfl⟩,Rr⟩
 .intro c;have c:row.length<=k:=Su c;rw[Zd c]at d;refine Hh ?_;exact⟨⟨-1,rfl,Om,by rw[d];simp⟩,rfl⟩
theorem Q9v(row B b w)(d:SlT w B row)(f:row.length<1000000) :
 Cal Tryz.prog 57 [.slice B row.length b,.func (.func 56) #[] #[]] w fun r w'=>r=.bool (!row.all Qo)/\w'=w:=by
 refine Fi Tryz.func57 rfl _ rfl rfl (Hh ?_);refine(Q93 row B b w d f).mono ?_;rintro _ _ ⟨⟨i,rfl,g,c⟩,rfl⟩;refine Hh ?_;refine⟨?_,rfl⟩;have e:(!row.all Qo)=row.any fun t=>!Qo t:=by rw[List.not_all_eq_any_not]
 rw[e]
 cases a:row.any fun t=>!Qo t with
 |true=>rw[decide_eq_true (c.2 a)]
 |false=>rw[decide_eq_false (fun h=>by rw[c.1 h]at a;cases a)]
theorem Qn8(r x w)(i:r.off=x.off)(b:r.now=x.now)(j:r.person=x.person)(k:r.n=x.items.length)(l:SlT w r.A x.items)(B:x.items.length<1000000) :
 Cal Tryz.prog 22 [.agg (erC r).toArray] w fun v w'=>v=.bool (ntB x)/\Ext w w':=by
 obtain⟨off,now,person,A,n,c,sum⟩:=r;simp only at i b j k l;subst i b j k;refine Fi Tryz.func22 rfl _ rfl rfl (Hh ?_);intro y u f;have a:At u y 45 (erC ⟨x.off,x.now,x.person,A,x.items.length,c,sum⟩):=f.At;have g:=f.ext;clear f;refine Gg ?_;refine⟨Vj x.off,a.one rfl,Gg ?_⟩;refine⟨Vj x.off,fun _=>a.one rfl,Gg ?_⟩;refine⟨Vj x.now,fun _=>a.one rfl,Gg ?_⟩;refine⟨Vj x.now,fun _=>a.one rfl,Gg ?_⟩;constructor
 .intro h;refine Gg ?_;refine⟨?_,g⟩;have h:¬(0<=x.off/\x.off<=1048576/\0<=x.now/\x.now<=1099511627776):=fun q=>(by simp at h;omega)
  have e:ntB x=false:=by
   unfold ntB
   by_cases m:0<=x.off
   .by_cases o:x.off<=1048576
    .by_cases s:0<=x.now
     .rw[decide_eq_false (show ¬x.now<=1099511627776 from fun F=>h ⟨m,o,s,F⟩)];simp
     .rw[decide_eq_false s];simp
    .rw[decide_eq_false o];simp
   .rw[decide_eq_false m];simp
  rw[e]
 intro h;have h:0<=x.off/\x.off<=1048576/\0<=x.now/\x.now<=1099511627776:=(by simp at h;omega);have C:ntB x=(Qo x.person&&decide (x.items.length<=1000)&&x.items.all Qo):=(by unfold ntB;rw[decide_eq_true h.1,decide_eq_true h.2.1,decide_eq_true h.2.2.1,decide_eq_true h.2.2.2];simp);clear h;refine Gg ?_;refine⟨.string x.person,a.one rfl,Gg ?_⟩;refine(Qbd x.person u).mono ?_;rintro _ d ⟨rfl,D⟩;subst D;refine Gg ?_;refine⟨.slice A x.items.length c,fun _=>a.one rfl,Gg ?_⟩;refine⟨.slice A x.items.length c,fun _=>a.one rfl,Gg ?_⟩;have z:Cal Tryz.prog 57 [.slice A x.items.length c,.func (.func 56) #[] #[]] d fun r w'=>r=.bool (!x.items.all Qo)/\Ext d w':=(Q9v x.items A c d (l.ext g) B).mono fun r w' h=>⟨h.1,by rw[h.2];exact Ext.refl _⟩
 refine⟨Unit,fun _=>(.bool (!x.items.all Qo)),fun _ w'=>Ext d w',(),fun I=>(z).mono fun r w' h=>⟨(),h.1,h.2⟩,?_⟩;intro _ H b
 have E:Ext d H:=by
  rcases b with⟨_,h⟩|⟨_,h⟩
  .exact h
  .rw[h];exact Ext.refl _
 clear b;refine Hh ?_;refine⟨?_,g.trans E⟩;rw[C];cases Qo x.person<;>cases x.items.all Qo<;>by_cases q:x.items.length<=1000<;>simp[q]<;>omega
theorem Qvf(x A c w)(i:SlT w A x)(y:x.length<1000000) :
 Cal Tryz.prog 55 [.slice A x.length c] w fun r w'=>∃d f,r=.slice d x.length f/\Own Qac 1 9 w.heap.size w' d f x/\Ext w w':=by
 refine Fi Tryz.func55 rfl _ rfl rfl (Hh ?_);refine⟨_,X4 (e:=9) Kr A _ _ _ _,Hh ?_⟩;constructor
 .intro h;obtain rfl:A=none:=Su h
  have hx:x=[]:=by
   cases x with
   |nil=>rfl
   |cons e x=>obtain⟨a,n,_⟩:=i 0 e rfl;cases n
  subst hx;refine Hh ?_;exact⟨none,0,rfl,Own.nil,Ext.refl _⟩
 .intro h;refine Hh ?_;intro u z b;refine Hh ?_;have j:=Xp.made (base:=w.heap.size) b (Zf _);refine Qq Xp (l:= []) (news:=x) rfl j rfl (i.ext b.ext) (by simp;omega) b.ext.size fun k m B g o v=>?_
  have s:=Qu b.ext o (Xm j);rw[Zah]at g⊢;refine Hh ?_;exact⟨k,m,rfl,g,s⟩
theorem Qvl{α:Type}{enc sz f base w A c}{l:List α}(h:Own enc sz f base w A c l):∀a,A=some a->a.spot=none:=by
 intro a b;rcases h.2 with⟨e,_⟩|⟨g,cap,i,e,_⟩
 .injection e with d;rw[d]at b;cases b
 .injection e with d;rw[d]at b;obtain rfl:(⟨g,0,none⟩:Addr)=a:=Su b;rfl
theorem Qn9(r items w)(C:r.n=items.length)(E:SlT w r.A items)(J:items.length<1000000) :
 Cal Tryz.prog 21 [.agg (erC r).toArray] w fun v w'=>∃u z,v=.agg (erC ⟨r.off,r.now,r.person,u,items.length,z,r.sum⟩).toArray/\Own Qac 1 9 w.heap.size w' u z items/\Ext w w':=by
 obtain⟨off,now,person,A,n,c,sum⟩:=r;simp only at C E;subst C;refine Fi Tryz.func21 rfl _ rfl rfl (Hh ?_);intro x P g;refine Gg ?_;have f:At P x 45 (erC ⟨off,now,person,A,items.length,c,sum⟩):=g.At;have M:=g.ext;have R:=g.block;intro y F h;refine Gg ?_;have B:At F y 45 (erC ⟨0,0,⟨#[]⟩,none,0,0,0⟩):=h.At;have o:=M.trans h.ext;have S:=h.block;have U:=g.size;replace f:=f.ext h.ext;clear g h;refine⟨.slice A items.length c,f.one rfl,Gg ?_⟩;refine(Qvf items A c F (E.ext o) J).mono ?_;rintro _ V ⟨b,d,rfl,l,s⟩;refine Gg ?_;have W:=o.size;refine Qc Qb (e:=ty42) (off:=3) rfl (f.ext s) rfl rfl rfl Oj fun H i m=>?_
 have i:At H x 45 (erC ⟨off,now,person,b,items.length,d,sum⟩):=i;have N:Ext w H:=m.ext (o.trans s) Om;have I:=m.at_ (B.ext s) Om;have K:=l.keep fun a k=>m.block a.block (by have:=l.block k;have:=f.lt;omega)
 refine Gg ?_;refine⟨erC ⟨off,now,person,b,items.length,d,sum⟩,⟨rfl,i.all⟩,Gg ?_⟩;refine Qc Qb (e:=ty45) rfl I rfl rfl rfl (by simp[Qg,erC,Value.oneCell']) fun w5 j D=>?_
 have j:At w5 y 45 (erC ⟨off,now,person,b,items.length,d,sum⟩):=j;have O:Ext w w5:=D.ext N Om;have L:=K.keep fun a k=>D.block a.block (by have:=l.block k;have:=B.lt;omega)
 refine Gg ?_;refine⟨erC ⟨off,now,person,b,items.length,d,sum⟩,⟨rfl,j.all⟩,Gg ?_⟩;exact⟨b,d,rfl,L.base Om,O⟩
theorem Qow(base b A c W B z m w)(h:At w b 42 [.slice A W.length c])(N:base<=b)(H:Own Qac 1 9 base w A c W)(i:∀a,A=some a->a.block≠b)(I:SlT w B m)(O:W.length+m.length<1000000)(J:base<=w.heap.size) :
 Cal Tryz.prog 58 [.slice B m.length z,Pj b] w fun r w'=>r=.tuple #[]/\(∃f n,At w' b 42 [.slice f (W++m).length n]/\Own Qac 1 9 base w' f n (W++m)/\∀a,f=some a->a.block≠b)/\Mod (ChN A b) w w':=by
 refine Fi Tryz.func58 rfl _ rfl rfl (Hh ?_);refine⟨.slice A W.length c,h.one0,Hh ?_⟩;refine Qq Xp (l:=W) (news:=m) rfl H rfl I Om J fun j y L v o D=>?_
 have K:=h.lt
 have E:At L b 42 [.slice A W.length c]:=(o.block b K fun q=>by
  cases d:A with
  |none=>rw[d]at q;simp at q
  |some a=>rw[d]at q;simp at q;exact i a d q.symm).trans h
 have s:∀a,j=some a->a.block≠b:=fun a g=>by
  subst g;rcases D with q|q|q
  .exact i a q.symm
  .cases d:A with
   |none=>rw[d]at q;simp at q
   |some x=>rw[d]at q;simp at q;rw[q];exact i x d
  .simp at q;omega
 generalize W++m=M at v⊢;refine Hh ?_;refine Qc Qb (e:=ty42) rfl E rfl rfl rfl Oj fun P C u=>?_
 refine Hh ?_;exact⟨rfl,⟨j,y,C,v.keep fun a g=>u.block _ (s a g),s⟩,(Xn o fun k F=>.inr F).trans (Qj u (.inl rfl))⟩
set_option maxHeartbeats 1000000 in
theorem Qod(ahead r x w)(M:Gl w)(I:r.off=x.off)(J:r.now=x.now)(K:r.person=x.person)(L:r.n=x.items.length)(u:SlT w r.A x.items)(d:ntB x=true) :
 Cal Tryz.prog 23 [.int .u64 ahead,.agg (erC r).toArray] w fun v w'=>v=.int .u64 (sumF ahead x)/\Ext w w':=by
 obtain⟨off,now,person,A,n,c,sum⟩:=r;simp only at I J K L u;subst I J K L;have ai:0<=x.off/\x.off<=1048576/\0<=x.now/\x.now<=1099511627776/\Qo x.person=true/\x.items.length<=1000/\∀ao∈x.items,Qo ao=true:=(by unfold ntB at d;simp only[Zk,decide_eq_true_eq,Zaa]at d;exact⟨d.1.1.1.1.1.1,d.1.1.1.1.1.2,d.1.1.1.1.2,d.1.1.1.2,d.1.1.2,d.1.2,d.2⟩);obtain⟨W,ax,Y,ay,Z,az,aa⟩:=ai;refine Fi Tryz.func23 rfl _ rfl rfl (Hh ?_);intro aq au m;refine Gg ?_;have b:At au aq 45 (erC ⟨x.off,x.now,x.person,A,x.items.length,c,sum⟩):=m.At;have a0:=m.block;have bb:=m.size;intro F g i;refine Gg ?_;have e:At g F 42 [.slice none ([]:List Bj).length 0]:=i.At;have a3:=i.block;have bd:=i.size;have f:=m.ext.trans i.ext;replace b:=b.ext i.ext;clear m i;refine Dr .ext [0,1,2,4,5,7,8,3,6,9] [10] (Hh ?_);have z:Ext g g.drew:=(Ext.refl g).drew;replace b:=b.ext z;replace e:=e.ext z;replace f:=f.trans z;have ar:g.drew.heap.size=g.heap.size:=rfl;generalize g.drew=av at b e f ar⊢;clear z;refine⟨Vj x.off,b.one rfl,Hh ?_⟩;refine⟨Vj x.now,b.one rfl,Hh ?_⟩;refine⟨.string x.person,b.one rfl,Hh ?_⟩;refine(Qcj x.off av (M.ext f) W Om).mono ?_;rintro _ aw ⟨rfl,y⟩;refine⟨y,Hh ?_⟩;refine(Qcj x.now aw (M.ext (f.trans y)) Y Om).mono ?_;rintro _ w5 ⟨rfl,D⟩;refine⟨D,Hh ?_⟩;intro O P j;have a4:=j.block;refine⟨j.ext,Hh ?_⟩;have l:=(y.trans D).trans j.ext;have bg:=l.size;have bh:=j.size;have be:=(y.trans D).size;replace b:=b.ext l;replace e:=e.ext l;have N:SlT P (some ⟨O,0,none⟩) [Qd4 x.off.toNat,Qd4 x.now.toNat,x.person]:=Qai (enc:=Qac) Qv j;refine(Qow w.heap.size F none 0 [] (some ⟨O,0,none⟩) 3 [Qd4 x.off.toNat,Qd4 x.now.toNat,x.person] P e Om Own.nil (fun a ah=>by cases ah) N (by simp) (f.trans l).size).mono ?_;rintro _ R ⟨rfl,⟨U,ab,H,C,aj⟩,o⟩
 have E:Ext w R:=Qcu (f.trans l) (fun k B=>by
  rcases B with q|q
  .omega
  .simp at q) o
 have ae:=b.mod o fun q=>by
  rcases q with q|q
  .omega
  .simp at q
 rw[Zah]at H C;have bi:=o.size;clear b e o l j N;refine Gg ?_;refine⟨.slice A x.items.length c,ae.one rfl,Gg ?_⟩;refine(Qow w.heap.size F U ab _ A c x.items R H Om C aj (u.ext E) (by simp;omega) E.size).mono ?_;rintro _ S ⟨rfl,⟨V,ac,af,ak,a8⟩,ag⟩
 have an:Ext w S:=Qcu E (fun k B=>by
  rcases B with q|q
  .omega
  .exact Xm C k q) ag
 refine Gg ?_;refine⟨_,af.one0,Gg ?_⟩;have a5:=Qf3 x.off.toNat Om;have a7:=Qf3 x.now.toNat Om;have a9:=Qcg Z;refine(Qdv ahead _ V ac S (ak.sl Qv) (by simp;omega) fun s u=>?_).mono ?_
 .rcases Zj.1 u with h|h
  .simp only[Zr,Zcl,or_false]at h;rcases h with rfl|rfl|rfl<;>omega
  .have:=Qcg (aa s h);omega
 .rintro _ bj ⟨rfl,al⟩;subst al;refine Gg ?_;exact⟨rfl,an⟩
theorem Qlg(seed w):Cal Tryz.prog 6 [.int .u64 seed] w fun r w'=>∃p,r=Pj p/\Qnh w.heap.size w' p seed [] none 0 []/\Ext w w'/\p=w.heap.size:=by
 refine Fi Tryz.func6 rfl _ rfl rfl (Hh ?_);intro b e c;refine Gg ?_;exact⟨b,rfl,⟨c.At,Own.nil,ErL.nil _ _ _,by rw[c.block];exact Zf _,fun a d=>by cases d⟩,c.ext,c.block⟩
theorem Xfd{a E e}(h:E[E.length-1]?=some e):Qq0 a E=e.sum:=by
 unfold Qq0;rw[List.getLast?_eq_getElem?,h]
theorem Qn5{lo w p seed E A c X}(h:Qnh lo w p seed E A c X)(m:X.length<1000000) :
 Cal Tryz.prog 24 [Pj p] w fun r w'=>r=.int .u64 (Qq0 seed E)/\w'=w:=by
 have i:=h.ents.1;refine Fi Tryz.func24 rfl _ rfl rfl (Hh ?_);refine⟨.slice A X.length c,h.head.one rfl,Gg ?_⟩;constructor
 .intro b;have b:0<X.length:=Su b;obtain⟨r,f⟩:∃r,X[X.length-1]?=some r:=⟨_,Zb Om⟩;obtain⟨e,d⟩:∃e,E[X.length-1]?=some e:=⟨_,Zb Om⟩;obtain⟨a,j,k⟩:=(h.row.sl Qfr) _ r f;have l:=(h.ents.2 _ e r d f).sum;refine Gg ?_;refine⟨.slice A X.length c,h.head.one rfl,Gg ?_⟩;refine⟨((X.length-1:Nat):Int),wrap_eq Om ⟨Om,Om⟩,Gg ?_⟩;refine⟨a,⟨j,Om,Om⟩,Gg ?_⟩;refine⟨.int .u64 r.sum,k 4 _ rfl,Gg ?_⟩;refine⟨?_,rfl⟩;rw[i]at d;rw[Xfd d,l]
 .intro b;have b:X.length=0:=(by have:¬0<X.length:=Su b;omega);have g:E=[]:=Zan Om;subst g;refine Gg ?_;refine⟨.int .u64 seed,h.head.one rfl,Gg ?_⟩;exact⟨rfl,rfl⟩
theorem Q1u{e}(c:ntB e.nt=true):Qab 32 (bytesOf (Qck e))=Qk9 e:=by
 obtain⟨_,_,_,_,a,_,b⟩:=Qgu c;unfold Qab;rw[show (bytesOf (Qck e)).data.toList=Qck e from rfl,Q5s a b (by decide)];rfl
theorem Xje{l}(h:∀x∈l,Qo x=true)(e:l≠[]):bytesOf (Qqe l)≠⟨#[46]⟩:=by
 intro g;have a:Qqe l=[46]:=by simpa [bytesOf] using congrArg (fun b:Bj=>b.data.toList) g
 unfold Qqe at a;rw[if_neg e]at a
 have f:=Qzy (c:=46) (d:=44) (by decide) (l:=l.map (·.data.toList)) (fun y j u i=>by
  obtain⟨x,hx,rfl⟩:=Zh.1 j;exact Qtw (h x hx) (by decide) u i)
 exact f 46 (by rw[a];exact Zl.2 rfl) rfl
set_option maxHeartbeats 4000000 in
theorem Qyw(e w)(aq:Gl w)(Z:ntB e.nt=true)(bo:0<=e.sum/\e.sum<18446744073709551616)(cv:(Qck e).length<=1000000) :
 Cal Tryz.prog 41 [.string (bytesOf (Qck e))] w fun v w'=>(∃r,v=.tuple #[.agg (erC r).toArray,.bool true]/\Q7p w.heap.size w' (fun _=>False) e r)/\Ext w w':=by
 obtain⟨b0,b1,b2,b3,b4,b5,b6⟩:=Qgu Z;have cd:=Zdd b0;have cc:=Zdd b2;have es:=Zdd bo.1;refine Fi Tryz.func41 rfl _ rfl rfl (Hh ?_);intro s bx F;refine Gg ?_;have N:At bx s 45 (erC ⟨0,0,⟨#[]⟩,none,0,0,0⟩):=F.At;have c0:=F.block;have c8:=F.size;have bp:=F.ext;clear F;refine(Qp7 32 (bytesOf (Qck e)) bx (aq.ext bp) (by rw[Qag];omega)).mono ?_;rintro _ f ⟨A,c,rfl,cg,c3,ai,br,dh⟩;rw[Q1u Z]at cg ai⊢;obtain⟨a,rfl,_⟩:=ai 0 _ rfl;have n:∀(ak:Nat) x,(Qk9 e)[ak]?=some x->Xq f (a.add (ak*1)) (Qac x):=fun ak x cm=>(by obtain⟨cz,cj,ck⟩:=ai ak x cm;cases cj;exact ck)
 have cn:(Qk9 e).length=5:=rfl;rw[cn];have av:=bp.trans br;replace N:=N.ext br;refine Gg ?_;constructor
 .intro q;simp at q
 intro _;refine Gg ?_;refine⟨a,Ix,Gg ?_⟩;refine⟨.string e.nt.person,Qp (n 2 e.nt.person rfl),Gg ?_⟩;intro i dv H;refine Gg ?_;have c1:=H.block;have di:=H.size;refine Qc Qb (e:=ty45) rfl H.At rfl rfl rfl (by simp[Qg,erC,Value.oneCell']) fun ca u au=>?_
 have u:At ca i 45 (erC ⟨0,0,e.nt.person,none,0,0,0⟩):=u;have bv:Ext f ca:=au.ext H.ext Om;have dj:=au.size;clear au H;refine Gg ?_;intro p6 w5 y;refine Gg ?_;have c2:=y.block;have dk:=y.size;have bb:At w5 p6 177 [.nilIface,.nilIface,.nilIface]:=y.At;replace u:=u.ext y.ext;have ay:=bv.trans y.ext;clear bv y;refine⟨a,Ix,Gg ?_⟩;refine⟨.string (Qd4 e.nt.off.toNat),Qp (ay.cells (n 0 _ rfl)),Gg ?_⟩;refine(Qrd e.nt.off.toNat Om w5).mono ?_;rintro _ dw ⟨rfl,K⟩;refine Gg ?_;rw[cd];refine Qc Qb (e:=ty3) (off:=0) rfl (u.ext K) rfl rfl rfl Oj fun cb U ag=>?_
 have U:At cb i 45 (erC ⟨e.nt.off,0,e.nt.person,none,0,0,0⟩):=U;have bg:=ag.at_ (bb.ext K) Om;have bw:Ext f cb:=ag.ext (ay.trans K) Om;have dm:=K.size;have dp:=ag.size;clear u bb ay K ag;refine Gg ?_;refine⟨⟨Om,Om⟩,Gg ?_⟩;refine Qc Qb (e:=ty111) (off:=0) rfl bg rfl rfl rfl Oj fun a7 Y ah=>?_
 have Y:At a7 p6 177 [.nilIface,.nilIface,.nilIface]:=Y;have a9:=ah.at_ U Om;have az:Ext f a7:=ah.ext bw Om;have dq:=ah.size;clear bg U bw ah;refine Gg ?_;refine⟨a,Ix,Gg ?_⟩;refine⟨.string (Qd4 e.nt.now.toNat),Qp (az.cells (n 1 _ rfl)),Gg ?_⟩;refine(Qrd e.nt.now.toNat Om a7).mono ?_;rintro _ dx ⟨rfl,L⟩;refine Gg ?_;rw[cc];refine Qc Qb (e:=ty3) (off:=1) rfl (a9.ext L) rfl rfl rfl Oj fun bz P aa=>?_
 have P:At bz i 45 (erC ⟨e.nt.off,e.nt.now,e.nt.person,none,0,0,0⟩):=P;have bd:=aa.at_ (Y.ext L) Om;have bt:Ext f bz:=aa.ext (az.trans L) Om;have dr:=L.size;have c9:=aa.size;clear a9 Y az L aa;refine Gg ?_;refine⟨⟨Om,Om⟩,Gg ?_⟩;refine Qc Qb (e:=ty111) (off:=1) rfl bd rfl rfl rfl Oj fun a3 V ab=>?_
 have V:At a3 p6 177 [.nilIface,.nilIface,.nilIface]:=V;have a8:=ab.at_ P Om;have aw:Ext f a3:=ab.ext bt Om;have da:=ab.size;clear bd P bt ab;refine Gg ?_;refine⟨a,Ix,Gg ?_⟩;refine⟨.string (Qd4 e.sum.toNat),Qp (aw.cells (n 4 _ rfl)),Gg ?_⟩;refine(Xbp e.sum.toNat Om a3).mono ?_;rintro _ dt ⟨rfl,I⟩;refine Gg ?_;rw[es];refine Qc Qb (e:=ty23) (off:=4) rfl (a8.ext I) rfl rfl rfl Oj fun b7 R ac=>?_
 have R:At b7 i 45 (erC ⟨e.nt.off,e.nt.now,e.nt.person,none,0,0,e.sum⟩):=R;have be:=ac.at_ (V.ext I) Om;have bu:Ext f b7:=ac.ext (aw.trans I) Om;have db:=I.size;have dc:=ac.size;clear a8 V aw I ac;refine Gg ?_;refine⟨⟨Om,Om⟩,Gg ?_⟩;refine Qc Qb (e:=ty111) (off:=2) rfl be rfl rfl rfl Oj fun a4 W ae=>?_
 have W:At a4 p6 177 [.nilIface,.nilIface,.nilIface]:=W;have S:=ae.at_ R Om;have l:Ext f a4:=ae.ext bu Om;have dd:=ae.size;clear be R bu ae;refine Gg ?_;refine⟨[.nilIface,.nilIface,.nilIface],⟨rfl,W.all⟩,Gg ?_⟩;have cf:=N.ext l
 refine Qh Qb (fun(k:Nat) w'=>k<=3/\w'=a4)
  (fun k=>[(0,.string (bytesOf (Qck e))),(2,Pj s),(4,.slice (some a) 5 c),(5,Pj i),(46,.agg #[.nilIface,.nilIface,.nilIface]),(47,Vj (k:Nat))]) (fun k=>3-k) 0 ⟨Om,rfl⟩ Rr ?_
 rintro k cw ⟨E,cq⟩;subst cq;refine Gg ?_;constructor
 .intro bk;have bk:k<3:=(by have:(k:Int)<3:=Su bk;omega);have cl:∀w':World,(Instr.index 177 (.agg #[.nilIface,.nilIface,.nilIface]) (Vj (k:Nat))).run Tryz.prog w'=.ok .nilIface w':=fun w'=>(by rcases (show k=0\/k=1\/k=2 by omega) with rfl|rfl|rfl<;>kernel_rfl)
  refine Gg ?_;refine⟨.nilIface,fun w' _=>cl w',Gg ?_⟩;refine⟨true,fun w'=>⟨by kernel_rfl,by kernel_rfl⟩,Gg ?_⟩;constructor
  .intro q;simp at q
  intro _;refine Gg ?_;refine⟨_,wrap_succ Om,Gg ?_⟩;exact⟨k+1,Om,⟨Om,rfl⟩,Rr⟩
 intro _;refine Hh ?_;clear W E;have c6:w.heap.size<=f.heap.size:=av.size;have c7:=S.lt;refine Xi Qb (ι:=Option Addr×Nat) (fun|(B,d)=>[(0,.string (bytesOf (Qck e))),(2,Pj s),(5,Pj i)]) (fun q w'=>Ext f w'/\At w' i 45 (erC ⟨e.nt.off,e.nt.now,e.nt.person,q.1,e.nt.items.length,q.2,e.sum⟩)/\Q7p w.heap.size w' (fun k=>k=s) e ⟨e.nt.off,e.nt.now,e.nt.person,q.1,e.nt.items.length,q.2,e.sum⟩) ?_ ?_
 .refine Gg ?_;refine⟨a,Ix,Gg ?_⟩;refine⟨.string (bytesOf (Qqe e.nt.items)),Qp (l.cells (n 3 _ rfl)),Gg ?_⟩;constructor
  .intro g;have g:e.nt.items≠[]:=fun q=>(by have:¬(bytesOf (Qqe e.nt.items)=⟨#[46]⟩):=Su g;rw[q]at this;exact this rfl)
   refine Gg ?_;refine⟨a,Ix,Gg ?_⟩;refine⟨.string (bytesOf (Qqe e.nt.items)),Qp (l.cells (n 3 _ rfl)),Gg ?_⟩;have c4:(Qqe e.nt.items).length<=1000000:=(by have bh:=Qtk e.nt.items b6;unfold Qqe;rw[if_neg g];unfold Xjf at bh;rw[show ∀a:List UInt8,(⟨a.toArray⟩:Bj).size=a.length from fun a=>by simp[ByteArray.size]]at bh;omega);refine(Qp7 44 (bytesOf (Qqe e.nt.items)) cw (aq.ext (av.trans l)) (by rw[Qag];omega)).mono ?_;rintro _ du ⟨B,d,rfl,bj,ao,bl,bq,de⟩;have cp:Qab 44 (bytesOf (Qqe e.nt.items))=e.nt.items:=(by unfold Qab;exact Qzx b6 g (by decide));rw[cp]at bj bl⊢;refine Gg ?_;refine Qc Qb (e:=ty42) (off:=3) rfl (S.ext bq) rfl rfl rfl Oj fun b8 an ar=>?_
   have an:At b8 i 45 (erC ⟨e.nt.off,e.nt.now,e.nt.person,B,e.nt.items.length,d,e.sum⟩):=an;have cr:Ext f b8:=ar.ext (l.trans bq) Om;have df:=ar.size;refine Gg ?_;refine⟨(B,d),⟨cr,an,rfl,rfl,rfl,rfl,rfl,bj,?_,fun b o=>(ao b o).1,fun _ b o=>?_⟩,Rr⟩
   .exact Xp.stay bl fun b o c5=>ar.block _ (by have:=(ao b o).2;omega)
   .have:=(ao b o).2;have:=l.size;exact⟨Om,Om,Om⟩
  .intro g
   have g:e.nt.items=[]:=by
    have:bytesOf (Qqe e.nt.items)=⟨#[46]⟩:=Su g
    by_cases C:e.nt.items=[]
    .exact C
    .exact absurd this (Xje b6 C)
   refine Gg ?_;have C:e.nt.items.length=0:=by rw[g];rfl
   refine⟨(none,0),⟨l,by rw[C];exact S,rfl,rfl,rfl,rfl,rfl,by rw[C];exact Zf _,Qh6 g,fun b o=>(by cases o),fun q=>absurd g q⟩,Rr⟩
 rintro ⟨B,d⟩ M ⟨ax,m,j⟩;simp only at m j;have O:=N.ext ax;have D:=av.trans ax;clear l S cf n ai;refine Gg ?_;have a0:¬i=s:=Om;refine Dr (.mods (fun k=>k=s)) [0,1,2,3,4,6,5,7,8,9,10] [] (Hh ?_);have z:Ext M M.drew:=(Ext.refl M).drew;replace m:=m.ext z;replace O:=O.ext z;replace D:=D.trans z;replace j:Q7p w.heap.size M.drew _ _ _:=j.keep z.size (fun k _ E _=>z.block k E) fun _ _ _ q=>q
 generalize M.drew=cx at m O D j⊢;clear z ax;have bm:=j.its;refine⟨erC ⟨e.nt.off,e.nt.now,e.nt.person,B,e.nt.items.length,d,e.sum⟩,⟨rfl,m.all,a0⟩,Hh ?_⟩;refine⟨erC ⟨e.nt.off,e.nt.now,e.nt.person,B,e.nt.items.length,d,e.sum⟩,⟨rfl,m.all,a0⟩,Hh ?_⟩;refine(Qn8 ⟨e.nt.off,e.nt.now,e.nt.person,B,e.nt.items.length,d,e.sum⟩ e.nt cx rfl rfl rfl rfl bm Om).mono ?_;rintro _ a5 ⟨rfl,J⟩;rw[Z];refine⟨Mod.of_ext J,Hh ?_⟩;refine⟨erC ⟨e.nt.off,e.nt.now,e.nt.person,B,e.nt.items.length,d,e.sum⟩,fun _=>⟨rfl,(m.ext J).all,a0⟩,Hh ?_⟩;refine⟨Unit,fun _=>.string (bytesOf (Qck e)),fun _ w'=>Ext a5 w',(),fun _=>(Qw0 ⟨e.nt.off,e.nt.now,e.nt.person,B,e.nt.items.length,d,e.sum⟩ e a5 (aq.ext (D.trans J)) rfl rfl rfl rfl rfl j.cap (bm.ext J) j.spot Z bo cv).mono fun r w' h=>⟨(),h.1,h.2⟩,?_⟩;intro _ cy bi
 have bs:Ext a5 cy:=by
  rcases bi with⟨_,h⟩|⟨_,h⟩
  .exact h
  .rw[h];exact Ext.refl _
 clear bi;refine⟨Mod.of_ext bs,Hh ?_⟩;have aj:=J.trans bs;refine Qc Qb (e:=ty45) rfl (O.ext aj) rfl rfl rfl (by simp[Qg,erC,Value.oneCell']) fun b9 al af=>?_
 have al:At b9 s 45 (erC ⟨e.nt.off,e.nt.now,e.nt.person,B,e.nt.items.length,d,e.sum⟩):=al;have cu:Ext w b9:=af.ext (D.trans aj) Om;refine⟨Qj af rfl,Gg ?_⟩;refine⟨_,⟨rfl,al.all⟩,Gg ?_⟩;refine⟨⟨⟨e.nt.off,e.nt.now,e.nt.person,B,e.nt.items.length,d,e.sum⟩,by rw[decide_eq_true (show bytesOf (Qck e)=bytesOf (Qck e) from rfl)];rfl,?_⟩,cu⟩;have dy:=aj.size;have dz:=af.size;exact j.keep Om (fun k _ E ch=>(af.block k ch).trans (aj.block k E)) fun _ _ _ _ q=>q
set_option maxHeartbeats 4000000 in
theorem Q1z{lo w p seed E A c X}(h:Qnh lo w p seed E A c X)(b6:Gl w)(b7:X.length<100000)(cm:lo<=w.heap.size)(x B a5)(b8:SlT w B x.items)(S:ntB x=true) :
 Cal Tryz.prog 9 [Pj p,Vj x.off,Vj x.now,.string x.person,.slice B x.items.length a5] w fun r w'=>(∃a4 bv bu,Qnh lo w' p seed (E++[⟨x,sumF (Qq0 seed E) x⟩]) a4 bv bu/\(∀a,a4=some a->A.map (·.block)=some a.block\/w.heap.size<=a.block))/\Mod (ChN A p) w w':=by
 have cl:x.items.length<=1000:=(by unfold ntB at S;simp only[Zk,decide_eq_true_eq]at S;exact S.1.2);have cp:=h.head.lt;have Z:∀a,A=some a->a.block<w.heap.size:=fun a d=>(h.row.block d).2
 refine Fi Tryz.func9 rfl _ rfl rfl (Hh ?_);intro aw ay U;refine Gg ?_;have a7:At ay aw 45 (erC ⟨0,0,⟨#[]⟩,none,0,0,0⟩):=U.At;have ch:=U.block;have bo:=U.ext;have cr:=U.size;clear U;refine(Qn9 ⟨x.off,x.now,x.person,B,x.items.length,a5,0⟩ x.items ay rfl (b8.ext bo) Om).mono ?_;rintro _ bt ⟨g,j,rfl,aq,ar⟩;have c2:=ar.size;refine Gg ?_;intro ax cx ae;refine Gg ?_;have cj:=ae.block;refine Qc Qb (e:=ty45) rfl ae.At rfl rfl rfl (by simp[Qg,erC,Value.oneCell']) fun ai R C=>?_
 have R:At ai ax 45 (erC ⟨x.off,x.now,x.person,g,x.items.length,j,0⟩):=R;have ag:Ext bt ai:=C.ext ae.ext Om;clear C ae;have c5:=ag.size;have bp:Ext w ai:=bo.trans (ar.trans ag);have C:=aq.ext ag;have K:∀a,g=some a->ay.heap.size<=a.block/\a.block<bt.heap.size:=fun a d=>aq.block d
 have a8:=(a7.ext ar).ext ag;clear a7 aq;refine Gg ?_;refine⟨erC ⟨x.off,x.now,x.person,g,x.items.length,j,0⟩,⟨rfl,R.all⟩,Gg ?_⟩;refine(Qn8 ⟨x.off,x.now,x.person,g,x.items.length,j,0⟩ x ai rfl rfl rfl rfl (C.sl Qv) Om).mono ?_;rintro _ w5 ⟨rfl,Y⟩;rw[S];refine Gg ?_;constructor
 .intro h;simp at h
 intro _;have F:=bp.trans Y;have I:=R.ext Y;have L:=C.ext Y;have O:=a8.ext Y;have J:=h.ext F;have c6:=Y.size;clear R C a8 bp;refine Gg ?_;refine Dr .ext [0,2,1] [3,4,5] (Hh ?_);have i:Ext w5 w5.drew:=(Ext.refl w5).drew;replace I:=I.ext i;replace L:=L.ext i;replace O:=O.ext i;replace J:=J.ext i;replace F:=F.trans i;have cb:w5.drew.heap.size=w5.heap.size:=rfl;generalize w5.drew=cy at I L O J F cb⊢;clear i;refine⟨erC ⟨x.off,x.now,x.person,g,x.items.length,j,0⟩,⟨rfl,I.all⟩,Hh ?_⟩;refine(Qn5 J Om).mono ?_;rintro _ cd ⟨rfl,ca⟩;subst ca;refine⟨Ext.refl _,Hh ?_⟩;refine(Qod (Qq0 seed E) ⟨x.off,x.now,x.person,g,x.items.length,j,0⟩ x cd (b6.ext F) rfl rfl rfl rfl (L.sl Qv) S).mono ?_;rintro _ cz ⟨rfl,H⟩;have ak:=I.ext H;have bi:=L.ext H;have a9:=O.ext H;have bz:=J.ext H;have bq:=F.trans H;have c7:=H.size;clear I L O J F;refine Hh ?_;refine Qc Qb (e:=ty23) (off:=4) rfl ak rfl rfl rfl Oj fun y o V=>?_
 have o:At y ax 45 (erC ⟨x.off,x.now,x.person,g,x.items.length,j,sumF (Qq0 seed E) x⟩):=o;have cn:=ak.lt;have v:Ext w y:=V.ext bq Om;have z:=h.ext v;have M:=bi.keep fun a d=>V.block a.block (by have:=K a d;omega)
 have P:=V.at_ a9 Om;have c8:=V.size;clear V ak bi a9 bz bq H;refine Gg ?_;refine Dr (.mods (fun k=>A.map (·.block)=some k)) [0,1,2,3,4,5,6,7,8,9] [10] (Hh ?_);have i:Ext y y.drew:=(Ext.refl y).drew;replace o:=o.ext i;replace M:=M.ext i;replace P:=P.ext i;replace z:=z.ext i;replace v:=v.trans i;have cc:y.drew.heap.size=y.heap.size:=rfl;generalize y.drew=c0 at o M P z v cc⊢;clear i
 have ah:∀k,(∀a,A=some a->a.block≠k)->¬A.map (·.block)=some k:=fun k u q=>by
  cases f:A with
  |none=>rw[f]at q;simp at q
  |some a=>rw[f]at q;simp at q;exact u a f q
 have br:¬A.map (·.block)=some ax:=ah _ fun a d=>by have:=Z a d;omega
 have au:¬A.map (·.block)=some aw:=ah _ fun a d=>by have:=Z a d;omega
 have av:¬A.map (·.block)=some p:=ah _ h.apart;refine⟨.slice A X.length c,⟨z.head.one rfl,av⟩,Hh ?_⟩;refine⟨erC ⟨x.off,x.now,x.person,g,x.items.length,j,sumF (Qq0 seed E) x⟩,⟨rfl,o.all,br⟩,Hh ?_⟩;intro cq wb m;have ck:=m.block;have cu:=m.size;refine⟨Mod.of_ext m.ext,Hh ?_⟩;refine Qq Qxj (l:=X) (news:= [⟨x.off,x.now,x.person,g,x.items.length,j,sumF (Qq0 seed E) x⟩]) rfl (z.row.ext m.ext) rfl (Qxj.new1 (x:=⟨x.off,x.now,x.person,g,x.items.length,j,sumF (Qq0 seed E) x⟩) m) (by simp;omega) (by have:=v.size;omega) fun n c3 cf bk bh ab=>?_
 have s:Mod (fun k=>A.map (·.block)=some k) wb cf:=Xn bh fun k u=>u
 refine⟨s,Gg ?_⟩;have bd:=(o.ext m.ext).mod s br;have bb:=(P.ext m.ext).mod s au;have bl:=(z.head.ext m.ext).mod s av;have cv:=s.size
 have al:∀a,n=some a->A.map (·.block)=some a.block\/w.heap.size<=a.block:=fun a d=>by
  subst d;rcases ab with q|q|q
  .exact .inl (by rw[<- q];rfl)
  .exact .inl q.symm
  .simp at q;have:=v.size;exact .inr Om
 have b1:∀a b,n=some a->g=some b->a.block≠b.block:=fun a b d b4 e=>by
  subst d;have b5:=K b b4;rcases ab with q|q|q
  .have:=Z a q.symm;omega
  .cases f:A with
   |none=>rw[f]at q;simp at q
   |some a0=>rw[f]at q;simp at q;have:=Z a0 f;omega
  .simp at q;omega
 have bg:∀a,n=some a->a.block≠p:=fun a d=>by
  rcases al a d with q|q
  .exact fun e=>av (e▸q)
  .omega
 have b0:∀a,n=some a->a.block≠aw:=fun a d e=>by
  subst d;rcases ab with q|q|q
  .exact au (by rw[<- e,<- q];rfl)
  .exact au (by rw[<- e,<- q];rfl)
  .simp at q;omega
 have bj:=(M.ext m.ext).keep fun a d=>s.block a.block (by have:=(M.block d).2;omega) (ah _ fun a0 b3=>by have:=Z a0 b3;have:=K a d;omega)
 refine Qc Qb (e:=ty55) (off:=1) rfl bl rfl rfl rfl Oj fun az aa D=>?_
 have aa:At az p 73 [.int .u64 seed,.slice n (X++[(⟨x.off,x.now,x.person,g,x.items.length,j,sumF (Qq0 seed E) x⟩:ER)]).length c3]:=aa;have b2:Mod (ChN A p) w az:=Qn (Mod.of_ext (v.trans m.ext)) ((s.mono fun k _ u=>.inl (.inr u)).trans (Qj D (.inl (.inl rfl))));have bm:=bk.keep fun a d=>D.block a.block (bg a d)
 have be:=D.at_ bd Om;have bw:=D.at_ bb Om;have af:=bj.keep fun a d=>D.block a.block (by have:=K a d;omega)
 have c9:=D.size;have cw:=v.size;generalize ao:(⟨x.off,x.now,x.person,g,x.items.length,j,sumF (Qq0 seed E) x⟩:ER)=aj at aa bm be⊢;clear bk bh ab s m o P M z bd bb bl D bj;refine Gg ?_;refine⟨erC aj,⟨rfl,be.all⟩,Gg ?_⟩;refine(Qn9 aj x.items az (by rw[<- ao]) (by rw[<- ao];exact af.sl Qv) Om).mono ?_;rintro _ c1 ⟨cg,c4,rfl,C,N⟩;refine Gg ?_;refine Qc Qb (e:=ty45) rfl (bw.ext N) rfl rfl rfl (by simp[Qg,erC,Value.oneCell']) fun wf bx W=>?_
 have an:Mod (ChN A p) w wf:=Qn b2 ((Mod.of_ext N).trans (Qj W (.inr Om)));have db:=W.size;have da:=N.size;refine Gg ?_;refine⟨_,⟨rfl,bx.all⟩,Gg ?_⟩;refine⟨⟨n,c3,X++[aj],⟨W.at_ (aa.ext N) Om,(bm.ext N).keep fun a d=>W.block a.block (b0 a d),?_,h.low,bg⟩,al⟩,an⟩
 .refine(h.ents.keep (N':=ChN n p) an.size (fun k _ u ac=>an.block k u ac) fun k _ u ac q=>?_).snoc ?_
  .rcases q with q|q
   .exact ac (.inl q)
   .cases f:n with
    |none=>rw[f]at q;simp at q
    |some a =>
     rw[f]at q;have q:a.block=k:=Su q;rcases al a f with bs|bs
     .exact ac (.inr (by rw[bs,q]))
     .omega
  .subst ao;have b9:SlT wf g x.items:=Xp.stay ((af.ext N).sl Qv) fun a d b7=>W.block a.block (by have:=K a d;omega)
   refine⟨rfl,rfl,rfl,rfl,rfl,af.le,b9,Qvl af,fun _ a d=>?_⟩;have b5:=K a d;refine⟨Om,Om,fun q=>?_⟩;rcases q with q|q
   .omega
   .cases f:n with
    |none=>rw[f]at q;simp at q
    |some a3=>rw[f]at q;simp at q;exact b1 a3 a f d q
theorem ErL.take{lo w N E X}(h:ErL lo w N E X)(k):ErL lo w N (E.take k) (X.take k):=by
 refine⟨by rw[Zn,Zn,h.1],fun c e d a b=>?_⟩;rw[Zbm]at a b;split at a
 .rw[if_pos ‹_›]at b;exact h.2 c e d a b
 .cases a
set_option maxHeartbeats 2000000 in
theorem Qhm{lo w p seed E A c X}(h:Qnh lo w p seed E A c X)(H:X.length<100000)(hi:∀e∈E,e.nt.items.length<1000000) :
 Cal Tryz.prog 12 [Pj p] w fun r w'=>∃B d Y,r=.slice B X.length d/\Own erC 5 45 w.heap.size w' B d Y/\ErL w.heap.size w' (fun k=>B.map (·.block)=some k) E Y/\Ext w w':=by
 have a0:=h.ents.1;refine Fi Tryz.func12 rfl _ rfl rfl (Hh ?_);refine⟨.slice A X.length c,h.head.one rfl,Gg ?_⟩
 refine Qh Qb (fun(q:Nat×(Option Addr×Nat×List ER)) w'=>q.1<=X.length/\Ext w w'/\Own erC 5 45 w.heap.size w' q.2.1 q.2.2.1 q.2.2.2/\ErL w.heap.size w' (fun k=>q.2.1.map (·.block)=some k) (E.take q.1) q.2.2.2)
  (fun|(k,(B,d,Y))=>[(3,.slice B Y.length d),(9,.slice A X.length c),(10,Vj X.length),(11,Vj (k:Nat))]) (fun q=>X.length-q.1) (0,(none,0,[])) ⟨Zt _,Ext.refl _,Own.nil,ErL.nil _ _ _⟩ Rr ?_
 rintro ⟨k,⟨B,d,Y⟩⟩ V ⟨o,z,y,u⟩;simp only at o y u;have a3:Y.length=k:=by have:=u.1;rw[Zn]at this;omega
 have a8:=z.size;refine Gg ?_;constructor
 .intro I;have I:k<X.length:=Su I;have P:k<E.length:=Om;obtain⟨a,f,ae⟩:=((h.ext z).row.sl Qfr).get I;have j:=h.ents.2 k E[k] X[k] (Zb P) (Zb I);have hstep:=Za P;have ah:=hi E[k] (Zu P);generalize X[k]=r at ae j;generalize E[k]=e at j hstep ah;refine Gg ?_;refine⟨a,⟨f,Om,Om⟩,Gg ?_⟩;refine⟨erC r,⟨rfl,ae⟩,Gg ?_⟩;intro aw a7 J;refine Gg ?_;have az:=J.block;refine Qc Qb (e:=ty45) rfl J.At rfl rfl rfl (by simp[Qg,erC,Value.oneCell']) fun D M ai=>?_
  have M:At D aw 45 (erC r):=M;have U:Ext V D:=ai.ext J.ext Om;clear ai J;refine Gg ?_;refine⟨erC r,⟨rfl,M.all⟩,Gg ?_⟩
  have av:SlT D r.A e.nt.items:=by
   by_cases ao:e.nt.items=[]
   .exact Qh6 ao
   .exact Xp.stay j.its fun a f H=>(z.trans U).block _ H
  refine(Qn9 r e.nt.items D j.len av ah).mono ?_;rintro _ ax ⟨L,al,rfl,K,aj⟩;have a9:=U.size;have bb:=aj.size;have C:=U.trans aj;refine Gg ?_;intro a4 w5 i;refine Gg ?_;have ay:=i.block;have a5:=i.size;generalize aq:(⟨r.off,r.now,r.person,L,e.nt.items.length,al,r.sum⟩:ER)=R at i⊢;refine Qq Qxj (l:=Y) (news:= [R]) rfl (y.ext (C.trans i.ext)) rfl (Qxj.new1 (x:=R) i) (by simp;omega) Om fun n an F ar v W=>?_
  have ak:Ext w F:=Qu (z.trans (C.trans i.ext)) v (Xm (y.ext (C.trans i.ext)));have N:Mod (fun k=>B.map (·.block)=some k) V F:=(Mod.of_ext (C.trans i.ext)).trans (Xn v fun k o=>o);have aa:∀a,B=some a->w.heap.size<=a.block/\a.block<V.heap.size:=fun a f=>y.block f
  have ag:∀a,L=some a->D.heap.size<=a.block/\a.block<ax.heap.size:=fun a f=>K.block f
  have Z:∀a,n=some a->B.map (·.block)=some a.block\/w5.heap.size<=a.block:=fun a f=>by
   subst f;rcases W with q|q|q
   .exact .inl (by rw[<- q];rfl)
   .exact .inl q.symm
   .simp at q;exact .inr Om
  have ab:Q7p w.heap.size F (fun k=>n.map (·.block)=some k) e R:=by
   subst aq
   have au:SlT F L e.nt.items:=Xp.stay ((K.ext i.ext).sl Qv) fun a f H=>v.block _ H fun q=>by
    have:=ag a f
    cases g:B with
    |none=>rw[g]at q;simp at q
    |some b=>rw[g]at q;simp at q;have:=aa b g;omega
   refine⟨j.off,j.now,j.person,j.sum,rfl,K.le,au,Qvl K,fun _ a f=>?_⟩;have:=ag a f;have:=ak.size;have:=v.size;refine⟨Om,Om,fun q=>?_⟩
   cases g:n with
   |none=>rw[g]at q;simp at q
   |some s =>
    rw[g]at q;have q:s.block=a.block:=Su q;rcases Z s g with m|m
    .cases S:B with
     |none=>rw[S]at m;simp at m
     |some b=>rw[S]at m;simp at m;have:=aa b S;omega
    .omega
  have ac:ErL w.heap.size F (fun k=>n.map (·.block)=some k) (E.take k++[e]) (Y++[R]):=(u.keep N.size (fun k _ o O=>N.block k o O) fun k _ o O q=>by
   cases g:n with
   |none=>rw[g]at q;simp at q
   |some s =>
    rw[g]at q;have q:s.block=k:=Su q;rcases Z s g with m|m
    .exact O (by rw[m,q])
    .have:=C.size;omega).snoc ab
  rw[<- hstep]at ac;clear v W i ab N;refine Gg ?_;refine⟨_,wrap_succ Om,Gg ?_⟩;exact⟨(k+1,(n,an,Y++[R])),Sj,⟨Sj,ak,ar,ac⟩,Rr⟩
 intro af;have af:X.length<=k:=Su af;rw[Zd Om]at u;refine Gg ?_;exact⟨B,d,Y,by rw[show X.length=Y.length by omega],y,u,z⟩
theorem Qn6(seed E X A c w)(P:Gl w)(V:Sl erC 5 w A X){lo N}(H:ErL lo w N E X)(n:X.length<100000)(U:∀e∈E,ntB e.nt=true) :
 Cal Tryz.prog 15 [.int .u64 seed,.slice A X.length c] w fun r w'=>r=Vj (Qu8 seed E:Nat)/\Ext w w':=by
 have ab:=H.1;refine Fi Tryz.func15 rfl _ rfl rfl (Hh ?_)
 refine Qh Qb (fun(q:Nat×Int) w'=>q.1<=X.length/\Ext w w'/\Qu8 seed E=q.1+Qu8 q.2 (E.drop q.1))
  (fun|(k,s)=>[(5,.int .u64 s),(1,.slice A X.length c),(9,.slice A X.length c),(10,Vj X.length),(11,Vj (k:Nat))]) (fun q=>X.length-q.1) (0,seed) ⟨Zt _,Ext.refl _,by simp⟩ Rr ?_
 rintro ⟨k,s⟩ ae ⟨S,B,f⟩;simp only at S f;refine Gg ?_;constructor
 .intro o;have o:k<X.length:=Su o;have z:k<E.length:=Om;obtain⟨a,x,I⟩:=(Qxj.stay V fun a x n=>B.block _ n).get o;have b:=H.2 k E[k] X[k] (Zb z) (Zb o);have l:=U E[k] (Zu z);rw[Zak z]at f;generalize X[k]=r at I b;generalize E[k]=e at b f l;refine Gg ?_;refine⟨a,⟨x,Om,Om⟩,Gg ?_⟩;refine⟨erC r,⟨rfl,I⟩,Gg ?_⟩;intro W af u;refine Gg ?_;have aa:=u.block;refine Qc Qb (e:=ty45) rfl u.At rfl rfl rfl (by simp[Qg,erC,Value.oneCell']) fun j d J=>?_
  have d:At j W 45 (erC r):=d;have i:Ext w j:=B.trans (J.ext u.ext Om);clear J u;refine Gg ?_;refine Dr .ext [0,1,2,3,4,5,6,7,8,9,10] [] (Hh ?_);have D:Ext j j.drew:=(Ext.refl j).drew;replace d:=d.ext D;replace i:=i.trans D;generalize j.drew=Y at d i⊢;clear D
  have K:∀{w':World},Ext w w'->SlT w' r.A e.nt.items:=fun hx=>by
   by_cases M:e.nt.items=[]
   .exact Qh6 M
   .exact Xp.stay b.its fun a x n=>hx.block _ n
  have R:e.nt.items.length<1000000:=(by have:=l;unfold ntB at this;simp only[Zk,decide_eq_true_eq]at this;have:=this.1.2;omega);refine⟨erC r,⟨rfl,d.all⟩,Hh ?_⟩;refine(Qn8 r e.nt Y b.off b.now b.person b.len (K i) R).mono ?_;rintro _ w5 ⟨rfl,m⟩;rw[l];refine⟨m,Hh ?_⟩;have v:=d.ext m;refine⟨.int .u64 r.sum,fun _=>v.one rfl,Hh ?_⟩;refine⟨erC r,fun _=>⟨rfl,v.all⟩,Hh ?_⟩;refine⟨Unit,fun _=>(.int .u64 (sumF s e.nt)),fun _ w'=>Ext w5 w',(),fun ac=>((Qod s r e.nt w5 (P.ext (i.trans m)) b.off b.now b.person b.len (K (i.trans m)) l)).mono fun r w' h=>⟨(),h.1,h.2⟩,?_⟩;intro _ Z F
  have C:Ext w5 Z:=by
   rcases F with⟨_,h⟩|⟨_,h⟩
   .exact h
   .rw[h];exact Ext.refl _
  clear F;refine⟨C,?_⟩;refine Hh ?_;refine Gg ?_;have L:=(i.trans m).trans C;rw[b.sum];constructor
  .intro g;have g:e.sum≠sumF s e.nt:=Su g;refine Gg ?_;refine⟨?_,L⟩;have:Qu8 s (e::E.drop (k+1))=0:=(by unfold Qu8;rw[if_neg fun q=>g q.2]);rw[f,this];rfl
  .intro g;have g:e.sum=sumF s e.nt:=Su g
   have O:Qu8 s (e::E.drop (k+1))=Qu8 e.sum (E.drop (k+1))+1:=by
    conv=>lhs;unfold Qu8
    rw[if_pos ⟨l,g⟩]
   refine Gg ?_;refine⟨.int .u64 r.sum,(v.ext C).one rfl,Gg ?_⟩;rw[b.sum];refine⟨_,wrap_succ Om,Gg ?_⟩;exact⟨(k+1,e.sum),Sj,⟨Sj,L,by simp only;rw[f,O];omega⟩,Rr⟩
 intro y;have y:k=X.length:=(by have:X.length<=k:=Su y;omega);subst y;rw[List.drop_eq_nil_of_le Om]at f;refine Gg ?_;refine⟨?_,B⟩;rw[f];simp[Qu8]
theorem Q7p.low{lo b w N e r}(h:Q7p lo w N e r)(i:b<=lo):Q7p b w N e r:=
 ⟨h.off,h.now,h.person,h.sum,h.len,h.cap,h.its,h.spot,fun c a d=>by
  obtain⟨j,f,g⟩:=h.blk c a d;exact⟨Om,f,g⟩⟩
set_option maxHeartbeats 1000000 in
theorem Q86(seed)(g:0<=seed/\seed<18446744073709551616){lo w p b D E A c X}(h:Qnh lo w p D E A c X)(v:At w b 36 [Pj p])(m:Gl w) :
 Cal Tryz.prog 36 [.string (bytesOf (Qcv seed)),Pj b] w fun r w'=>r=Vj 0/\Qnh lo w' p seed E A c X/\Mod (fun k=>k=p) w w':=by
 have es:=Zdd g.1;refine Fi Tryz.func36 rfl _ rfl rfl (Hh ?_);refine(Q7e seed w).mono ?_;rintro _ o ⟨rfl,B⟩;subst B;refine Gg ?_;refine(Xbp seed.toNat Om o).mono ?_;rintro _ i ⟨rfl,n⟩;rw[es];refine Gg ?_;refine⟨true,fun w'=>⟨by kernel_rfl,by kernel_rfl⟩,Gg ?_⟩;have x:=m.ext n;refine⟨Unit,fun _=>(.string (bytesOf (Qcv seed))),fun _ w'=>Ext i w',(),fun m=>((Qq9 seed g.1 g.2 i x)).mono fun r w' h=>⟨(),h.1,h.2⟩,?_⟩;intro _ F j
 have C:Ext i F:=by
  rcases j with⟨_,h⟩|⟨_,h⟩
  .exact h
  .rw[h];exact Ext.refl _
 clear j;refine Hh ?_;refine Gg ?_;have hx:=n.trans C;constructor
 .intro q;simp at q
 intro _;refine Gg ?_;refine⟨Pj p,(v.ext hx).one0,Gg ?_⟩;refine Qc Qb (e:=ty23) (off:=0) rfl (h.head.ext hx) rfl rfl rfl Oj fun s f z=>?_
 have f:At s p 73 [.int .u64 seed,.slice A X.length c]:=f;have d:Mod (fun k=>k=p) o s:=(Mod.of_ext hx).trans (Qj z rfl);refine Gg ?_;exact⟨rfl,⟨f,h.row.keep fun a l=>d.block a.block (h.row.block l).2 (h.apart a l),h.ents.keep d.size (fun k _ y u=>d.block k y fun q=>u (.inl q)) fun _ _ _ q=>q,h.low,h.apart⟩,d⟩
set_option maxHeartbeats 4000000 in
theorem Q87{lo w p b seed E A c X}(h:Qnh lo w p seed E A c X)(af:At w b 36 [Pj p])(ar:¬ChN A p b)(ag:Gl w)(be:X.length<100000)(aw:lo<=w.heap.size)(e)(U:ntB e.nt=true)(a3:0<=e.sum/\e.sum<18446744073709551616)(a5:(Qck e).length<=1000000)(a0:e.sum=sumF (Qq0 seed E) e.nt) :
 Cal Tryz.prog 40 [.string (bytesOf (Qck e)),Pj b] w fun r w'=>r=Vj 0/\(∃aa ao an,Qnh lo w' p seed (E++[e]) aa ao an/\(∀a,aa=some a->A.map (·.block)=some a.block\/w.heap.size<=a.block))/\Mod (ChN A p) w w':=by
 have bh:=h.head.lt;have W:∀a,A=some a->a.block<w.heap.size:=fun a d=>(h.row.block d).2
 have bg:=af.lt;have bd:=(Qgu U).2.2.2.2.2.1;refine Fi Tryz.func40 rfl _ rfl rfl (Hh ?_);refine(Qyw e w ag U a3 a5).mono ?_;rintro _ al ⟨⟨r,rfl,s⟩,aj⟩;refine Gg ?_;intro ak bl N;refine Gg ?_;have a9:=N.block;refine Qc Qb (e:=ty45) rfl N.At rfl rfl rfl (by simp[Qg,erC,Value.oneCell']) fun C j ai=>?_
 have j:At C ak 45 (erC r):=j;have u:Ext al C:=ai.ext N.ext Om;clear ai N;have bp:=aj.size;have o:=aj.trans u;have y:=h.ext o;have B:=af.ext o;refine Gg ?_;constructor
 .intro q;simp at q
 intro _;refine Gg ?_;refine Dr .ext [0,1,2,4,3,5,6] [] (Hh ?_);have f:Ext C C.drew:=(Ext.refl C).drew;replace j:=j.ext f;replace u:=u.trans f;replace o:=o.trans f;replace y:=y.ext f;replace B:=B.ext f;generalize C.drew=bm at j u o y B⊢;clear f;refine⟨.int .u64 r.sum,j.one rfl,Hh ?_⟩;refine⟨Pj p,B.one0,Hh ?_⟩;refine⟨erC r,⟨rfl,j.all⟩,Hh ?_⟩;refine(Qn5 y Om).mono ?_;rintro _ w5 ⟨rfl,a4⟩;subst a4;refine⟨Ext.refl _,Hh ?_⟩;refine(Qod (Qq0 seed E) r e.nt w5 (ag.ext o) s.off s.now s.person s.len (s.its.ext u) U).mono ?_;rintro _ P ⟨rfl,v⟩;refine⟨v,Hh ?_⟩;constructor
 .intro q;have q:r.sum≠sumF (Qq0 seed E) e.nt:=Su q;exact absurd (s.sum.trans a0) q
 intro _;have z:=y.ext v;have F:=B.ext v;have K:=j.ext v;have H:=u.trans v;have I:=o.trans v;clear j u o y B v;refine Gg ?_;refine Dr (.mods (fun k=>A.map (·.block)=some k)) [0,1,2,3,4,5,6,7,8,9] [10] (Hh ?_);have f:Ext P P.drew:=(Ext.refl P).drew;replace K:=K.ext f;replace H:=H.trans f;replace I:=I.trans f;replace z:=z.ext f;replace F:=F.ext f;generalize P.drew=bo at K H I z F⊢;clear f;have bq:=I.size;have br:=H.size
 have O:∀k,(∀a,A=some a->a.block≠k)->¬A.map (·.block)=some k:=fun k i q=>by
  cases g:A with
  |none=>rw[g]at q;simp at q
  |some a=>rw[g]at q;simp at q;exact i a g q
 have a7:¬A.map (·.block)=some ak:=O _ fun a d=>by have:=W a d;omega
 have Y:¬A.map (·.block)=some p:=O _ h.apart;have nb:¬A.map (·.block)=some b:=fun q=>ar (.inr q)
 refine⟨Pj p,⟨F.one0,nb⟩,Hh ?_⟩;refine⟨Pj p,⟨F.one0,nb⟩,Hh ?_⟩;refine⟨.slice A X.length c,⟨z.head.one rfl,Y⟩,Hh ?_⟩;refine⟨erC r,⟨rfl,K.all,a7⟩,Hh ?_⟩;intro bi wb n;have bb:=n.block;have bj:=n.size;refine⟨Mod.of_ext n.ext,Hh ?_⟩;refine Qq Qxj (l:=X) (news:= [r]) rfl (z.row.ext n.ext) rfl (Qxj.new1 (x:=r) n) (by simp;omega) Om fun m ab a8 ax au aq=>?_
 have D:Mod (fun k=>A.map (·.block)=some k) wb a8:=Xn au fun k i=>i
 refine⟨D,Gg ?_⟩;have ay:=(z.head.ext n.ext).mod D Y;have bk:=D.size
 have L:∀a,m=some a->A.map (·.block)=some a.block\/wb.heap.size<=a.block+1:=fun a d=>by
  subst d;rcases aq with q|q|q
  .exact .inl (by rw[<- q];rfl)
  .exact .inl q.symm
  .simp at q;exact .inr Om
 have ac:∀a,m=some a->a.block≠p:=fun a d=>by
  rcases L a d with q|q
  .exact fun e=>Y (e▸q)
  .omega
 refine Qc Qb (e:=ty55) (off:=1) rfl ay rfl rfl rfl Oj fun Z R V=>?_
 have R:At Z p 73 [.int .u64 seed,.slice m (X++[r]).length ab]:=R;have S:Mod (ChN A p) w Z:=Qn (Mod.of_ext (I.trans n.ext)) ((D.mono fun k _ i=>.inl (.inr i)).trans (Qj V (.inl (.inl rfl))));have ae:Mod (ChN A p) al Z:=(Mod.of_ext (H.trans n.ext)).trans ((D.mono fun k _ i=>.inr i).trans (Qj V (.inl rfl)));have az:=ax.keep fun a d=>V.block a.block (ac a d)
 refine Gg ?_;refine⟨rfl,⟨m,ab,X++[r],⟨R,az,?_,h.low,ac⟩,fun a d=>(L a d).imp id fun q=>Om⟩,S⟩;refine(h.ents.keep (N':=ChN m p) S.size (fun k _ i M=>S.block k i M) fun k _ i M q=>?_).snoc ?_
 .rcases q with q|q
  .exact M (.inl q)
  .cases g:m with
   |none=>rw[g]at q;simp at q
   |some a =>
    rw[g]at q;have q:a.block=k:=Su q;rcases L a g with J|J
    .exact M (.inr (by rw[J,q]))
    .omega
 .refine(s.keep (N':=ChN m p) ae.size (fun k av ah _=>ae.block k ah fun q=>?_) fun k av ah _ q=>?_).low aw
  .rcases q with q|q
   .omega
   .exact O k (fun a d=>by have:=W a d;omega) q
  .rcases q with q|q
   .omega
   .cases g:m with
    |none=>rw[g]at q;simp at q
    |some a =>
     rw[g]at q;have q:a.block=k:=Su q;rcases L a g with J|J
     .exact O k (fun a d=>by have:=W a d;omega) (by rw[J,q])
     .omega
theorem Xjh{E e}(h:e∈E):(Qck e).length<=(Qb1 E).length:=by
 induction E with
 |nil=>cases h
 |cons x E a =>
  rw[Qh1,Zo,Zx];rcases Zr.1 h with rfl|h
  .omega
  .have:=a h;omega
theorem Qui(E k):(Qb1 (E.drop k)).length<=(Qb1 E).length:=by
 conv=>rhs;rw[<- Zag k E]
 unfold Qb1;rw[Zbn,Zo];omega
theorem Qvu{l}:bytesOf l=⟨#[]⟩↔l=[]:=by
 constructor
 .intro h;have a:(bytesOf l).size=0:=by rw[h];rfl
  rw[Qag]at a;exact Zan a
 .intro h;subst h;rfl
set_option maxHeartbeats 4000000 in
theorem Qzc(seed)(av:0<=seed/\seed<18446744073709551616)(E)(an:∀e∈E,ntB e.nt=true)(aw:∀e∈E,0<=e.sum/\e.sum<18446744073709551616)(a4:E.length<1000)(a5:(Q7u seed E).length<=1000000)(ai:∀(j:Nat) e,E[j]?=some e->e.sum=sumF (Qq0 seed (E.take j)) e.nt)(B d w)(x:Gl w)(ag:SlB w B (Q7u seed E)) :
 Cal Tryz.prog 13 [.slice B (Q7u seed E).length d] w fun r w'=>(∃p A c X,r=.tuple #[Pj p,Vj ((E.length+1:Nat):Int),Vj 0]/\Qnh w.heap.size w' p seed E A c X)/\Ext w w':=by
 have a3:(Q7u seed E).length=(Qcv seed).length+1+(Qb1 E).length:=by rw[Q2j];simp;omega
 refine Fi Tryz.func13 rfl _ rfl rfl (Hh ?_);refine(Qlg 0 w).mono ?_;rintro _ ax ⟨p,rfl,F,Y,az⟩;refine Gg ?_;have bd:=Y.size;have a9:=F.head.lt;intro i bb y;refine Gg ?_;have ay:=y.block;refine Qc Qb (e:=ty36) rfl y.At rfl rfl rfl Oj fun N v U=>?_
 have v:At N i 36 [Pj p]:=v;have L:Ext ax N:=U.ext y.ext Om;have Z:=Y.trans L;have ac:=F.ext L;have be:=L.size;have a7:=v.lt;clear U y F;refine Gg ?_;have ah:SlB N B (Q7u seed E):=fun j b f=>(by obtain⟨a,af,aj⟩:=ag j b f;exact⟨a,af,Z.cell aj⟩)
 refine text_of ah ?_;refine Gg ?_
 refine Qh Qb (fun(q:Nat×(Option Addr×Nat×List ER)) w'=>q.1<=E.length+1/\Ext w w'/\At w' i 36 [Pj p]/\Qnh w.heap.size w' p (if q.1=0 then 0 else seed) (E.take (q.1-1)) q.2.1 q.2.2.1 q.2.2.2/\¬ChN q.2.1 p i)
  (fun
   |(0,_)=>[(5,.pointer (some ⟨i,0,none⟩)),(7,.func (.func 40) #[] #[.pointer (some ⟨i,0,none⟩)]),(8,.string (bytesOf (Qcv seed++10::Qb1 E))),(9,.int .i64 0),(10,.func (.func 36) #[] #[.pointer (some ⟨i,0,none⟩)])]
   |(k+1,_)=>[(5,.pointer (some ⟨i,0,none⟩)),(7,.func (.func 40) #[] #[.pointer (some ⟨i,0,none⟩)]),(8,.string (bytesOf (Qb1 (E.drop k)))),(9,.int .i64 ((k+1:Nat):Int)),(10,.func (.func 40) #[] #[.pointer (some ⟨i,0,none⟩)])]) (fun q=>E.length+1-q.1) (0,(none,0,[])) ⟨Zt _,Z,v,ac,fun q=>by
    rcases q with q|q
    .omega
    .simp at q⟩ Rr ?_
 rintro ⟨k,⟨A,c,X⟩⟩ ab ⟨m,n,o,l,s⟩;simp only at m l s;have bg:=n.size
 cases k with
 |zero =>
  refine Gg ?_;constructor
  rotate_left
  .intro q;simp at q
  intro _;refine Gg ?_;refine(Qwb (Qcv seed) (Qb1 E) ab (x.ext n) (Xja seed) (by simp;omega)).mono ?_;rintro _ w5 ⟨rfl,g⟩;refine Gg ?_;constructor
  .intro q;simp at q
  intro _;refine Gg ?_;refine(Q86 seed av (l.ext g) (o.ext g) (x.ext (n.trans g))).mono ?_;rintro _ C ⟨rfl,H,u⟩;refine Gg ?_;constructor
  .intro q;simp at q
  intro _;refine Gg ?_;refine⟨1,rfl,Gg ?_⟩;have M:Ext w C:=Qcu (n.trans g) (fun k m=>Om) u;exact⟨(1,(A,c,X)),Sj,⟨Sj,M,(o.ext g).mod u Om,H,s⟩,Rr⟩
 |succ j =>
  simp only[Nat.add_sub_cancel,Nat.add_one_ne_zero,if_false]at l;have a0:X.length=j:=by have:=l.ents.1;rw[Zn]at this;omega
  refine Gg ?_;constructor
  .intro q;have ao:Qb1 (E.drop j)≠[]:=fun e=>(by rw[Qvu.2 e]at q;simp at q;omega)
   have f:j<E.length:=by
    rcases Zb6 j E.length with h|h
    .exact h
    .exact absurd (Q3h.2 (List.drop_eq_nil_of_le h)) ao
   have I:E.drop j=E[j]::E.drop (j+1):=Zak f;have J:=an E[j] (Zu f);have W:=aw E[j] (Zu f);have al:=Xjh (Zu f);have R:=ai j E[j] (Zb f);have V:=Za f;have au:=Qui E j;generalize E[j]=e at I J W al R V;obtain⟨_,_,_,_,ar,_,ak⟩:=Qgu J;rw[I,Qh1]at au;have S:=Qwb (Qck e) (Qb1 (E.drop (j+1))) ab (x.ext n) (Xji ar ak (by decide)) Om;rw[<- Qh1,<- I]at S;refine Gg ?_;refine S.mono ?_;rintro _ w5 ⟨rfl,g⟩;refine Gg ?_;constructor
   .intro q;simp at q
   intro _;refine Gg ?_;have z:=n.trans g;refine(Q87 (l.ext g) (o.ext g) s (x.ext z) Om z.size e J W Om R).mono ?_;rintro _ C ⟨rfl,⟨D,P,O,H,ae⟩,u⟩;refine Gg ?_;constructor
   .intro q;simp at q
   intro _;refine Gg ?_;refine⟨((j+1+1:Nat):Int),wrap_succ Om,Gg ?_⟩;have bh:=z.size;have a8:=(o.ext g).lt
   have M:Ext w C:=Qcu z (fun k m=>by
    rcases m with m|m
    .omega
    .exact Xm l.row k m) u
   refine⟨(j+1+1,(D,P,O)),Sj,⟨Sj,M,(o.ext g).mod u s,?_,fun q=>?_⟩,Rr⟩
   .show Qnh w.heap.size C p seed (E.take (j+1)) D P O
    rw[V];exact H
   .rcases q with q|q
    .exact s (.inl q)
    .cases K:D with
     |none=>rw[K]at q;simp at q
     |some a =>
      rw[K]at q;have q:a.block=i:=Su q;rcases ae a K with aa|aa
      .exact s (.inr (by rw[aa,q]))
      .omega
  .intro q
   have aq:Qb1 (E.drop j)=[]:=by
    by_cases e:Qb1 (E.drop j)=[]
    .exact e
    .have:¬bytesOf (Qb1 (E.drop j))=⟨#[]⟩:=fun h=>e (Qvu.1 h)
     simp[this]at q
   have f:E.length<=j:=List.drop_eq_nil_iff.1 (Q3h.1 aq);have f:j=E.length:=Om;subst f;rw[Zck]at l;refine Gg ?_;refine⟨Pj p,o.one0,Gg ?_⟩;exact⟨⟨p,A,c,X,rfl,l⟩,n⟩
