import Derived.ChangeKeysEq
import Derived.Test.YtnpacgccajekgaaGreatDoorGI
set_option linter.all false
namespace Go.Proofs.YtnpacgccajekgaaGreatDoor
open Go.Se Go.RowKit
def u8C(q:Nat):List Value:= [.int .u8 (q:Nat)]
def Q71(w:World):Prop:=Xq w ⟨0,0,none⟩ (kT.map vi)
theorem Q71.ext{w w'}(h:Q71 w)(hx:Ext w w'):Q71 w':=hx.cells h
theorem tdn{a b}(c:a<1000000000)(d:b≠0):((b:Nat):Int)≠0/\((a/b:Nat):Int)=IntKind.i64.wrap ((a:Int).tdiv (b:Int)):=by
 refine⟨Om,?_⟩;have h:=Nat.div_le_self a b;have e:(a:Int).tdiv (b:Int)=((a/b:Nat):Int):=(by rw[Zcw Om];exact(Int.natCast_ediv a b).symm);rw[e];generalize a/b=q at h⊢;exact wrap_i64 ⟨Om,Om⟩
theorem tmn{a b}(c:b≠0):((b:Nat):Int)≠0/\((a%b:Nat):Int)=(a:Int).tmod (b:Int):=by
 refine⟨Om,?_⟩;rw[Zbe Om];exact Int.natCast_emod a b
theorem Q3s(b1 b A c w)(f:At w b1 22 [.slice A b.length c])(k:Sl u8C 1 w A b)(h:∀x∈b,x<256)(i) :
 Cal Tryz.prog 44 [Vj (i:Nat),Pj b1] w fun r w'=>r=Vj ((b.getD i 0:Nat):Int)/\w'=w:=by
 refine Fi Tryz.func44 rfl _ rfl rfl (Hh ?_);refine⟨.slice A b.length c,f.one0,Gg ?_⟩;constructor
 .intro d;have d:i<b.length:=Su d;obtain⟨a,rfl,g⟩:=k.get d;have hx:=h _ (Zu d);have j:b.getD i 0=b[i]:=by simp[List.getD,d]
  rw[j];generalize b[i]=x at g hx;refine Gg ?_;refine⟨.slice (some a) b.length c,f.one0,Gg ?_⟩;refine⟨a,Ix,Gg ?_⟩;refine⟨.int .u8 (x:Nat),Qp g,Gg ?_⟩;refine⟨(x:Nat),wrap_i64 ⟨Om,Om⟩,Gg ?_⟩;exact⟨rfl,rfl⟩
 .intro e;have e:b.length<=i:=Su e;rw[show b.getD i 0=0 by simp[List.getD,e]];refine Gg ?_;exact⟨rfl,rfl⟩
theorem Xnk:∀n<10,Qd4 n=⟨#[UInt8.ofNat (48+n)]⟩:=by decide +kernel
theorem Qa2(a n:Nat)(c:n<10)(w)(b:Gl w):Cal Tryz.prog 46 [.string ⟨#[UInt8.ofNat a]⟩,Vj (n:Nat)] w fun r w'=>r=.string (nb a n)/\Ext w w':=by
 refine Fi Tryz.func46 rfl _ rfl rfl (Hh ?_);refine(Qcj n w b Om Om).mono ?_;rintro _ d ⟨rfl,hx⟩;rw[Zbb,Xnk n c];refine Gg ?_;refine⟨sz2 (show 1<=1000000000 by decide) (show 1<=1000000000 by decide),Gg ?_⟩;exact⟨rfl,hx⟩
theorem Xj2{L k v}(a:k<L.length):spl L k [v]=L.set k v:=by
 unfold spl;rw[List.set_eq_take_append_cons_drop,if_pos a];simp
def Qos(n:Nat)(f:Nat->Nat)(k:Nat):List Value:=(List.range n).map fun a=>vi (if a<k then(f a:Nat) else 0)
theorem Qwk(n f k):(Qos n f k).length=n:=by simp[Qos]
theorem Q9e{n}(f){k}(c:k<n):(Qos n f k).set k (vi (f k:Nat))=Qos n f (k+1):=by
 unfold Qos;apply Zb9;intro a;rw[Zc6]
 by_cases h:k=a
 .subst h;simp[c]
 .rw[if_neg h]
  by_cases b:a<n
  .simp only[Zaf,List.getElem?_range b,Zcc];have:(a<k+1)↔(a<k):=Om;simp only[this]
  .simp[b]
theorem Qsf{n f k}(c:k<n){w}{b d:Nat}(h:At w b d (Qos n f k)){x:Int}(hx:x=(f k:Nat)){R}
 (g:∀w',At w' b d (Qos n f (k+1))->Only w w' b->R undef w'):Qys Tryz.prog (Instr.storeAt 3 (.pointer (some ((⟨b,0,none⟩:Addr).add (k*1)))) (Vj x)) w R:=by
 rw[Q7,Zbl];subst hx;refine Qiq Qb (e:=ty3) rfl h rfl (by rw[Qwk];show k+1<=n;omega) Oj fun w' a i=>g w' ?_ i
 have e:Qg (Vj ((f k:Nat):Int))=[vi (f k:Nat)]:=rfl;rw[e,Xj2 (by rw[Qwk];exact c),Q9e f c]at a;exact a
def Qbp(k:Nat)(i:Nat):Int:=if i<k then 100 else 0
theorem Xcl(c every seed){k}(a:k<6):spl (Qas c (Qbp k) every seed) (6+k) [vi 100]=Qas c (Qbp (k+1)) every seed:=by
 rcases k with _|_|_|_|_|_|k
 .rfl
 .rfl
 .rfl
 .rfl
 .rfl
 .rfl
 .omega
theorem Xgf(c a every seed):(Qas c a every seed).length=22:=rfl
theorem Xem(e b1 b2 a c d:Nat):Xip e b1 b2 a c d=⟨((1+10*e:Nat):Int),((1+b1%20:Nat):Int),((1+b2%50:Nat):Int),(((1+b1%20)*(1+a%4):Nat):Int),((c%3:Nat):Int),((d%3:Nat):Int)⟩:=by
 unfold Xip;have f:(b1:Int).tmod 20=((b1%20:Nat):Int):=(tmn (b:=20) (by decide)).2.symm;have g:(b2:Int).tmod 50=((b2%50:Nat):Int):=(tmn (b:=50) (by decide)).2.symm;have h:(a:Int).tmod 4=((a%4:Nat):Int):=(tmn (b:=4) (by decide)).2.symm;have i:(c:Int).tmod 3=((c%3:Nat):Int):=(tmn (b:=3) (by decide)).2.symm;have j:(d:Int).tmod 3=((d%3:Nat):Int):=(tmn (b:=3) (by decide)).2.symm;rw[f,g,h,i,j]
 push_cast
 rfl
set_option maxHeartbeats 1000000 in
theorem Qun(h b1 b2 d i j b6 a:Nat)(W:h<256)(Y:b1<256)(Z:b2<256)(aa:d<256)(ab:i<256)(ac:j<256)(ae:b6<256)(af:a<256)(w) :
 Cal Tryz.prog 45 [.agg #[vi h,vi b1,vi b2,vi d,vi i,vi j,vi b6,vi a]] w fun r w'=>r=.agg (Qas (Xip h b1 b2 d i j) (Qbp 6) ((b6%4:Nat):Int) (a:Nat)).toArray/\Ext w w':=by
 rw[Xem];refine Fi Tryz.func45 rfl _ rfl rfl (Hh ?_);intro N P u;refine Gg ?_;have f:At P N 123 [vi h,vi b1,vi b2,vi d,vi i,vi j,vi b6,vi a]:=u.At;intro l J o;refine Gg ?_;have g:At J l 32 (Qas ⟨0,0,0,0,0,0⟩ (Qbp 0) 0 0)\/True:= .inr trivial;replace g:=o.At;replace f:=f.ext o.ext;have s:=u.ext.trans o.ext;have U:=o.block;have aj:=u.size;clear u o;refine⟨⟨Om,Om⟩,Gg ?_⟩;refine⟨vi b1,f.one rfl,Gg ?_⟩;refine⟨((b1%20:Nat):Int),tmn (b:=20) (by decide),Gg ?_⟩;refine⟨((1+b1%20:Nat):Int),by rw[<- wrap_i64 ⟨Om,Om⟩];push_cast;rfl,Gg ?_⟩;refine⟨⟨Om,Om⟩,Gg ?_⟩;refine⟨vi h,f.one rfl,Gg ?_⟩;refine⟨((10*h:Nat):Int),by rw[<- wrap_i64 ⟨Om,Om⟩];push_cast;rfl,Gg ?_⟩;refine⟨((1+10*h:Nat):Int),by rw[<- wrap_i64 ⟨Om,Om⟩];push_cast;rfl,Gg ?_⟩;refine⟨⟨Om,Om⟩,Gg ?_⟩;refine⟨vi b2,f.one rfl,Gg ?_⟩;refine⟨((b2%50:Nat):Int),tmn (b:=50) (by decide),Gg ?_⟩;refine⟨((1+b2%50:Nat):Int),by rw[<- wrap_i64 ⟨Om,Om⟩];push_cast;rfl,Gg ?_⟩;refine⟨⟨Om,Om⟩,Gg ?_⟩;refine⟨vi d,f.one rfl,Gg ?_⟩;refine⟨((d%4:Nat):Int),tmn (b:=4) (by decide),Gg ?_⟩;refine⟨((1+d%4:Nat):Int),by rw[<- wrap_i64 ⟨Om,Om⟩];push_cast;rfl,Gg ?_⟩;have L:(1+b1%20)*(1+d%4)<=80:=Nat.mul_le_mul (show 1+b1%20<=20 by omega) (show 1+d%4<=4 by omega);refine⟨(((1+b1%20)*(1+d%4):Nat):Int),by rw[<- Int.natCast_mul];exact wrap_i64 ⟨Om,Om⟩,Gg ?_⟩;generalize (1+b1%20)*(1+d%4)=O at L⊢;refine⟨⟨Om,Om⟩,Gg ?_⟩;refine⟨vi i,f.one rfl,Gg ?_⟩;refine⟨((i%3:Nat):Int),tmn (b:=3) (by decide),Gg ?_⟩;refine⟨⟨Om,Om⟩,Gg ?_⟩;refine⟨vi j,f.one rfl,Gg ?_⟩;refine⟨((j%3:Nat):Int),tmn (b:=3) (by decide),Gg ?_⟩;refine⟨⟨Om,Om⟩,Gg ?_⟩;refine⟨vi b6,f.one rfl,Gg ?_⟩;refine⟨((b6%4:Nat):Int),tmn (b:=4) (by decide),Gg ?_⟩;refine⟨⟨Om,Om⟩,Gg ?_⟩;refine⟨vi a,f.one rfl,Gg ?_⟩;refine⟨((a:Nat):Int),wrap_u64 ⟨Om,Om⟩,Gg ?_⟩;intro m ak v;refine Gg ?_;refine Qc Qb (e:=ty32) rfl v.At rfl rfl rfl Oj fun w5 n E=>?_
 generalize D:(⟨((1+10*h:Nat):Int),((1+b1%20:Nat):Int),((1+b2%50:Nat):Int),(O:Int),((i%3:Nat):Int),((j%3:Nat):Int)⟩:Cfg)=c;have n:At w5 m 32 (Qas c (Qbp 0) ((b6%4:Nat):Int) (a:Nat)):=by rw[<- D];exact n
 have V:=v.block;have B:Ext J w5:=E.ext v.ext Om;have ah:=g.lt;replace g:=g.ext B;replace s:=s.trans B;clear E v B f;have ai:=n.lt;have M:m≠l:=Om;have I:w.heap.size<=m/\w.heap.size<=l:=by have:=s.size;omega
 clear D
 refine Qh Qb (fun(k:Nat) w'=>k<=6/\Ext w w'/\At w' l 32 (Qg ty32.zero)/\At w' m 32 (Qas c (Qbp k) ((b6%4:Nat):Int) (a:Nat)))
  (fun k=>[(2,Pj l),(4,Pj m),(40,Vj (k:Nat))]) (fun k=>6-k) 0 ⟨Om,s,g,n⟩ Rr ?_
 clear g n s;rintro k al ⟨ag,H,g,C⟩;refine Hh ?_;constructor
 .intro A;have A:k<6:=(by have:(k:Int)<6:=Su A;omega);refine Gg ?_;refine⟨⟨Om,Om⟩,Gg ?_⟩;refine Qc Qb (e:=ty3) (off:=6+k) rfl C (by simp[Q9,Q7,Qvg]) rfl (Nat.ble_eq_true_of_le (by rw[Xgf];show 6+k+1<=22;omega)) Oj fun R x F=>?_
  have x:At R m 32 (Qas c (Qbp (k+1)) ((b6%4:Nat):Int) (a:Nat)):=by rw[<- Xcl _ _ _ A];exact x
  refine Gg ?_;refine⟨_,wrap_succ Om,Gg ?_⟩;exact⟨k+1,Om,⟨Om,F.ext H I.1,F.at_ g (fun e=>M e.symm),x⟩,Rr⟩
 .intro z;have z:k=6:=(by have:¬(k:Int)<6:=Su z;omega);subst z;refine Gg ?_;refine⟨Qas c (Qbp 6) ((b6%4:Nat):Int) (a:Nat),⟨rfl,C.all⟩,Gg ?_⟩;refine Qc Qb (e:=ty32) rfl g rfl rfl rfl (by simp[Qg,Qas,Value.oneCell']) fun S y K=>?_
  have y:At S l 32 (Qas c (Qbp 6) ((b6%4:Nat):Int) (a:Nat)):=y;refine Gg ?_;refine⟨Qas c (Qbp 6) ((b6%4:Nat):Int) (a:Nat),⟨rfl,y.all⟩,Gg ?_⟩;exact⟨rfl,K.ext H I.2⟩
def Qe9(q j:Nat):Bool:=decide (q/2^j%2=1)
def Q8h(q k:Nat):List Value:= [.bool (decide (0<k)&&Qe9 q 0),.bool (decide (1<k)&&Qe9 q 1),.bool (decide (2<k)&&Qe9 q 2)]
theorem Q8k{q k}(a:k<3):spl (Q8h q k) k [.bool (Qe9 q k)]=Q8h q (k+1):=by
 rcases k with _|_|_|k
 .rfl
 .rfl
 .rfl
 .omega
theorem Xm3{q k}(a:k<64):(0:Int)<=(k:Nat)/\((q/2^k:Nat):Int)=(q:Int).fdiv (2^(min ((k:Nat):Int).toNat IntKind.i64.bits)):=by
 refine⟨Om,?_⟩
 have:min ((k:Nat):Int).toNat IntKind.i64.bits=k:=by
  rw[Zbb];show min k 64=k
  omega
 have e:(2:Int)^k=((2^k:Nat):Int):=by push_cast;rfl
 rw[this,e,Zcv _ (Int.natCast_nonneg _)];exact Int.natCast_ediv _ _
theorem Xmt:∀a<64,((a%2:Nat):Int)=IntKind.i64.wrap ((BitVec.ofInt IntKind.i64.bits ((a:Nat):Int) &&& BitVec.ofInt IntKind.i64.bits 1).toNat:Nat):=by decide +kernel
theorem Xij(x):decide (((x%2:Nat):Int)=1)=decide (x%2=1):=by
 rw[Zc7,decide_eq_true_iff,decide_eq_true_iff];omega
theorem Q41(a b c ox oy):Qve Tryz.prog 267 ox oy (.agg #[.bool a,.bool b,.bool c]) (.agg #[.bool false,.bool false,.bool false]) (!a&&!b&&!c):=by
 have u:Tryz.prog.underlying 267=some (.array 3 4):=by kernel_rfl
 have l:Tryz.prog.underlying 4=some .bool:=by kernel_rfl
 have r:Tryz.prog.cellsOf 4=1:=by kernel_rfl
 intro w;have m:=run_eqGuard_agg (P:=Tryz.prog) w .eql 267 ox oy #[.bool a,.bool b,.bool c] #[.bool false,.bool false,.bool false] Kr;have n:=run_eqGuard_agg (P:=Tryz.prog) w .neq 267 ox oy #[.bool a,.bool b,.bool c] #[.bool false,.bool false,.bool false] Kr;have h:=run_eql_struct (P:=Tryz.prog) w 267 #[.bool a,.bool b,.bool c] #[.bool false,.bool false,.bool false];have j:=run_neq_struct (P:=Tryz.prog) w 267 #[.bool a,.bool b,.bool c] #[.bool false,.bool false,.bool false]
 have o:(Op.equalIn 10000 267 (.agg #[.bool a,.bool b,.bool c]) (.agg #[.bool false,.bool false,.bool false])).run Tryz.prog w=.ok (!a&&!b&&!c) w:=by
  obtain⟨i,f⟩:∃i,Tryz.prog.info? 4=some i:=(by obtain⟨i,d,f,_⟩:=Xl ty4_ok;exact⟨i,f⟩);rw[run_equalIn_array w 9999 _ _ u f,r];have e:∀(g:Array Value) (k:Nat) (x:Bool),g[k]?=some (.bool x)->(part 4 g k).run Tryz.prog w=.ok (.bool x) w:=fun g k x hx=>(by have:(isAgg 4).run Tryz.prog w=.ok false w:=(by unfold isAgg;simp only[Sem.run_bind,run_underlying l,Result.andThen_ok];rfl);simp[part,this,hx])
  have s:List.range 3=[0,1,2]:=rfl;rw[s];have q:=fun(x:Bool)=>run_equalIn_bool' (P:=Tryz.prog) w 9998 4 x false l
  simp only[Op.eqItems,Sem.run_bind,Zbl];rw[e #[.bool a,.bool b,.bool c] 0 a rfl];simp only[Result.andThen_ok];rw[e #[.bool false,.bool false,.bool false] 0 false rfl];simp only[Result.andThen_ok];rw[q a];simp only[Result.andThen_ok];cases a
  case true=>simp
  simp only[show (false == false)=true from rfl,Zcz,Zal,↓reduceIte,Sem.run_bind];rw[e #[.bool false,.bool b,.bool c] 1 b rfl];simp only[Result.andThen_ok];rw[e #[.bool false,.bool false,.bool false] 1 false rfl];simp only[Result.andThen_ok];rw[q b];simp only[Result.andThen_ok];cases b
  case true=>simp
  simp only[show (false == false)=true from rfl,Zcz,Zal,↓reduceIte,Sem.run_bind];rw[e #[.bool false,.bool false,.bool c] 2 c rfl];simp only[Result.andThen_ok];rw[e #[.bool false,.bool false,.bool false] 2 false rfl];simp only[Result.andThen_ok];rw[q c];simp only[Result.andThen_ok];cases c<;>simp
 rw[o]at h j;constructor
 .simp only[Sem.run_bind,m,Result.andThen_ok,h]
 .simp only[Sem.run_bind,n,Result.andThen_ok,j]
def Xda(q k:Nat):List Bj:=((List.range k).filter (Qe9 q)).map (nb 116)
theorem Xdd(q k):Xda q (k+1)=Xda q k++if Qe9 q k=true then [nb 116 k] else []:=by
 unfold Xda;rw[Zch,Zq,Zp];congr 1
 by_cases h:Qe9 q k=true
 .simp[h]
 .simp[h]
theorem Xnc(q):Qe9 q 0=Qe9 (q%8) 0/\Qe9 q 1=Qe9 (q%8) 1/\Qe9 q 2=Qe9 (q%8) 2:=by
 unfold Qe9;have a:q/2^0%2=q%8/2^0%2:=by simp only[Nat.pow_zero,Nat.div_one];omega
 have b:q/2^1%2=q%8/2^1%2:=by simp only[Nat.pow_one];omega
 have c:q/2^2%2=q%8/2^2%2:=by simp only[show 2^2=4 from rfl];omega
 rw[a,b,c];exact⟨rfl,rfl,rfl⟩
theorem Xm4(q):Xda q 3=Xda (q%8) 3:=by
 obtain⟨a,b,c⟩:=Xnc q;unfold Xda;congr 1;show List.filter (Qe9 q) [0,1,2]=List.filter (Qe9 (q%8)) [0,1,2]
 simp only[List.filter,a,b,c]
theorem Xdb:∀b<8,(⟨(Lib.join ((Xda b 3).map (·.data.toList)) [44]).toArray⟩:Bj)=Xl9 b:=by decide +kernel
theorem Xdc:∀b<8,(Lib.join ((Xda b 3).map (·.data.toList)) [44]).length<=100:=by decide +kernel
theorem Xde:∀b<8,(Xl9 b).size<=100:=by decide +kernel
theorem Q8i:∀b<8,(!Qe9 b 0&&!Qe9 b 1&&!Qe9 b 2)=true->Xl9 b=⟨#[]⟩:=by decide +kernel
theorem Q8j:∀b<8,(!Qe9 b 0&&!Qe9 b 1&&!Qe9 b 2)=false->Xda b 3≠[]:=by decide +kernel
theorem Xef(x:Bj):x++(⟨#[]⟩:Bj)=x:=by
 apply ByteArray.ext;simp
set_option maxHeartbeats 1000000 in
theorem Quz(m v)(a5:m<3)(a9:v<256)(w)(ag:Gl w):Cal Tryz.prog 88 [.string (nb 109 m),Vj (v:Nat)] w fun r w'=>r=.string (Qw1 m (v/4%8))/\Ext w w':=by
 have ak:(nb 109 m).size=2:=rfl;unfold Qw1;generalize nb 109 m=mk at ak⊢;have a7:v/4<64:=Om;refine Fi Tryz.func88 rfl _ rfl rfl (Hh ?_);intro s aw F;refine Gg ?_;have c:At aw s 267 (Q8h (v/4) 0):=F.At;have W:=F.ext;have av:w.heap.size<=s:=by rw[F.block];exact Zf _
 clear F
 refine Qh Qb (fun(k:Nat) w'=>k<=3/\Ext w w'/\At w' s 267 (Q8h (v/4) k))
  (fun k=>[(0,.string mk),(1,Vj (v:Nat)),(5,Pj s),(10,Vj (k:Nat))]) (fun k=>3-k) 0 ⟨Om,W,c⟩ Rr ?_
 clear c W;rintro k ax ⟨O,H,c⟩;refine Hh ?_;constructor
 .intro n;have n:k<3:=(by have:(k:Int)<3:=Su n;omega);refine Gg ?_;refine⟨((v/4:Nat):Int),tdn (b:=4) Om (by decide),Gg ?_⟩;refine⟨((v/4/2^k:Nat):Int),Xm3 Om,Gg ?_⟩;refine⟨((v/4/2^k%2:Nat):Int),Xmt _ (by have:=Nat.div_le_self (v/4) (2^k);omega),Gg ?_⟩;refine⟨⟨Om,Om⟩,Gg ?_⟩;refine Qc Qb (e:=ty4) (off:=k) rfl c (by simp[Q7]) rfl (Nat.ble_eq_true_of_le (by show k+1<=3;omega)) Oj fun u J al=>?_
  have J:At u s 267 (Q8h (v/4) (k+1)):=by
   rw[<- Q8k n];have e:(Value.bool (decide (((v/4/2^k%2:Nat):Int)=1)))=Value.bool (Qe9 (v/4) k):=by rw[Xij];rfl
   rw[<- e];exact J
  refine Gg ?_;refine⟨_,wrap_succ Om,Gg ?_⟩;exact⟨k+1,Om,⟨Om,al.ext H av,J⟩,Rr⟩
 .intro i;have i:k=3:=(by have:¬(k:Int)<3:=Su i;omega);subst i;have c:At ax s 267 [.bool (Qe9 (v/4) 0),.bool (Qe9 (v/4) 1),.bool (Qe9 (v/4) 2)]:=c;refine Gg ?_;refine⟨[.bool (Qe9 (v/4) 0),.bool (Qe9 (v/4) 1),.bool (Qe9 (v/4) 2)],⟨rfl,c.all⟩,Gg ?_⟩;refine⟨_,Q41 _ _ _ _ _,Gg ?_⟩;obtain⟨L,M,N⟩:=Xnc (v/4);have y:v/4%8<8:=Om;constructor
  .intro h;have h:(!Qe9 (v/4) 0&&!Qe9 (v/4) 1&&!Qe9 (v/4) 2)=true:=h;rw[L,M,N]at h;rw[Q8i _ y h,Xef];refine Gg ?_;refine⟨sz2 Om (by decide),Gg ?_⟩;exact⟨rfl,H⟩
  .intro h;have h:(!Qe9 (v/4) 0&&!Qe9 (v/4) 1&&!Qe9 (v/4) 2)=false:=h;rw[L,M,N]at h;have S:=Q8j _ y h;refine Gg ?_;refine⟨[.bool (Qe9 (v/4) 0),.bool (Qe9 (v/4) 1),.bool (Qe9 (v/4) 2)],⟨rfl,c.all⟩,Gg ?_⟩
   refine Qh Qb (fun(x:Nat×Option Addr×Nat×List Bj) w'=>x.1<=3/\x.2.2.2=Xda (v/4) x.1/\Own Qac 1 9 w.heap.size w' x.2.1 x.2.2.1 x.2.2.2/\Ext w w')
    (fun|(k,B,d,U)=>[(0,.string mk),(7,.slice B U.length d),(27,.agg #[.bool (Qe9 (v/4) 0),.bool (Qe9 (v/4) 1),.bool (Qe9 (v/4) 2)]),(28,Vj (k:Nat))]) (fun x=>3-x.1) (0,none,0,[]) ⟨by simp,rfl,Own.nil,H⟩ Rr ?_
   clear c H;rintro ⟨k,B,d,U⟩ u ⟨O,z,f,C⟩;simp only at O z f;have a4:U.length<=k:=(by rw[z];unfold Xda;rw[Zg];have:=Zc (Qe9 (v/4)) (List.range k);rw[List.length_range]at this;exact this);refine Hh ?_;constructor
   .intro n;have n:k<3:=(by have:(k:Int)<3:=Su n;omega);have o:=Xdd (v/4) k;rw[<- z]at o;refine Gg ?_;refine⟨.bool (Qe9 (v/4) k),Qca Tryz.underlying267 Tryz.isAgg4 Tryz.sizeOf4 n (by rcases k with _|_|_|k<;>first|rfl|omega),Gg ?_⟩;constructor
    .intro A;rw[if_pos A]at o;refine Gg ?_;refine(Qa2 116 k Om u (ag.ext C)).mono ?_;rintro _ bb ⟨rfl,aq⟩;refine Gg ?_;intro ay w5 P;refine Gg ?_;have I:=aq.trans P.ext;refine Qq Xp (l:=U) (news:= [nb 116 k]) rfl (f.ext I) rfl (Xp.new1 (x:=nb 116 k) P) (by simp;omega) (C.trans I).size fun Y aa bd V ah a3=>?_
     have au:=Qu (C.trans I) ah (Xm (f.ext I));generalize U++[nb 116 k]=Z at V o⊢;refine Gg ?_;refine⟨_,wrap_succ Om,Gg ?_⟩;exact⟨(k+1,Y,aa,Z),Sj,⟨Sj,o.symm,V,au⟩,Rr⟩
    .intro A;have A:¬Qe9 (v/4) k=true:=by rw[A];decide
     rw[if_neg A,Z4]at o;refine Gg ?_;refine⟨_,wrap_succ Om,Gg ?_⟩;exact⟨(k+1,B,d,U),Sj,⟨Sj,o.symm,f,C⟩,Rr⟩
   .intro i;have i:k=3:=(by have:¬(k:Int)<3:=Su i;omega);subst i;rw[Xm4]at z;have E:=Xdb _ y;have ai:=Xdc _ y;rw[<- z]at E ai S;refine Gg ?_;refine⟨sz2 Om (by decide),Gg ?_⟩
    obtain⟨g,ac⟩:∃g,B=some ⟨g,0,none⟩:=by
     rcases f.2 with⟨D,ab⟩|⟨g,az,a0,D,_⟩
     .exact absurd (Zan ab) S
     .injection D with D;exact⟨g,D⟩
    subst ac;have an:=f.sl Qv;have af:∀(j:Nat) x,U[j]?=some x->u.cell? ⟨g,0+j,none⟩=some (.string x):=fun j x E=>(by obtain⟨a,K,ae⟩:=an j x E;injection K with K;subst K;have:=Qp ae;rw[Q7]at this;rw[Za6];simpa using this)
    have a8:=Xde _ y;have aj:U.length<=d:=f.le;refine(Qae Qt9 (Tryz.strings_Join g 0 d U ⟨#[44]⟩ u af (f.block rfl).2 Om aj ?_) (R:=fun r w'=>r=.string (Xl9 (v/4%8))/\Ext u w') ?_).mono ?_
    .show (Lib.join (U.map (·.data.toList)) [44]).length<=_
     omega
    .intro w' ao;exact⟨by rw[<- E],ao⟩
    .rintro _ w5 ⟨rfl,ar⟩;refine Gg ?_;refine⟨sz2 (by rw[Zbd];have:(⟨#[59]⟩:Bj).size=1:=rfl;omega) Om,Gg ?_⟩;exact⟨rfl,C.trans ar⟩
def Qd7(b:Int)(src p i m t:Bj)(num a:Int)(v:Nat):Ev:=
 if b=7\/b=9 then⟨src,num,a,b,p,⟨#[]⟩,0,m⟩
 else if b=11 then⟨src,num,a,b,⟨#[]⟩,i,(v:Nat),t⟩
 else if b=12 then⟨src,num,a,b,⟨#[]⟩,i,(v%3:Nat),⟨#[]⟩⟩
 else if b=13 then⟨src,num,a,b,⟨#[]⟩,i,0,⟨#[]⟩⟩
 else if b=4 then⟨src,num,a,b,p,i,(1+v%5:Nat),⟨#[]⟩⟩
 else⟨src,num,a,b,p,i,0,⟨#[]⟩⟩
theorem Xgr(k b1 b2 v num tick):Qyd k b1 b2 v num tick=Qd7 (kT.getD (k%16) 0) (nb 115 (k/16%2)) (nb 112 (b1%4)) (nb 105 (b2%6)) (nb 109 (v%3)) (Qw1 (v%3) (v/4%8)) num (max (tick-5*(k/32:Nat)) 0) v:=rfl
theorem Xmz{w}(h:Q71 w){j}(b:j<13):w.cell? ((⟨0,0,none⟩:Addr).add ((((j:Nat):Int)).toNat*1))=some (vi (kT.getD j 0)):=by
 rw[Zbb,Zbl];refine h j _ ?_;have a:j<kT.length:=b;rw[Zaf,Zb a];simp[List.getD,a]
set_option maxHeartbeats 4000000 in
theorem Xdn(k b1 b2 v d:Nat)(num tick)(az:k%16<13)(bi:k<256)(be:b1<256)(bg:b2<256)(a4:v<256)(bk:0<=tick/\tick<=1000000)(w)(ak:Gl w)(a0:Q71 w) :
 Cal Tryz.prog 47 [.agg #[vi k,vi b1,vi b2,vi v,vi d],Vj num,Vj tick] w fun r w'=>r=evV (Qyd k b1 b2 v num tick)/\Ext w w':=by
 have bh:=ak.size;rw[Xgr];refine Fi Tryz.func47 rfl _ rfl rfl (Hh ?_);intro ar a9 U;refine Gg ?_;have s:At a9 ar 126 [vi k,vi b1,vi b2,vi v,vi d]:=U.At;have bb:=U.block;have bl:=U.size;intro p6 O M;have F:=M.At;have bd:=M.block;have bm:=M.size;replace s:=s.ext M.ext;have hx:=U.ext.trans M.ext;clear U M;refine Gg ?_;refine Dr .same [0,1,2,3,4,5] [] (Hh ?_);have o:Ext O O.drew:=(Ext.refl O).drew;replace s:=s.ext o;replace F:=F.ext o;replace hx:=hx.trans o;have a5:O.drew.heap.size=O.heap.size:=rfl;generalize O.drew=z at s F hx a5⊢;clear o;refine⟨⟨by decide,by decide⟩,Hh ?_⟩;refine⟨vi k,s.one rfl,Hh ?_⟩;refine⟨⟨by decide,by decide⟩,Hh ?_⟩;refine⟨vi v,s.one rfl,Gg ?_⟩;have al:=ak.ext hx;have ao:=a0.ext hx
 refine Ql1 (ι:=Nat) (fun g=>[(3,Pj ar),(6,Pj p6),(7,Vj (k:Nat)),(8,Vj (v:Nat)),(9,Pj g)])
  (fun g w'=>Ext z w'/\z.heap.size<=g/\At w' g 69 (evC ⟨nb 115 (k/16%2),num,max (tick-5*((k/32:Nat):Int)) 0,kT.getD (k%16) 0,⟨#[]⟩,⟨#[]⟩,0,⟨#[]⟩⟩)) ?_ ?_
 .refine Qhl (.mods (fun q=>z.heap.size<=q)) (Pl.seq [0,1,2,4,5,6,7,8,9,10,11,12,13,14] (Pl.two 3 (Pl.seq [15,16,17] Pl.done) 16 (Pl.seq [3,15,17] Pl.done))) (by intro h;cases h) Qb mixed Kr (Hh ?_);have o:Ext z z.drew:=(Ext.refl z).drew;have a7:z.drew.heap.size=z.heap.size:=rfl;have ac:=al.ext o;have an:=ao.ext o;generalize z.drew=P at o a7 ac an⊢;refine⟨((k/16:Nat):Int),tdn (b:=16) Om (by decide),Hh ?_⟩;refine⟨((k/16%2:Nat):Int),tmn (b:=2) (by decide),Hh ?_⟩;refine⟨((k/32:Nat):Int),tdn (b:=32) Om (by decide),Hh ?_⟩;refine⟨5*((k/32:Nat):Int),wrap_i64 ⟨Om,Om⟩,Hh ?_⟩;refine⟨tick-5*((k/32:Nat):Int),wrap_i64 ⟨Om,Om⟩,Hh ?_⟩;refine⟨((k%16:Nat):Int),tmn (b:=16) (by decide),Hh ?_⟩;refine⟨⟨Om,Om⟩,Hh ?_⟩;refine⟨vi (kT.getD (k%16) 0),⟨Xmz an az,by rw[add_block];show ¬z.heap.size<=0;omega⟩,Hh ?_⟩;generalize kT.getD (k%16) 0=c;generalize max (tick-5*((k/32:Nat):Int)) 0=a;refine⟨?_,?_⟩
  .refine(Qa2 115 (k/16%2) Om P ac).mono ?_;rintro _ w5 ⟨rfl,K⟩;refine⟨Mod.of_ext K,Hh ?_⟩;intro g Z E;have av:=E.block;have bo:=K.size;refine⟨Mod.of_ext E.ext,Hh ?_⟩;refine Qc Qb (e:=ty69) rfl E.At rfl rfl rfl Oj fun ah aa V=>?_
   refine⟨Qj V (by show z.heap.size<=g;omega),Hh ?_⟩;exact⟨g,⟨V.ext ((o.trans K).trans E.ext) Om,Om,aa⟩,Rr⟩
  .intro g Z E;have av:=E.block;refine⟨Mod.of_ext E.ext,Hh ?_⟩;refine(Qa2 115 (k/16%2) Om Z (ac.ext E.ext)).mono ?_;rintro _ w5 ⟨rfl,K⟩;refine⟨Mod.of_ext K,Hh ?_⟩;refine Qc Qb (e:=ty69) rfl (E.At.ext K) rfl rfl rfl Oj fun ah aa V=>?_
   refine⟨Qj V (by show z.heap.size<=g;omega),Hh ?_⟩;exact⟨g,⟨V.ext ((o.trans E.ext).trans K) Om,Om,aa⟩,Rr⟩
 rintro g P ⟨x,y,u⟩;clear ao;replace s:=s.ext x;have J:=al.ext x;generalize kT.getD (k%16) 0=c at u⊢;generalize max (tick-5*((k/32:Nat):Int)) 0=a at u⊢;generalize nb 115 (k/16%2)=src at u⊢;refine Gg ?_;refine Dr .ext [0,1,2,4,5,6,8,9,3,7] [10,11,12,13] (Hh ?_);have o:Ext P P.drew:=(Ext.refl P).drew;replace s:=s.ext o;replace u:=u.ext o;replace x:=x.trans o;replace J:=J.ext o;generalize P.drew=w5 at s u x J⊢;clear o;refine⟨⟨by decide,by decide⟩,Hh ?_⟩;refine⟨vi b1,s.one rfl,Hh ?_⟩;refine⟨((b1%4:Nat):Int),tmn (b:=4) (by decide),Hh ?_⟩;refine⟨⟨by decide,by decide⟩,Hh ?_⟩;refine⟨vi b2,s.one rfl,Hh ?_⟩;refine⟨((b2%6:Nat):Int),tmn (b:=6) (by decide),Hh ?_⟩;refine⟨((v%3:Nat):Int),tmn (b:=3) (by decide),Hh ?_⟩;refine(Qa2 112 (b1%4) Om w5 J).mono ?_;rintro _ Z ⟨rfl,L⟩;refine⟨L,Hh ?_⟩;refine(Qa2 105 (b2%6) Om Z (J.ext L)).mono ?_;rintro _ ah ⟨rfl,N⟩;refine⟨N,Hh ?_⟩;refine(Qa2 109 (v%3) Om ah ((J.ext L).ext N)).mono ?_;rintro _ au ⟨rfl,Y⟩;replace x:=((x.trans L).trans N).trans Y;replace u:=((u.ext L).ext N).ext Y;have ay:=((J.ext L).ext N).ext Y;clear L N Y J s;have ae:∀w',Gl w'->Cal Tryz.prog 88 [.string (nb 109 (v%3)),Vj (v:Nat)] w' fun r a8=>r=.string (Qw1 (v%3) (v/4%8))/\Ext w' a8:=fun w' h=>Quz (v%3) v Om a4 w' h
 generalize nb 112 (b1%4)=p;generalize nb 105 (b2%6)=i;generalize nb 109 (v%3)=m at ae⊢;generalize Qw1 (v%3) (v/4%8)=t at ae⊢;refine Gg ?_;refine⟨vi c,u.one rfl,Hh ?_⟩;have bj:=hx.size;refine Xi Qb (ι:=Bool) (fun q=>[(6,Pj p6),(8,Vj (v:Nat)),(9,Pj g),(10,.string p),(11,.string i),(12,.string m),(45,Vj c),(50,.bool q)]) (fun q w'=>q=decide (c=7\/c=9)/\w'=au) ?_ ?_
 . (conv=>whnf)
   refine⟨fun h=>?_,fun h=>?_⟩
   .have h:c=7:=Su h;refine Hh ?_;exact⟨_,⟨by simp[h],rfl⟩,⟨rfl,rfl,rfl,rfl,rfl,rfl,rfl,rfl,trivial⟩⟩
   have ax:¬c=7:=Su h;refine Hh ?_;exact⟨_,⟨by simp[ax],rfl⟩,⟨rfl,rfl,rfl,rfl,rfl,rfl,rfl,rfl,trivial⟩⟩
 rintro q bp ⟨a3,ag⟩;replace ag:=ag.symm;subst ag a3;refine Hh ?_;refine⟨fun h=>?_,fun h=>?_⟩
 .have h:c=7\/c=9:=Su h;have l:Qd7 c src p i m t num a v=⟨src,num,a,c,p,⟨#[]⟩,0,m⟩:=by unfold Qd7;rw[if_pos h]
  refine Gg ?_;refine Qc Qb (e:=ty9) (off:=4) rfl u rfl rfl rfl Oj fun R A C=>(Gg ?_)
  refine Qc Qb (e:=ty9) (off:=7) rfl A rfl rfl rfl Oj fun wb H I=>(Gg ?_)
  have j:At wb g 69 (evC (Qd7 c src p i m t num a v)):=by rw[l];exact H
  have n:=I.ext (C.ext x y) y;clear l;generalize Qd7 c src p i m t num a v=e at j⊢;refine⟨evC e,⟨rfl,j.all⟩,Gg ?_⟩;refine Qc Qb (e:=ty69) rfl (F.ext n) rfl rfl rfl (Qbn e) fun D f B=>?_
  have f:At D p6 69 (evC e):=f;refine Gg ?_;refine⟨evC e,⟨rfl,f.all⟩,Gg ?_⟩;exact⟨rfl,B.ext (hx.trans n) Om⟩
 have S:¬(c=7\/c=9):=Su h;refine Hh ?_;refine⟨fun h=>?_,fun h=>?_⟩
 .have h:c=11:=Su h;have l:Qd7 c src p i m t num a v=⟨src,num,a,c,⟨#[]⟩,i,(v:Nat),t⟩:=by unfold Qd7;rw[if_neg S,if_pos h]
  refine Gg ?_;refine(ae au ay).mono ?_;rintro _ bq ⟨rfl,aq⟩;refine Gg ?_;refine Qc Qb (e:=ty9) (off:=5) rfl (u.ext aq) rfl rfl rfl Oj fun R A C=>(Gg ?_)
  refine Qc Qb (e:=ty3) (off:=6) rfl A rfl rfl rfl Oj fun wb H I=>(Gg ?_)
  refine Qc Qb (e:=ty9) (off:=7) rfl H rfl rfl rfl Oj fun ai gc af=>(Gg ?_)
  have j:At ai g 69 (evC (Qd7 c src p i m t num a v)):=by rw[l];exact gc
  have n:=af.ext (I.ext (C.ext (x.trans aq) y) y) y;clear l;generalize Qd7 c src p i m t num a v=e at j⊢;refine⟨evC e,⟨rfl,j.all⟩,Gg ?_⟩;refine Qc Qb (e:=ty69) rfl (F.ext n) rfl rfl rfl (Qbn e) fun D f B=>?_
  have f:At D p6 69 (evC e):=f;refine Gg ?_;refine⟨evC e,⟨rfl,f.all⟩,Gg ?_⟩;exact⟨rfl,B.ext (hx.trans n) Om⟩
 have W:¬c=11:=Su h;refine Hh ?_;refine⟨fun h=>?_,fun h=>?_⟩
 .have h:c=12:=Su h;have l:Qd7 c src p i m t num a v=⟨src,num,a,c,⟨#[]⟩,i,(v%3:Nat),⟨#[]⟩⟩:=by unfold Qd7;rw[if_neg S,if_neg W,if_pos h]
  refine Gg ?_;refine⟨((v%3:Nat):Int),tmn (b:=3) (by decide),Gg ?_⟩;refine Qc Qb (e:=ty9) (off:=5) rfl u rfl rfl rfl Oj fun R A C=>(Gg ?_)
  refine Qc Qb (e:=ty3) (off:=6) rfl A rfl rfl rfl Oj fun wb H I=>(Gg ?_)
  have j:At wb g 69 (evC (Qd7 c src p i m t num a v)):=by rw[l];exact H
  have n:=I.ext (C.ext x y) y;clear l;generalize Qd7 c src p i m t num a v=e at j⊢;refine⟨evC e,⟨rfl,j.all⟩,Gg ?_⟩;refine Qc Qb (e:=ty69) rfl (F.ext n) rfl rfl rfl (Qbn e) fun D f B=>?_
  have f:At D p6 69 (evC e):=f;refine Gg ?_;refine⟨evC e,⟨rfl,f.all⟩,Gg ?_⟩;exact⟨rfl,B.ext (hx.trans n) Om⟩
 have ab:¬c=12:=Su h;refine Hh ?_;refine⟨fun h=>?_,fun h=>?_⟩
 .have h:c=13:=Su h;have l:Qd7 c src p i m t num a v=⟨src,num,a,c,⟨#[]⟩,i,0,⟨#[]⟩⟩:=by unfold Qd7;rw[if_neg S,if_neg W,if_neg ab,if_pos h]
  refine Gg ?_;refine Qc Qb (e:=ty9) (off:=5) rfl u rfl rfl rfl Oj fun R A C=>(Gg ?_)
  have j:At R g 69 (evC (Qd7 c src p i m t num a v)):=by rw[l];exact A
  have n:=C.ext x y;clear l;generalize Qd7 c src p i m t num a v=e at j⊢;refine⟨evC e,⟨rfl,j.all⟩,Gg ?_⟩;refine Qc Qb (e:=ty69) rfl (F.ext n) rfl rfl rfl (Qbn e) fun D f B=>?_
  have f:At D p6 69 (evC e):=f;refine Gg ?_;refine⟨evC e,⟨rfl,f.all⟩,Gg ?_⟩;exact⟨rfl,B.ext (hx.trans n) Om⟩
 have aj:¬c=13:=Su h;refine Hh ?_;refine⟨fun h=>?_,fun h=>?_⟩
 .have h:c=4:=Su h;have l:Qd7 c src p i m t num a v=⟨src,num,a,c,p,i,(1+v%5:Nat),⟨#[]⟩⟩:=by unfold Qd7;rw[if_neg S,if_neg W,if_neg ab,if_neg aj,if_pos h]
  refine Gg ?_;refine⟨((v%5:Nat):Int),tmn (b:=5) (by decide),Gg ?_⟩;refine⟨((1+v%5:Nat):Int),by rw[<- wrap_i64 ⟨Om,Om⟩];push_cast;rfl,Gg ?_⟩;refine Qc Qb (e:=ty9) (off:=4) rfl u rfl rfl rfl Oj fun R A C=>(Gg ?_)
  refine Qc Qb (e:=ty9) (off:=5) rfl A rfl rfl rfl Oj fun wb H I=>(Gg ?_)
  refine Qc Qb (e:=ty3) (off:=6) rfl H rfl rfl rfl Oj fun ai gc af=>(Gg ?_)
  have j:At ai g 69 (evC (Qd7 c src p i m t num a v)):=by rw[l];exact gc
  have n:=af.ext (I.ext (C.ext x y) y) y;clear l;generalize Qd7 c src p i m t num a v=e at j⊢;refine⟨evC e,⟨rfl,j.all⟩,Gg ?_⟩;refine Qc Qb (e:=ty69) rfl (F.ext n) rfl rfl rfl (Qbn e) fun D f B=>?_
  have f:At D p6 69 (evC e):=f;refine Gg ?_;refine⟨evC e,⟨rfl,f.all⟩,Gg ?_⟩;exact⟨rfl,B.ext (hx.trans n) Om⟩
 have aw:¬c=4:=Su h;have l:Qd7 c src p i m t num a v=⟨src,num,a,c,p,i,0,⟨#[]⟩⟩:=by unfold Qd7;rw[if_neg S,if_neg W,if_neg ab,if_neg aj,if_neg aw]
 refine Gg ?_;refine Qc Qb (e:=ty9) (off:=4) rfl u rfl rfl rfl Oj fun R A C=>(Gg ?_)
 refine Qc Qb (e:=ty9) (off:=5) rfl A rfl rfl rfl Oj fun wb H I=>(Gg ?_)
 have j:At wb g 69 (evC (Qd7 c src p i m t num a v)):=by rw[l];exact H
 have n:=I.ext (C.ext x y) y;clear l;generalize Qd7 c src p i m t num a v=e at j⊢;refine⟨evC e,⟨rfl,j.all⟩,Gg ?_⟩;refine Qc Qb (e:=ty69) rfl (F.ext n) rfl rfl rfl (Qbn e) fun D f B=>?_
 have f:At D p6 69 (evC e):=f;refine Gg ?_;refine⟨evC e,⟨rfl,f.all⟩,Gg ?_⟩;exact⟨rfl,B.ext (hx.trans n) Om⟩
def taC(c:Cfg)(a:Nat->Int)(every seed:Int)(A:Option Addr)(n cap:Nat)(t:Int):List Value:=Qas c a every seed++[.slice A n cap,vi t]
theorem Xhu:Qle Tryz.prog 62 71 Q6y 13 144:=⟨by kernel_rfl,⟨_,ty71_ok,rfl,rfl⟩,by kernel_rfl,by decide,by decide,Q3l,Q3m⟩
theorem Xh6:Tryz.prog.underlying 125=some (.map 9 3):=by kernel_rfl
structure PaH(w0:World)(n0 p1 p2 p6:Nat)(V1 V2 V6:List Value)(B:Option Addr)(d:Nat)(S:List Stp)(w:World):Prop where
 ext:Ext w0 w
 a1:At w p1 22 V1
 a2:At w p2 64 V2
 a6:At w p6 64 V6
 own:Own Q6y 13 71 n0 w B d S
section
variable {w0:World}{n0 p1 p2 p6:Nat}{V1 V2 V6:List Value}{B:Option Addr}{d:Nat}{S:List Stp}{w w':World}
theorem PaH.ex(h:PaH w0 n0 p1 p2 p6 V1 V2 V6 B d S w)(hx:Ext w w'):PaH w0 n0 p1 p2 p6 V1 V2 V6 B d S w':=⟨h.ext.trans hx,h.a1.ext hx,h.a2.ext hx,h.a6.ext hx,h.own.ext hx⟩
theorem PaH.only(h:PaH w0 n0 p1 p2 p6 V1 V2 V6 B d S w){b}(c:Only w w' b)(e:w0.heap.size<=b)(f:p1≠b)(g:p2≠b)(i:p6≠b)(j:∀a,B=some a->a.block≠b):PaH w0 n0 p1 p2 p6 V1 V2 V6 B d S w':=
 ⟨c.ext h.ext e,c.at_ h.a1 f,c.at_ h.a2 g,c.at_ h.a6 i,h.own.keep fun a k=>c.block _ (j a k)⟩
end
theorem Qnj{w w'}{b t n0:Nat}{l row}(h:At w b t l)(a:w.grownBy w' row)(c:row≠some b):At w' b t l:=(a.block b h.lt fun e=>c e.symm).trans h
def ev0:Ev:=⟨⟨#[]⟩,0,0,0,⟨#[]⟩,⟨#[]⟩,0,⟨#[]⟩⟩
theorem Q2t{w a}{L:List (Bj×Int)}(c:MapAt w a Value.string (Xj vi L))(s:Bj):RdS Tryz.prog .same w (Instr.lookup 125 (.map (some a)) (.string s) false) (Vj (Qnm L s)):=by
 have b:=X5 Xh6 (Qr Xd) (e:=ty3) ty3_ok (cl:= .same) Qs c s;rw[show ty3.zero=vi 0 from rfl,Xt]at b;exact b
set_option maxHeartbeats 8000000 in
theorem Qr4(bs A cp w)(hg:Gl w)(hkn:Q71 w)(hs:Sl u8C 1 w A bs)(hb:∀x∈bs,x<256)(hl:bs.length<=300) :
 Cal Tryz.prog 16 [.slice A bs.length cp] w fun r w'=>∃c every seed B d S L t,r=.agg (taC c (Qbp 6) every seed B S.length d t).toArray/\(Qu7 c=true/\(0<=every/\every<=3)/\(0<=seed/\seed<=255))/\Qqt S L t/\5*S.length<=bs.length/\Sl Q6y 13 w' B S/\Ext w w':=by
 have hgs:=hg.size
 have hget:∀i,bs.getD i 0<256:=fun i=>by
  by_cases h:i<bs.length
  .rw[show bs.getD i 0=bs[i] by simp[List.getD,h]];exact hb _ (Zu h)
  .rw[show bs.getD i 0=0 by simp[List.getD,Nat.not_lt.1 h]]
   decide
 refine Fi Tryz.func16 rfl _ rfl rfl (Hh ?_);intro p1 w1 hn1;refine Gg ?_;have g1:At w1 p1 22 [.slice A bs.length cp]:=hn1.At;have e1:=hn1.block;have s1:=hn1.size;intro p2 w2 hn2;have g2:At w2 p2 64 (Qg ty64.zero):=hn2.At;have e2:=hn2.block;have s2:=hn2.size;replace g1:=g1.ext hn2.ext;have hx:=hn1.ext.trans hn2.ext;clear hn1 hn2;refine Gg ?_;intro p4 w3 hn3;have g4:At w3 p4 123 (Qos 8 (fun i=>bs.getD i 0) 0):=hn3.At;have e4:=hn3.block;have s3:=hn3.size;replace g1:=g1.ext hn3.ext;replace g2:=g2.ext hn3.ext;replace hx:=hx.trans hn3.ext;clear hn3;refine Gg ?_
 refine Qh Qb (fun(k:Nat) w'=>k<=8/\Ext w w'/\w3.heap.size<=w'.heap.size/\At w' p1 22 [.slice A bs.length cp]/\At w' p2 64 (Qg ty64.zero)/\At w' p4 123 (Qos 8 (fun i=>bs.getD i 0) k))
  (fun k=>[(1,Pj p1),(2,Pj p2),(3,.func (.func 44) #[] #[Pj p1]),(4,Pj p4),(16,Vj (k:Nat))]) (fun k=>8-k) 0 ⟨Om,hx,Zf _,g1,g2,g4⟩ Rr ?_
 clear hx g1 g2 g4;rintro k w4 ⟨hk,hx,hsz,g1,g2,g4⟩;refine Hh ?_;constructor
 .intro hlt;have hlt:k<8:=(by have:(k:Int)<8:=Su hlt;omega);refine Gg ?_;refine(Q3s p1 bs A cp w4 g1 (hs.ext hx) hb k).mono ?_;rintro _ w5 ⟨rfl,hw⟩;replace hw:=hw.symm;subst hw;refine Gg ?_;refine⟨⟨Om,Om⟩,Gg ?_⟩;refine Qsf (f:=fun i=>bs.getD i 0) hlt g4 rfl fun w6 g6 ho6=>(Gg ?_)
  refine⟨_,wrap_succ Om,Gg ?_⟩;exact⟨k+1,Om,⟨Om,ho6.ext hx Om,by rw[ho6.size];exact hsz,ho6.at_ g1 Om,ho6.at_ g2 Om,g6⟩,Rr⟩
 intro hge;have hge:k=8:=(by have:¬(k:Int)<8:=Su hge;omega);subst hge;have g4:At w4 p4 123 [vi (bs.getD 0 0:Nat),vi (bs.getD 1 0:Nat),vi (bs.getD 2 0:Nat),vi (bs.getD 3 0:Nat),vi (bs.getD 4 0:Nat),vi (bs.getD 5 0:Nat),vi (bs.getD 6 0:Nat),vi (bs.getD 7 0:Nat)]:=g4;refine Gg ?_;refine⟨[vi (bs.getD 0 0:Nat),vi (bs.getD 1 0:Nat),vi (bs.getD 2 0:Nat),vi (bs.getD 3 0:Nat),vi (bs.getD 4 0:Nat),vi (bs.getD 5 0:Nat),vi (bs.getD 6 0:Nat),vi (bs.getD 7 0:Nat)],⟨rfl,g4.all⟩,Gg ?_⟩;refine(Qun (bs.getD 0 0) (bs.getD 1 0) (bs.getD 2 0) (bs.getD 3 0) (bs.getD 4 0) (bs.getD 5 0) (bs.getD 6 0) (bs.getD 7 0) (hget 0) (hget 1) (hget 2) (hget 3) (hget 4) (hget 5) (hget 6) (hget 7) w4).mono ?_;rintro _ w5 ⟨rfl,hx5⟩;have hcf:Qu7 (Xip (bs.getD 0 0:Nat) (bs.getD 1 0:Nat) (bs.getD 2 0:Nat) (bs.getD 3 0:Nat) (bs.getD 4 0:Nat) (bs.getD 5 0:Nat))=true:=(by have q0:=hget 0;have q1:=hget 1;have q2:=hget 2;have q3:=hget 3;have q4:=hget 4;have q5:=hget 5;exact Xel ⟨Om,Om⟩ ⟨Om,Om⟩ ⟨Om,Om⟩ ⟨Om,Om⟩ ⟨Om,Om⟩ ⟨Om,Om⟩);generalize Xip (bs.getD 0 0:Nat) (bs.getD 1 0:Nat) (bs.getD 2 0:Nat) (bs.getD 3 0:Nat) (bs.getD 4 0:Nat) (bs.getD 5 0:Nat)=c at hcf⊢;have hev:0<=((bs.getD 6 0%4:Nat):Int)/\((bs.getD 6 0%4:Nat):Int)<=3:=Om;have hsd:0<=((bs.getD 7 0:Nat):Int)/\((bs.getD 7 0:Nat):Int)<=255:=by have:=hget 7;omega
 generalize ((bs.getD 6 0%4:Nat):Int)=every at hev⊢;generalize ((bs.getD 7 0:Nat):Int)=seed at hsd⊢;replace g1:=g1.ext hx5;replace g2:=g2.ext hx5;replace hx:=hx.trans hx5;have z5:=hx5.size;clear hx5 g4;refine Gg ?_;intro p6 w6 hn6;refine Gg ?_;refine Qc Qb (e:=ty64) rfl hn6.At rfl rfl rfl (by simp[Qg,Qas,Value.oneCell']) fun w7 g6 ho7=>?_
 have g6:At w7 p6 64 (taC c (Qbp 6) every seed none 0 0 1000):=g6;have e6:=hn6.block;have hx57:Ext w5 w7:=ho7.ext hn6.ext Om;have z7:=hx57.size;replace g1:=g1.ext hx57;replace g2:=g2.ext hx57;replace hx:=hx.trans hx57;clear ho7 hn6 hx57;refine Gg ?_;intro bm w8 hn8;have hm:MapAt w8 bm Value.string (Xj vi ([]:List (Bj×Int))):=MapAt.new hn8;have e8:=hn8.block;have z8:=hn8.size;have l6:=g6.lt;have hP:PaH w w8.heap.size p1 p2 p6 [.slice A bs.length cp] (Qg ty64.zero) (taC c (Qbp 6) every seed none 0 0 1000) none 0 [] w8:=⟨hx.trans hn8.ext,g1.ext hn8.ext,g2.ext hn8.ext,g6.ext hn8.ext,Own.nil⟩;clear hn8 g1 g2 g6 hx;have q1:p1<p2/\p2<p6/\p6<bm/\bm<w8.heap.size/\w.heap.size<=p1:=Om;clear e1 s1 e2 s2 e4 s3 z5 e6 z7 e8 z8 l6 hsz;refine Gg ?_
 refine Qh Qb (fun(x:List Stp×List (Bj×Int)×Option Addr×Nat×Int) w'=>5*x.1.length<=bs.length/\Qqt x.1 x.2.1 x.2.2.2.2/\MapAt w' bm Value.string (Xj vi x.2.1)/\w8.heap.size<=w'.heap.size/\PaH w w8.heap.size p1 p2 p6 [.slice A bs.length cp] (Qg ty64.zero) (taC c (Qbp 6) every seed x.2.2.1 x.1.length x.2.2.2.1 x.2.2.2.2) x.2.2.1 x.2.2.2.1 x.1 w')
  (fun|(S,L,B,d,t)=>[(1,Pj p1),(2,Pj p2),(3,.func (.func 44) #[] #[Pj p1]),(6,Pj p6),(7,.map (some bm)),(8,Vj ((8+5*S.length:Nat):Int))]) (fun x=>bs.length-5*x.1.length) ([],[],none,0,1000) ⟨by simp,Xgl,hm,Zf _,hP⟩ Rr ?_
 clear hm hP;rintro ⟨S,L,B,d,t⟩ w9 ⟨hk,hT,hm,h89,hP⟩;simp only at hk hT hm hP;refine Hh ?_;refine⟨.slice A bs.length cp,hP.a1.one0,Hh ?_⟩;constructor
 .intro hlt;have hlt:8+5*S.length<bs.length:=(by have:(((8+5*S.length:Nat)):Int)<bs.length:=Su hlt;omega);have hSl:S.length<=59:=Om;have hBl:∀a,B=some a->w8.heap.size<=a.block/\a.block<w9.heap.size:=fun a ha=>hP.own.block ha
  refine Gg ?_;intro p9 wa hna;have g9:At wa p9 126 (Qos 5 (fun j=>bs.getD (8+5*S.length+j) 0) 0):=hna.At;have e9:=hna.block;have xa:=hna.ext;clear hna;refine Gg ?_
  refine Qh Qb (fun(j:Nat) w'=>j<=5/\Ext w9 w'/\At w' p9 126 (Qos 5 (fun j=>bs.getD (8+5*S.length+j) 0) j))
   (fun j=>[(1,Pj p1),(2,Pj p2),(3,.func (.func 44) #[] #[Pj p1]),(6,Pj p6),(7,.map (some bm)),(8,Vj ((8+5*S.length:Nat):Int)),(9,Pj p9),(35,Vj (j:Nat))]) (fun j=>5-j) 0 ⟨Om,xa,g9⟩ Rr ?_
  clear xa g9;rintro j wb ⟨hj,xb,g9⟩;refine Hh ?_;constructor
  .intro hlj;have hlj:j<5:=(by have:(j:Int)<5:=Su hlj;omega);refine Gg ?_;refine⟨((8+5*S.length+j:Nat):Int),Qbc Om,Gg ?_⟩;refine(Q3s p1 bs A cp wb (hP.a1.ext xb) (hs.ext (hP.ext.trans xb)) hb (8+5*S.length+j)).mono ?_;rintro _ w5 ⟨rfl,hw⟩;replace hw:=hw.symm;subst hw;refine Gg ?_;refine⟨⟨Om,Om⟩,Gg ?_⟩;refine Qsf (f:=fun j=>bs.getD (8+5*S.length+j) 0) hlj g9 rfl fun wc gc hoc=>(Gg ?_)
   refine⟨_,wrap_succ Om,Gg ?_⟩;exact⟨j+1,Om,⟨Om,hoc.ext xb Om,gc⟩,Rr⟩
  intro hgj;have hgj:j=5:=(by have:¬(j:Int)<5:=Su hgj;omega);subst hgj;have f0:=hget (8+5*S.length+0);have f1:=hget (8+5*S.length+1);have f2:=hget (8+5*S.length+2);have f3:=hget (8+5*S.length+3);have f4:=hget (8+5*S.length+4);have g9:At wb p9 126 [vi (bs.getD (8+5*S.length+0) 0:Nat),vi (bs.getD (8+5*S.length+1) 0:Nat),vi (bs.getD (8+5*S.length+2) 0:Nat),vi (bs.getD (8+5*S.length+3) 0:Nat),vi (bs.getD (8+5*S.length+4) 0:Nat)]:=g9;generalize bs.getD (8+5*S.length+0) 0=x0 at f0 g9;generalize bs.getD (8+5*S.length+1) 0=x1 at f1 g9;generalize bs.getD (8+5*S.length+2) 0=x2 at f2 g9;generalize bs.getD (8+5*S.length+3) 0=x3 at f3 g9;generalize bs.getD (8+5*S.length+4) 0=x4 at f4 g9;refine Gg ?_;refine⟨Vj t,(hP.a6.ext xb).one rfl,Gg ?_⟩;intro p11 wc hnc;refine Gg ?_;refine Qc Qb (e:=ty71) rfl hnc.At rfl rfl rfl Oj fun wd g11 hod=>?_
  have g11:At wd p11 71 (Q6y ⟨0,ev0,⟨#[]⟩,t,0,0⟩):=g11;have e11:=hnc.block;have zb:=xb.size;have xd:Ext w9 wd:=hod.ext (xb.trans hnc.ext) Om;have l9:=g9.lt;have hne:p9≠p11:=Om;replace g9:=hod.at_ (g9.ext hnc.ext) hne;clear hod hnc xb;have tick:=hT.end_;have hnm:=Xgm hT Om;refine Gg ?_;refine⟨⟨by decide,by decide⟩,Gg ?_⟩;refine⟨Vj (x3:Nat),g9.one rfl,Hh ?_⟩
  refine Xi Qb (ι:=Stp×List (Bj×Int)) (fun _=>[(1,Pj p1),(2,Pj p2),(3,.func (.func 44) #[] #[Pj p1]),(6,Pj p6),(7,.map (some bm)),(8,Vj ((8+5*S.length:Nat):Int)),(9,Pj p9),(11,Pj p11)])
   (fun y w'=>PaH w w8.heap.size p1 p2 p6 [.slice A bs.length cp] (Qg ty64.zero) (taC c (Qbp 6) every seed B S.length d t) B d S w'/\w9.heap.size<=w'.heap.size/\MapAt w' bm Value.string (Xj vi y.2)/\At w' p9 126 [vi (x0:Nat),vi (x1:Nat),vi (x2:Nat),vi (x3:Nat),vi (x4:Nat)]/\At w' p11 71 (Q6y y.1)/\∀δ:Int,0<=δ/\δ<=15->Qqt (S++[y.1]) y.2 (t+δ)) ?_ ?_
  . -- one of the kinds of steps
    have oth:∀(s:Stp) (w':World),Ext w9 w'->At w' p9 126 [vi (x0:Nat),vi (x1:Nat),vi (x2:Nat),vi (x3:Nat),vi (x4:Nat)]->At w' p11 71 (Q6y s)->s.what≠0 ->
     (PaH w w8.heap.size p1 p2 p6 [.slice A bs.length cp] (Qg ty64.zero) (taC c (Qbp 6) every seed B S.length d t) B d S w'/\w9.heap.size<=w'.heap.size/\MapAt w' bm Value.string (Xj vi L)/\At w' p9 126 [vi (x0:Nat),vi (x1:Nat),vi (x2:Nat),vi (x3:Nat),vi (x4:Nat)]/\At w' p11 71 (Q6y s)/\∀δ:Int,0<=δ/\δ<=15->Qqt (S++[s]) L (t+δ)):=
     fun s w' hxw h9 h11 hw=>⟨hP.ex hxw,hxw.size,hm.ext hxw,h9,h11,fun δ hδ=>Q66 hT hw hδ⟩
    refine Gg ?_;refine⟨⟨by decide,by decide⟩,Gg ?_⟩;refine⟨Vj (x0:Nat),g9.one rfl,Gg ?_⟩;refine⟨((x0%16:Nat):Int),tmn (b:=16) (by decide),Gg ?_⟩;refine⟨fun h=>?_,fun h=>?_⟩
    .refine Gg ?_;refine Qc Qb (e:=ty66) (off:=0) rfl g11 rfl rfl rfl Oj fun we ge hoe=>(Gg ?_)
     refine Qc Qb (e:=ty3) (off:=12) rfl ge rfl rfl rfl Oj fun wf gf hof=>(Gg ?_)
     exact⟨(⟨1,ev0,⟨#[]⟩,t,0,(x3:Nat)⟩,L),oth _ _ (hof.ext (hoe.ext xd Om) Om) (hof.at_ (hoe.at_ g9 hne) hne) gf (show (1:Int)≠0 by decide),Rr⟩
    have h13:¬x0%16=13:=(by have:¬((x0%16:Nat):Int)=13:=Su h;omega);refine Gg ?_;refine⟨((x3%2:Nat):Int),fun _=>tmn (b:=2) (by decide),Gg ?_⟩;refine⟨fun h=>?_,fun h=>?_⟩
    .refine Gg ?_;refine Qc Qb (e:=ty66) (off:=0) rfl g11 rfl rfl rfl Oj fun we ge hoe=>(Gg ?_)
     refine Qc Qb (e:=ty3) (off:=11) rfl ge rfl rfl rfl Oj fun wf gf hof=>(Gg ?_)
     exact⟨(⟨2,ev0,⟨#[]⟩,t,(x3:Nat),0⟩,L),oth _ _ (hof.ext (hoe.ext xd Om) Om) (hof.at_ (hoe.at_ g9 hne) hne) gf (show (2:Int)≠0 by decide),Rr⟩
    refine Gg ?_;refine⟨fun h=>?_,fun h=>?_⟩
    .refine Gg ?_;refine Qc Qb (e:=ty66) (off:=0) rfl g11 rfl rfl rfl Oj fun we ge hoe=>(Gg ?_)
     exact⟨(⟨3,ev0,⟨#[]⟩,t,0,0⟩,L),oth _ _ (hoe.ext xd Om) (hoe.at_ g9 hne) ge (show (3:Int)≠0 by decide),Rr⟩
    have h14:¬x0%16=14:=(by have:¬((x0%16:Nat):Int)=14:=Su h;omega);refine Gg ?_;refine⟨fun h=>?_,fun h=>?_⟩
    .refine Gg ?_;refine⟨⟨by decide,by decide⟩,Gg ?_⟩;refine⟨Vj (x1:Nat),g9.one rfl,Gg ?_⟩;refine⟨((x1%4:Nat):Int),tmn (b:=4) (by decide),Gg ?_⟩;refine(Qa2 112 (x1%4) Om wd ((hg.ext hP.ext).ext xd)).mono ?_;rintro _ wn ⟨rfl,hxn⟩;refine Gg ?_;refine Qc Qb (e:=ty66) (off:=0) rfl (g11.ext hxn) rfl rfl rfl Oj fun we ge hoe=>(Gg ?_)
     refine Qc Qb (e:=ty9) (off:=9) rfl ge rfl rfl rfl Oj fun wf gf hof=>(Gg ?_)
     exact⟨(⟨4,ev0,nb 112 (x1%4),t,0,0⟩,L),oth _ _ (hof.ext (hoe.ext (xd.trans hxn) Om) Om) (hof.at_ (hoe.at_ (g9.ext hxn) hne) hne) gf (show (4:Int)≠0 by decide),Rr⟩
    have h15:¬x0%16=15:=(by have:¬((x0%16:Nat):Int)=15:=Su h;omega);have hk13:x0%16<13:=Om;clear oth;refine Gg ?_;refine⟨⟨by decide,by decide⟩,Gg ?_⟩;refine⟨Vj (x0:Nat),g9.one rfl,Gg ?_⟩;refine⟨((x0/16:Nat):Int),tdn (b:=16) Om (by decide),Gg ?_⟩;refine⟨((x0/16%2:Nat):Int),tmn (b:=2) (by decide),Gg ?_⟩;refine(Qa2 115 (x0/16%2) Om wd ((hg.ext hP.ext).ext xd)).mono ?_;rintro _ wn ⟨rfl,hxn⟩;have hsm:=Xgs (b1:=x1) (b2:=x2) hk13 f3 (hnm (nb 115 (x0/16%2)) |> fun h=>⟨h.1,h.2.1⟩) ⟨(hnm ⟨#[]⟩).2.2.1,(hnm ⟨#[]⟩).2.2.2⟩;have hmn:=hm.ext (xd.trans hxn);have hPn:=hP.ex (xd.trans hxn);replace g9:=g9.ext hxn;replace g11:=g11.ext hxn;have zn:=(xd.trans hxn).size;have hcn:=hnm (nb 115 (x0/16%2));clear hm hxn xd;refine Gg ?_;refine⟨_,Q2t hmn _,Gg ?_⟩;refine⟨Qnm L (nb 115 (x0/16%2))+1,wrap_i64 ⟨Om,Om⟩,Gg ?_⟩;refine Qx Xh6 (Qr Xd) hmn (nb 115 (x0/16%2)) (vi (Qnm L (nb 115 (x0/16%2))+1)) fun wo hmo hoo=>?_
    rw[Xc]at hmo;replace hPn:=hPn.only hoo Om Om Om Om (fun a ha=>by have:=(hBl a ha).1;omega);replace g9:=hoo.at_ g9 Om;replace g11:=hoo.at_ g11 Om;rw[<- hoo.size]at zn;clear hoo hmn;refine Gg ?_;refine⟨[vi (x0:Nat),vi (x1:Nat),vi (x2:Nat),vi (x3:Nat),vi (x4:Nat)],⟨rfl,g9.all⟩,Gg ?_⟩;have hlk:=Q2t hmo (nb 115 (x0/16%2));rw[show Qnm (Xe L (nb 115 (x0/16%2)) (Qnm L (nb 115 (x0/16%2))+1)) (nb 115 (x0/16%2))=Qnm L (nb 115 (x0/16%2))+1 by unfold Qnm;rw[Q8];rfl]at hlk;refine⟨_,hlk,Gg ?_⟩;refine⟨Vj t,hPn.a6.one rfl,Gg ?_⟩;refine(Xdn x0 x1 x2 x3 x4 (Qnm L (nb 115 (x0/16%2))+1) t hk13 f0 f1 f2 f3 ⟨hcn.2.2.1,hcn.2.2.2⟩ wo (hg.ext hPn.ext) (hkn.ext hPn.ext)).mono ?_;rintro _ wt ⟨rfl,hxt⟩;generalize Qyd x0 x1 x2 x3 (Qnm L (nb 115 (x0/16%2))+1) t=e at hsm⊢;replace hPn:=hPn.ex hxt;replace g9:=g9.ext hxt;replace g11:=g11.ext hxt;replace hmo:=hmo.ext hxt;replace zn:=Zw zn hxt.size;clear hlk hxt;refine Gg ?_;refine Qc Qb (e:=ty66) (off:=0) rfl g11 rfl rfl rfl Oj fun we ge hoe=>(Gg ?_)
    refine Qc Qb (e:=ty69) (off:=1) rfl ge rfl rfl rfl (Qbn e) fun wf gf hof=>(Gg ?_)
    have hBn:∀a,B=some a->a.block≠p11:=fun a ha=>by have:=(hBl a ha).2;omega
    refine⟨(⟨0,e,⟨#[]⟩,t,0,0⟩,Xe L (nb 115 (x0/16%2)) (Qnm L (nb 115 (x0/16%2))+1)),⟨(hPn.only hoe Om Om Om Om hBn).only hof Om Om Om Om hBn,by rw[hof.size,hoe.size];exact zn,(hmo.only hoe Om).only hof Om,hof.at_ (hoe.at_ g9 hne) hne,gf,fun δ hδ=>?_⟩,Rr⟩
    have:=Xdk hT (s:=⟨0,e,⟨#[]⟩,t,0,0⟩) rfl hδ hsm.1 hsm.2.1 (by rw[hsm.2.2.2,hsm.2.2.1]) (by
     rw[show (⟨0,e,⟨#[]⟩,t,0,0⟩:Stp).ev.src=nb 115 (x0/16%2) from hsm.2.2.1];rcases (show x0/16%2=0\/x0/16%2=1 by omega) with h|h
     .exact .inl (by rw[h])
     .exact .inr (by rw[h]))
    rw[show (⟨0,e,⟨#[]⟩,t,0,0⟩:Stp).ev.src=nb 115 (x0/16%2) from hsm.2.2.1]at this;exact this
  rintro ⟨s,L'⟩ we ⟨hP,z9,hm,g9,g11,hTI⟩;simp only at hm g11 hTI;clear hT hnm;refine Gg ?_;refine⟨.slice B S.length d,hP.a6.one rfl,Gg ?_⟩;refine⟨Q6y s,⟨rfl,g11.all⟩,Gg ?_⟩;intro pb wb2 hnb;refine Gg ?_;have hPb:=hP.ex hnb.ext;have zb2:=hnb.ext.size;refine Qq Xhu (l:=S) (news:= [s]) rfl hPb.own rfl (Xhu.new1 (x:=s) hnb) (by simp;omega) Om fun A7 c7 w7 hown7 hg7 hA7=>?_
  have hr:∀q,(q<w8.heap.size\/w9.heap.size<=q)->B.map (·.block)≠some q:=fun q hq e=>by
   cases B with
   |none=>simp at e
   |some a =>
    have:=hBl a rfl;simp at e;omega
  have x7:Ext w w7:=Qu hPb.ext hg7 (fun k hk=>by have:=Xm hPb.own k hk;omega);have a1:=Qnj (n0:=0) hPb.a1 hg7 (hr _ Om);have a2:=Qnj (n0:=0) hPb.a2 hg7 (hr _ Om);have a6:=Qnj (n0:=0) hPb.a6 hg7 (hr _ Om);have a9:=Qnj (n0:=0) (g9.ext hnb.ext) hg7 (hr _ Om);have hmb:=(hm.ext hnb.ext).keep (hg7.block bm (hm.ext hnb.ext).lt fun e=>hr bm Om e.symm);have hTI4:=hTI ((x4%16:Nat):Int) ⟨Om,Om⟩;have hl2:(S++[s]).length=S.length+1:=by simp
  have z7:=hg7.size;clear hP hPb hnb g9 g11 hm hTI hg7;generalize S++[s]=S2 at hown7 hTI4 hl2⊢;refine Gg ?_;refine Qc Qb (e:=ty62) (off:=22) rfl a6 rfl rfl rfl Oj fun wg gg hog=>?_
  have gg:At wg p6 64 (taC c (Qbp 6) every seed A7 S2.length c7 t):=gg;refine Gg ?_;refine⟨Vj t,gg.one rfl,Gg ?_⟩;refine⟨⟨by decide,by decide⟩,Gg ?_⟩;refine⟨Vj (x4:Nat),(hog.at_ a9 Om).one rfl,Gg ?_⟩;refine⟨((x4%16:Nat):Int),tmn (b:=16) (by decide),Gg ?_⟩;refine⟨t+((x4%16:Nat):Int),wrap_i64 ⟨Om,Om⟩,Gg ?_⟩;refine Qc Qb (e:=ty3) (off:=23) rfl gg rfl rfl rfl Oj fun wh gh hoh=>?_
  have gh:At wh p6 64 (taC c (Qbp 6) every seed A7 S2.length c7 (t+((x4%16:Nat):Int))):=gh;refine Gg ?_;have z8:((8+5*S2.length:Nat):Int)=IntKind.i64.wrap (((8+5*S.length:Nat):Int)+5):=(by rw[<- wrap_i64 ⟨Om,Om⟩];omega);refine⟨((8+5*S2.length:Nat):Int),z8,Gg ?_⟩;have hAb:∀a,A7=some a->a.block≠p6:=fun a ha=>by have:=(hown7.block ha).1;omega
  refine⟨(S2,L',A7,c7,t+((x4%16:Nat):Int)),Sj,⟨Sj,hTI4,(hmb.only hog Om).only hoh Om,by rw[hoh.size,hog.size];omega,⟨hoh.ext (hog.ext x7 Om) Om,hoh.at_ (hog.at_ a1 Om) Om,hoh.at_ (hog.at_ a2 Om) Om,gh,(hown7.keep fun a ha=>hog.block _ (hAb a ha)).keep fun a ha=>hoh.block _ (hAb a ha)⟩⟩,Rr⟩
 .intro _;have hn2:w.heap.size<=p2:=Om;refine Gg ?_;refine⟨taC c (Qbp 6) every seed B S.length d t,⟨rfl,hP.a6.all⟩,Gg ?_⟩;refine Qc Qb (e:=ty64) rfl hP.a2 rfl rfl rfl (by simp[Qg,taC,Qas,Value.oneCell']) fun wf gf hof=>?_
  have gf:At wf p2 64 (taC c (Qbp 6) every seed B S.length d t):=gf;refine Gg ?_;refine⟨taC c (Qbp 6) every seed B S.length d t,⟨rfl,gf.all⟩,Gg ?_⟩;exact⟨c,every,seed,B,d,S,L,t,rfl,⟨hcf,hev,hsd⟩,hT,hk,(hP.own.keep fun a ha=>hof.block _ (by have:=(hP.own.block ha).1;omega)).sl Q3l,hof.ext hP.ext hn2⟩
theorem Q7b(S:List Stp)(k)(a:k<S.length):Qeh (S.take (k+1))=Qeh (S.take k)++if S[k].what=0 then [S[k].ev] else []:=by
 rw[Qdb S k a,Ql7]
set_option maxHeartbeats 2000000 in
theorem Qyx(o A aa w)(aq:Gl w)(av:Q71 w)(a3:Sl u8C 1 w A o)(an:∀x∈o,x<256) :
 Cal Tryz.prog 4 [.slice A o.length aa] w fun r w'=>Ext w w'/\(r=.tuple #[.slice none 0 0,ty32.zero,Vj 0,.bool false] \/
  ∃c every seed B d l t,r=.tuple #[.slice B l.length d,.agg (Qas c (Qbp 6) every seed).toArray,Vj t,.bool true]/\(Qu7 c=true/\(0<=every/\every<=3)/\(0<=seed/\seed<=255))/\(Qiv l/\∀e∈l,e.src=nb 115 0\/e.src=nb 115 1)/\l.length<=60/\(0<=t/\t<=1000000)/\Own evC 8 69 w.heap.size w' B d l):=by
 refine Fi Tryz.func4 rfl _ rfl rfl (Hh ?_);intro j ai y;refine Gg ?_;have f:At ai j 32 (Qg ty32.zero):=y.At;have hx:=y.ext;have a9:=y.block;have bi:=y.size;clear y;constructor
 .intro h;refine Gg ?_;refine Qc Qb (e:=ty32) rfl f rfl rfl rfl Oj fun Z P ay=>?_
  have P:At Z j 32 (Qg ty32.zero):=P;refine Gg ?_;refine⟨Qg ty32.zero,⟨rfl,P.all⟩,Gg ?_⟩;exact⟨ay.ext hx Om,.inl rfl⟩
 intro h;have aw:o.length<=300:=(by have:¬(300:Int)<o.length:=Su h;omega);refine Gg ?_;refine(Qr4 o A aa ai (aq.ext hx) (av.ext hx) (a3.ext hx) an aw).mono ?_;rintro _ Z ⟨c,every,seed,B,d,S,L,t,rfl,ao,V,bg,J,K⟩;refine Gg ?_;intro p6 bk H;refine Gg ?_;refine Qc Qb (e:=ty64) rfl H.At rfl rfl rfl (by simp[Qg,taC,Qas,Value.oneCell']) fun C g af=>?_
 have g:At C p6 64 (taC c (Qbp 6) every seed B S.length d t):=g;have bb:=H.block;have M:Ext Z C:=af.ext H.ext Om;have bj:=K.size;replace hx:=(hx.trans K).trans M;have ax:w.heap.size<=C.heap.size:=hx.size;replace f:=(f.ext K).ext M;replace J:=J.ext M;clear af H K M;refine Gg ?_;refine⟨.slice B S.length d,g.one rfl,Gg ?_⟩
 refine Qh Qb (fun(q:Nat×Option Addr×Nat×List Ev) w'=>q.1<=S.length/\q.2.2.2=Qeh (S.take q.1)/\Own evC 8 69 C.heap.size w' q.2.1 q.2.2.1 q.2.2.2/\Ext C w')
  (fun|(k,u,D,U)=>[(3,Pj j),(6,Pj p6),(7,.slice u U.length D),(17,.slice B S.length d),(18,Vj S.length),(19,Vj (k:Nat))]) (fun q=>S.length-q.1) (0,none,0,[]) ⟨Zt _,rfl,Own.nil,Ext.refl _⟩ Rr ?_
 rintro ⟨k,u,D,U⟩ w5 ⟨au,v,b,i⟩;simp only at au v b;have be:U.length<=k:=(by rw[v];have:=Xdm (S.take k);rw[Zn]at this;omega);refine Hh ?_;constructor
 .intro F;have F:k<S.length:=Su F;obtain⟨a,rfl,ac⟩:=(J.ext i).get F;have n:=Q7b S k F;rw[<- v]at n;generalize S[k]=x at ac n;refine Gg ?_;refine⟨a,Ix,Gg ?_⟩;refine⟨Q6y x,⟨rfl,ac⟩,Gg ?_⟩;intro a5 a7 I;refine Gg ?_;refine Qc Qb (e:=ty71) rfl I.At rfl rfl rfl (Q3m x) fun O E s=>?_
  have E:At O a5 71 (Q6y x):=E;have ah:Ext w5 O:=s.ext I.ext (by rw[I.block];exact Zf _);clear s I;replace i:=i.trans ah;replace b:=b.ext ah;refine Gg ?_;refine⟨vi x.what,E.one rfl,Gg ?_⟩;constructor
  .intro m;have m:x.what=0:=Su m;rw[if_pos m]at n;refine Gg ?_;refine⟨evC x.ev,⟨rfl,At.sub (pre:= [vi x.what]) (post:= [.string x.person,vi x.now,vi x.keep,vi x.of_]) E⟩,Gg ?_⟩;intro a8 bl z;refine Gg ?_;refine Qq Qq2 (l:=U) (news:= [x.ev]) rfl (b.ext z.ext) rfl (Qq2.new1 (x:=x.ev) z) (by simp;omega) (i.trans z.ext).size fun aj al bm ag ar bd=>?_
   have a4:=Qu (i.trans z.ext) ar (Xm (b.ext z.ext));generalize U++[x.ev]=ak at ag n⊢;refine Gg ?_;refine⟨_,wrap_succ Om,Gg ?_⟩;exact⟨(k+1,aj,al,ak),Sj,⟨Sj,n.symm,ag,a4⟩,Rr⟩
  .intro m;have m:¬x.what=0:=Su m;rw[if_neg m,Z4]at n;refine Gg ?_;refine⟨_,wrap_succ Om,Gg ?_⟩;exact⟨(k+1,u,D,U),Sj,⟨Sj,n.symm,b,i⟩,Rr⟩
 .intro Y;have Y:S.length<=k:=Su Y;rw[Zd Y]at v;have ab:Qiv (Qeh S)/\∀e∈Qeh S,e.src=nb 115 0\/e.src=nb 115 1:=⟨V.ap,V.src⟩;rw[<- v]at ab;have bh:=V.end_;have ae:p6≠j:=Om;have a0:w.heap.size<=j:=Om;have az:∀a,u=some a->a.block≠j:=fun a W=>by have:=(b.block W).1;have:=f.lt;omega
  replace f:=f.ext i;replace g:=g.ext i;replace hx:=hx.trans i;clear J i;refine Gg ?_;refine Dr (.mods (fun q=>q=j)) [0,1,2,3,4,5,6,7,8] [] (Hh ?_);have N:Ext w5 w5.drew:=(Ext.refl w5).drew;replace f:=f.ext N;replace g:=g.ext N;replace hx:=hx.trans N;replace b:=b.ext N;generalize w5.drew=a7 at f g hx b⊢;refine⟨Qas c (Qbp 6) every seed,⟨rfl,At.sub (pre:= []) (post:= [.slice B S.length d,vi t]) g,by rw[add_block];exact ae⟩,Hh ?_⟩;refine⟨vi t,⟨g.one rfl,by rw[add_block];exact ae⟩,Hh ?_⟩;refine Qc Qb (e:=ty32) rfl f rfl rfl rfl (by simp[Qg,Qas,Value.oneCell']) fun O R s=>?_
  have R:At O j 32 (Qas c (Qbp 6) every seed):=R;refine⟨Qj s rfl,Gg ?_⟩;refine⟨Qas c (Qbp 6) every seed,⟨rfl,R.all⟩,Gg ?_⟩;refine⟨s.ext hx a0,.inr ⟨c,every,seed,u,D,U,t,rfl,ao,ab,Om,⟨Om,Om⟩,?_⟩⟩;exact(b.keep fun a W=>s.block _ (az a W)).base ax
theorem Qgv(w)(e:Gl w)(g:Q71 w):Cal Tryz.prog 5 [] w fun r w'=>r=.bool true/\Ext w w':=by
 refine Fi Tryz.func5 rfl _ rfl rfl (Hh ?_);refine(Qr4 [] none 0 w e g Sl.nil (by simp) (by simp)).mono ?_;rintro _ m ⟨c,every,l,B,d,S,L,t,rfl,j,b,f,k,i⟩;have a:S=[]:=Zan (by simp at f;omega);have h:t=1000:=(by have:=b.end_;rw[a]at this;simp at this;omega);subst h;refine Gg ?_;exact⟨rfl,i⟩
def Xfz:List Bj:= [⟨#[112,48]⟩,⟨#[112,49]⟩,⟨#[112,50]⟩,⟨#[112,51]⟩]
theorem Q0g(w):Cal Tryz.prog 8 [] w fun r w'=>r=.slice (some ⟨w.heap.size,0,none⟩) 4 4/\At w' w.heap.size 9 (Xfz.map Value.string)/\Ext w w':=by
 refine Fi Tryz.func8 rfl _ rfl rfl (Hh ?_);intro b c a;refine Gg ?_;obtain rfl:=a.block;exact⟨rfl,a.At,a.ext⟩
theorem Xjj{w}{b t:Nat}{l:List Bj}(h:At w b t (l.map Value.string)){k}{x:Bj}(a:l[k]?=some x):w.cell? ((⟨b,0,none⟩:Addr).add (k*1))=some (.string x):=by
 rw[Q7,Zbl,h.cell,Zaf,a];rfl
