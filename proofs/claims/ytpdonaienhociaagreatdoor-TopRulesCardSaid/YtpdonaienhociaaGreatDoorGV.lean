import Derived.Test.YtpdonaienhociaaGreatDoorGE
set_option linter.all false
namespace Go.Proofs.YtpdonaienhociaaGreatDoor
open Go.Se Go.RowKit
structure Q50 (l:List Ev):Prop where
 may:∀ e∈l,X0 e=true
 ids:l.Pairwise (fun a b=>idE a≠idE b)
 none:∀ e∈l,e.kind≠14
def nb (ch n:Nat):Bj:=⟨#[UInt8.ofNat ch,UInt8.ofNat (48+n)]⟩
theorem Qsn:∀ n<10,Qr (nb 115 n)=true/\Qr (nb 112 n)=true/\Qr (nb 105 n)=true/\Qr (nb 109 n)=true:=by decide +kernel
def Xim (b:Nat):Bj := [⟨#[]⟩,nb 116 0,nb 116 1,nb 116 0++⟨#[44]⟩++nb 116 1,nb 116 2,nb 116 0++⟨#[44]⟩++nb 116 2,nb 116 1++⟨#[44]⟩++nb 116 2,nb 116 0++⟨#[44]⟩++nb 116 1++⟨#[44]⟩++nb 116 2].getD b ⟨#[]⟩
def Qvi (m b:Nat):Bj:=nb 109 m++⟨#[59]⟩++Xim b
theorem Q3x:∀ m<3,∀ b<8,Qc1 (Qvi m b)=true:=by decide +kernel
def kT:List Int := [1,2,3,4,0,5,6,7,9,11,11,12,13]
def Qwx (k b1 b2 v:Nat) (num tick:Int):Ev :=
 let src:=nb 115 (k/16 % 2)
 let a:=max (tick-5*(k/32:Nat)) 0
 let kd:=kT.getD (k % 16) 0
 let p:=nb 112 (b1 % 4)
 let i:=nb 105 (b2 % 6)
 if kd=7\/kd=9 then⟨src,num,a,kd,p,⟨#[]⟩,0,nb 109 (v % 3)⟩
 else if kd=11 then⟨src,num,a,kd,⟨#[]⟩,i,(v:Nat),Qvi (v % 3) (v/4 % 8)⟩
 else if kd=12 then⟨src,num,a,kd,⟨#[]⟩,i,(v % 3:Nat),⟨#[]⟩⟩
 else if kd=13 then⟨src,num,a,kd,⟨#[]⟩,i,0,⟨#[]⟩⟩
 else if kd=4 then⟨src,num,a,kd,p,i,(1+v % 5:Nat),⟨#[]⟩⟩
 else⟨src,num,a,kd,p,i,0,⟨#[]⟩⟩
theorem Xds {k b1 b2 v:Nat} {num tick:Int} (hk:k % 16<13) (hv:v<256) (hn:1<=num/\num<=1000) (ht:0<=tick/\tick<=1000000) :
 X0 (Qwx k b1 b2 v num tick)=true/\(Qwx k b1 b2 v num tick).kind≠14/\(Qwx k b1 b2 v num tick).src=nb 115 (k/16 % 2)/\(Qwx k b1 b2 v num tick).num=num:=by
 have h1:=(Qsn (k/16 % 2) Om).1;have h2:=(Qsn (b1 % 4) Om).2.1;have h3:=(Qsn (b2 % 6) Om).2.2.1;have h4:=(Qsn (v % 3) Om).2.2.2;have h5:=Q3x (v % 3) Om (v/4 % 8) Om;have hnum:1<=num/\num<=1099511627776:=Om;have hat:0<=max (tick-5*((k/32:Nat):Int)) 0/\max (tick-5*((k/32:Nat):Int)) 0<=1099511627776:=Om;unfold Qwx;generalize nb 115 (k/16 % 2)=src at h1 ⊢;generalize nb 112 (b1 % 4)=p at h2 ⊢;generalize nb 105 (b2 % 6)=i at h3 ⊢;generalize nb 109 (v % 3)=m at h4 ⊢;generalize Qvi (v % 3) (v/4 % 8)=t at h5 ⊢;generalize max (tick-5*((k/32:Nat):Int)) 0=a at hat ⊢;generalize k % 16=j at hk ⊢;have iv:inB (v:Int) 0 1048576=true:=Qc4.2 ⟨Om,Om⟩;have iw:inB ((v:Int) % 3) 0 1048576=true:=Qc4.2 ⟨Om,Om⟩;have ix:inB (1+(v:Int) % 5) 1 5=true:=Qc4.2 ⟨Om,Om⟩;rcases j with _ | _ | _ | _ | _ | _ | _ | _ | _ | _ | _ | _ | _ | j
 all_goals first
  | omega
  | exact⟨Qb9.2 ⟨h1,hnum,hat,by simp[kT,Qjq,k6,k4,h2,h3,h4,h5,iv,iw,ix]⟩,by simp[kT],rfl,rfl⟩
structure Stp where
 what:Int
 ev:Ev
 person:Bj
 now:Int
 keep:Int
 of_:Int
def Q45 (s:Stp):List Value := [vi s.what,.string s.ev.src,Vj s.ev.num,Vj s.ev.at_,Vj s.ev.kind,.string s.ev.person,.string s.ev.item,Vj s.ev.val,.string s.ev.text,.string s.person,vi s.now,vi s.keep,vi s.of_]
theorem Q1r (s:Stp):(Q45 s).length=13:=rfl
theorem Q1s (s:Stp):∀ u∈Q45 s,u.oneCell'=true:=by simp[Q45,Value.oneCell']
def Qd4 (S:List Stp):List Ev:=S.flatMap fun s=>if s.what=0 then [s.ev] else []
theorem Qla (S:List Stp) (s:Stp):Qd4 (S ++ [s])=Qd4 S++if s.what=0 then [s.ev] else []:=by unfold Qd4;rw[Zbr];simp
theorem Xa2 (S:List Stp):(Qd4 S).length<=S.length:=by
 induction S with
 | nil=>exact Zg _
 | cons s S ih =>
   unfold Qd4 at *;rw[Zat,Zo,Z8];split
   . simp only[Za0];omega
   . simp only[Zam];omega
def Qmm (L:List (Bj×Int)) (s:Bj):Int:=(Qe L s).getD 0
structure Qpo (S:List Stp) (L:List (Bj×Int)) (t:Int):Prop where
 ap:Q50 (Qd4 S)
 num:∀ e∈Qd4 S,e.num<=Qmm L e.src
 cnt:∀ s,0<=Qmm L s/\Qmm L s<=S.length
 end_:1000<=t/\t<=1000+15*S.length
 src:∀ e∈Qd4 S,e.src=nb 115 0\/e.src=nb 115 1
theorem Xdl:Qpo [] [] 1000:=⟨⟨by simp[Qd4],by simp[Qd4],by simp[Qd4]⟩,by simp[Qd4],fun s=>⟨by simp[Qmm,Qe],by simp[Qmm,Qe]⟩,by simp,by simp[Qd4]⟩
theorem Q5c {S:List Stp} {L:List (Bj×Int)} {t:Int} (h:Qpo S L t) {s:Stp} (hs:s.what≠0) {d:Int} (hd:0<=d/\d<=15):Qpo (S ++ [s]) L (t+d):=by
 have e:Qd4 (S ++ [s])=Qd4 S:=by rw[Qla,if_neg hs,Zw]
 have h4:=h.end_;refine⟨by rw[e];exact h.ap,by rw[e];exact h.num,fun x => ?_,by rw[Zo,Za0];push_cast;omega,by rw[e];exact h.src⟩;have:=h.cnt x;rw[Zo,Za0]
 push_cast
 omega
theorem Xa0 {S:List Stp} {L:List (Bj×Int)} {t:Int} (h:Qpo S L t) {s:Stp} (hs:s.what=0) {d:Int} (hd:0<=d/\d<=15) (hm:X0 s.ev=true) (hk:s.ev.kind≠14) (hn:s.ev.num=Qmm L s.ev.src+1) (hsr:s.ev.src=nb 115 0\/s.ev.src=nb 115 1):Qpo (S ++ [s]) (Xc L s.ev.src (Qmm L s.ev.src+1)) (t+d):=by
 have e:Qd4 (S ++ [s])=Qd4 S ++ [s.ev]:=by rw[Qla,if_pos hs]
 have h4:=h.end_
 have hc:∀ x,Qmm (Xc L s.ev.src (Qmm L s.ev.src+1)) x=if x=s.ev.src then Qmm L s.ev.src+1 else Qmm L x:=fun x=>by
  conv=>lhs;unfold Qmm
  rw[Xn];split
  . rfl
  . rfl
 have hmem:∀ e'∈Qd4 S ++ [s.ev],e'∈Qd4 S\/e'=s.ev:=fun e' he=>Su he
 refine⟨⟨?_,?_,?_⟩,?_,fun x => ?_,by rw[Zo,Za0];push_cast;omega,?_⟩
 . rw[e];intro e' he;rcases hmem e' he with he | he
   . exact h.ap.may e' he
   . rw[he];exact hm
 . rw[e,Z4];refine⟨h.ap.ids,List.pairwise_singleton _ _,fun a ha b hb hab => ?_⟩;have hb:b=s.ev:=Su hb;subst hb;have h1:a.src=s.ev.src/\a.num=s.ev.num:=by simpa [idE] using hab
   have h2:=h.num a ha;rw[h1.1] at h2;omega
 . rw[e];intro e' he;rcases hmem e' he with he | he
   . exact h.ap.none e' he
   . rw[he];exact hk
 . rw[e];intro e' he;rw[hc];rcases hmem e' he with he | he
   . have:=h.num e' he;split
     . next hq=>rw[hq] at this;omega
     . exact this
   . rw[he,if_pos rfl];omega
 . have:=h.cnt x;have h5:=h.cnt s.ev.src;rw[hc,Zo,Za0]
   push_cast
   split <;> omega
 . rw[e];intro e' he;rcases hmem e' he with he | he
   . exact h.src e' he
   . rw[he];exact hsr
theorem Xdm {S:List Stp} {L:List (Bj×Int)} {t:Int} (h:Qpo S L t) (hl:S.length<=60) (s:Bj):1<=Qmm L s+1/\Qmm L s+1<=1000/\0<=t/\t<=1000000:=by
 have:=h.cnt s;have:=h.end_;omega
def Qap (c:Cfg) (a:Nat->Int) (every seed:Int):List Value :=
 [vi c.half,vi c.width,vi c.gap,vi c.span,vi c.floor,vi c.crowd,vi (a 0),vi (a 1),vi (a 2),vi (a 3),vi (a 4),vi (a 5),vi 4,vi 2,vi 3,vi 1073741824,vi 0,vi 5,vi every,.string ⟨#[115,116,111,99,107,62,48]⟩,.string ⟨#[111,119,110]⟩,.int .u64 seed]
def Xfe (b0 b1 b2 b3 b4 b5:Int):Cfg:=⟨1+10*b0,1+b1.tmod 20,1+b2.tmod 50,(1+b1.tmod 20)*(1+b3.tmod 4),b4.tmod 3,b5.tmod 3⟩
theorem Xbw {b0 b1 b2 b3 b4 b5:Int} (h0:0<=b0/\b0<=255) (h1:0<=b1/\b1<=255) (h2:0<=b2/\b2<=255) (h3:0<=b3/\b3<=255) (h4:0<=b4/\b4<=255) (h5:0<=b5/\b5<=255):Qw6 (Xfe b0 b1 b2 b3 b4 b5)=true:=by
 have e1:b1.tmod 20=b1 % 20:=Za6 h1.1;have e2:b2.tmod 50=b2 % 50:=Za6 h2.1;have e3:b3.tmod 4=b3 % 4:=Za6 h3.1;have e4:b4.tmod 3=b4 % 3:=Za6 h4.1;have e5:b5.tmod 3=b5 % 3:=Za6 h5.1;unfold Qw6 Xfe;simp only[e1,e2,e3,e4,e5];have hd:((1+b1 % 20)*(1+b3 % 4)).tmod (1+b1 % 20)=0:=Int.mul_tmod_right _ _;have g3:b3 % 4=0\/b3 % 4=1\/b3 % 4=2\/b3 % 4=3:=Om;have hsp:1<=(1+b1 % 20)*(1+b3 % 4)/\(1+b1 % 20)*(1+b3 % 4)<=80:=(by rcases g3 with h | h | h | h <;> rw[h] <;> omega);rw[Qc4.2 ⟨Om,Om⟩,Qc4.2 ⟨Om,Om⟩,Qc4.2 ⟨Om,Om⟩,Qc4.2 ⟨Om,Om⟩,Qc4.2 ⟨Om,Om⟩,Qc4.2 ⟨Om,Om⟩,hd];rfl
