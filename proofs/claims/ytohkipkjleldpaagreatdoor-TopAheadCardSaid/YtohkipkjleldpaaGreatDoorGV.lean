/- Several texts in one: To1, To2, To3. -/
import Derived.Test.YtohkipkjleldpaaGreatDoorGE
set_option linter.unusedVariables false
set_option linter.unusedSimpArgs false
namespace Go.Proofs.YtohkipkjleldpaaGreatDoor
open Go.Se Go.RowKit
structure Qg1 (l:List Ev):Prop where
 may:∀ e∈l,Xn e=true
 ids:l.Pairwise (fun a b=>idE a≠idE b)
 none:∀ e∈l,e.kind≠14
theorem Qg1.filter {l:List Ev} (h:Qg1 l) (q:Ev→Bool):Qg1 (l.filter q) :=
 ⟨fun e he=>h.may e (List.mem_filter.1 he).1,h.ids.sublist List.filter_sublist,fun e he=>h.none e (List.mem_filter.1 he).1⟩
theorem Qg1.once {l:List Ev} (h:Qg1 l):(Qc1 l).Perm l:=by
 have o:=Qqa h.may;refine Qec (Qr7 o.ids) (Qr7 h.ids) (fun x hx=>Qgu hx) fun x hx => ?_
 obtain⟨y,hy,he⟩:=o.all x hx;obtain rfl:=Qr6 h.ids (Qgu hy) hx he
 exact hy
theorem Qg1.left {l:List Ev} (h:Qg1 l):Qem (Qc1 l)=Qc1 l:=by
 unfold Qem;rw[List.filter_eq_self];intro x hx;unfold Qbv Qcb;rw[Bool.or_eq_true,Bool.not_eq_true',List.any_eq_false]
 left
 intro y hy hk;have:y.kind=14:=by simp at hk;exact hk.1
 exact h.none y (Qgu hy) this
def nb (ch n:Nat):ByteArray:=⟨#[UInt8.ofNat ch,UInt8.ofNat (48+n)]⟩
theorem Ql5:∀ n<10,Qn (nb 115 n)=true∧Qn (nb 112 n)=true∧Qn (nb 105 n)=true∧Qn (nb 109 n)=true:=by decide +kernel
def Xc9 (b:Nat):ByteArray := [⟨#[]⟩,nb 116 0,nb 116 1,nb 116 0++⟨#[44]⟩++nb 116 1,nb 116 2,nb 116 0++⟨#[44]⟩++nb 116 2,nb 116 1++⟨#[44]⟩++nb 116 2,nb 116 0++⟨#[44]⟩++nb 116 1++⟨#[44]⟩++nb 116 2].getD b ⟨#[]⟩
def Qsi (m b:Nat):ByteArray:=nb 109 m++⟨#[59]⟩++Xc9 b
theorem Q0e:∀ m<3,∀ b<8,Qcc (Qsi m b)=true:=by decide +kernel
def kT:List Int := [1,2,3,4,0,5,6,7,9,11,11,12,13]
def Qts (k b1 b2 v:Nat) (num tick:Int):Ev :=
 let src:=nb 115 (k/16 % 2)
 let a:=max (tick-5*(k/32:Nat)) 0
 let kd:=kT.getD (k % 16) 0
 let p:=nb 112 (b1 % 4)
 let i:=nb 105 (b2 % 6)
 if kd=7∨kd=9 then⟨src,num,a,kd,p,⟨#[]⟩,0,nb 109 (v % 3)⟩
 else if kd=11 then⟨src,num,a,kd,⟨#[]⟩,i,(v:Nat),Qsi (v % 3) (v/4 % 8)⟩
 else if kd=12 then⟨src,num,a,kd,⟨#[]⟩,i,(v % 3:Nat),⟨#[]⟩⟩
 else if kd=13 then⟨src,num,a,kd,⟨#[]⟩,i,0,⟨#[]⟩⟩
 else if kd=4 then⟨src,num,a,kd,p,i,(1+v % 5:Nat),⟨#[]⟩⟩
 else⟨src,num,a,kd,p,i,0,⟨#[]⟩⟩
theorem Q8s {k b1 b2 v:Nat} {num tick:Int} (hk:k % 16<13) (hv:v<256) (hn:1≤num∧num≤1000) (ht:0≤tick∧tick≤1000000) :
 Xn (Qts k b1 b2 v num tick)=true∧(Qts k b1 b2 v num tick).kind≠14∧(Qts k b1 b2 v num tick).src=nb 115 (k/16 % 2)∧(Qts k b1 b2 v num tick).num=num:=by
 have h1:=(Ql5 (k/16 % 2) (by omega)).1;have h2:=(Ql5 (b1 % 4) (by omega)).2.1;have h3:=(Ql5 (b2 % 6) (by omega)).2.2.1;have h4:=(Ql5 (v % 3) (by omega)).2.2.2;have h5:=Q0e (v % 3) (by omega) (v/4 % 8) (by omega);have hnum:1≤num∧num≤1099511627776:=by omega
 have hat:0≤max (tick-5*((k/32:Nat):Int)) 0∧max (tick-5*((k/32:Nat):Int)) 0≤1099511627776:=by omega
 unfold Qts;generalize nb 115 (k/16 % 2)=src at h1 ⊢;generalize nb 112 (b1 % 4)=p at h2 ⊢;generalize nb 105 (b2 % 6)=i at h3 ⊢;generalize nb 109 (v % 3)=m at h4 ⊢;generalize Qsi (v % 3) (v/4 % 8)=t at h5 ⊢;generalize max (tick-5*((k/32:Nat):Int)) 0=a at hat ⊢;generalize k % 16=j at hk ⊢;have iv:inB (v:Int) 0 1048576=true:=Qch.2 ⟨by omega,by omega⟩;have iw:inB ((v:Int) % 3) 0 1048576=true:=Qch.2 ⟨by omega,by omega⟩;have ix:inB (1+(v:Int) % 5) 1 5=true:=Qch.2 ⟨by omega,by omega⟩;rcases j with _ | _ | _ | _ | _ | _ | _ | _ | _ | _ | _ | _ | _ | j
 all_goals first
  | omega
  | exact⟨Qbq.2 ⟨h1,hnum,hat,by simp[kT,Qie,k6,k4,h2,h3,h4,h5,iv,iw,ix]⟩,by simp[kT],rfl,rfl⟩
structure Stp where
 what:Int
 ev:Ev
 person:ByteArray
 now:Int
 keep:Int
 of_:Int
def Q1e (s:Stp):List Value := [vi s.what,.string s.ev.src,.int .i64 s.ev.num,.int .i64 s.ev.at_,.int .i64 s.ev.kind,.string s.ev.person,.string s.ev.item,.int .i64 s.ev.val,.string s.ev.text,.string s.person,vi s.now,vi s.keep,vi s.of_]
theorem Qyg (s:Stp):(Q1e s).length=13:=rfl
theorem Qyh (s:Stp):∀ u∈Q1e s,u.oneCell'=true:=by simp[Q1e,Value.oneCell']
def Qdi (S:List Stp):List Ev:=S.flatMap fun s=>if s.what=0 then [s.ev] else []
theorem Qjr (S:List Stp) (s:Stp):Qdi (S ++ [s])=Qdi S++if s.what=0 then [s.ev] else []:=by unfold Qdi;rw[List.flatMap_append];simp
theorem Q6e (S:List Stp):(Qdi S).length≤S.length:=by
 induction S with
 | nil=>exact Nat.le_refl _
 | cons s S ih =>
   unfold Qdi at *;rw[List.flatMap_cons,List.length_append,List.length_cons]
   split
   · simp only[List.length_singleton];omega
   · simp only[List.length_nil];omega
def Qkq (L:List (ByteArray×Int)) (s:ByteArray):Int:=(Qe L s).getD 0
structure Qm0 (S:List Stp) (L:List (ByteArray×Int)) (t:Int):Prop where
 ap:Qg1 (Qdi S)
 num:∀ e∈Qdi S,e.num≤Qkq L e.src
 cnt:∀ s,0≤Qkq L s∧Qkq L s≤S.length
 end_:1000≤t∧t≤1000+15*S.length
 src:∀ e∈Qdi S,e.src=nb 115 0∨e.src=nb 115 1
theorem Q8m:Qm0 [] [] 1000:=⟨⟨by simp[Qdi],by simp[Qdi],by simp[Qdi]⟩,by simp[Qdi],fun s=>⟨by simp[Qkq,Qe],by simp[Qkq,Qe]⟩,by simp,by simp[Qdi]⟩
theorem Q1k {S:List Stp} {L:List (ByteArray×Int)} {t:Int} (h:Qm0 S L t) {s:Stp} (hs:s.what≠0) {d:Int} (hd:0≤d∧d≤15):Qm0 (S ++ [s]) L (t+d):=by
 have e:Qdi (S ++ [s])=Qdi S:=by rw[Qjr,if_neg hs,List.append_nil]
 have h4:=h.end_;refine⟨by rw[e];exact h.ap,by rw[e];exact h.num,fun x => ?_,by rw[List.length_append,List.length_singleton];push_cast;omega,by rw[e];exact h.src⟩;have:=h.cnt x;rw[List.length_append,List.length_singleton]
 push_cast
 omega
theorem Q6c {S:List Stp} {L:List (ByteArray×Int)} {t:Int} (h:Qm0 S L t) {s:Stp} (hs:s.what=0) {d:Int} (hd:0≤d∧d≤15) (hm:Xn s.ev=true) (hk:s.ev.kind≠14) (hn:s.ev.num=Qkq L s.ev.src+1) (hsr:s.ev.src=nb 115 0∨s.ev.src=nb 115 1):Qm0 (S ++ [s]) (Q7 L s.ev.src (Qkq L s.ev.src+1)) (t+d):=by
 have e:Qdi (S ++ [s])=Qdi S ++ [s.ev]:=by rw[Qjr,if_pos hs]
 have h4:=h.end_
 have hc:∀ x,Qkq (Q7 L s.ev.src (Qkq L s.ev.src+1)) x=if x=s.ev.src then Qkq L s.ev.src+1 else Qkq L x:=fun x=>by
  conv=>lhs;unfold Qkq
  rw[Xg]
  split
  · rfl
  · rfl
 have hmem:∀ e'∈Qdi S ++ [s.ev],e'∈Qdi S∨e'=s.ev:=fun e' he=>by simpa using he
 refine⟨⟨?_,?_,?_⟩,?_,fun x => ?_,by rw[List.length_append,List.length_singleton];push_cast;omega,?_⟩
 · rw[e]
   intro e' he;rcases hmem e' he with he | he
   · exact h.ap.may e' he
   · rw[he];exact hm
 · rw[e,List.pairwise_append]
   refine⟨h.ap.ids,List.pairwise_singleton _ _,fun a ha b hb hab => ?_⟩;have hb:b=s.ev:=by simpa using hb
   subst hb;have h1:a.src=s.ev.src∧a.num=s.ev.num:=by simpa [idE] using hab
   have h2:=h.num a ha;rw[h1.1] at h2;omega
 · rw[e]
   intro e' he;rcases hmem e' he with he | he
   · exact h.ap.none e' he
   · rw[he];exact hk
 · rw[e]
   intro e' he;rw[hc];rcases hmem e' he with he | he
   · have:=h.num e' he
     split
     · next hq=>rw[hq] at this;omega
     · exact this
   · rw[he,if_pos rfl];omega
 · have:=h.cnt x
   have h5:=h.cnt s.ev.src;rw[hc,List.length_append,List.length_singleton]
   push_cast
   split <;> omega
 · rw[e]
   intro e' he;rcases hmem e' he with he | he
   · exact h.src e' he
   · rw[he];exact hsr
theorem Q8n {S:List Stp} {L:List (ByteArray×Int)} {t:Int} (h:Qm0 S L t) (hl:S.length≤60) (s:ByteArray):1≤Qkq L s+1∧Qkq L s+1≤1000∧0≤t∧t≤1000000:=by
 have:=h.cnt s;have:=h.end_;omega
def Qas (c:Cfg) (a:Nat→Int) (every seed:Int):List Value :=
 [vi c.half,vi c.width,vi c.gap,vi c.span,vi c.floor,vi c.crowd,vi (a 0),vi (a 1),vi (a 2),vi (a 3),vi (a 4),vi (a 5),vi 4,vi 2,vi 3,vi 1073741824,vi 0,vi 5,vi every,.string ⟨#[115,116,111,99,107,62,48]⟩,.string ⟨#[111,119,110]⟩,.int .u64 seed]
def Q96 (b0 b1 b2 b3 b4 b5:Int):Cfg:=⟨1+10*b0,1+b1.tmod 20,1+b2.tmod 50,(1+b1.tmod 20)*(1+b3.tmod 4),b4.tmod 3,b5.tmod 3⟩
theorem Q64 {b0 b1 b2 b3 b4 b5:Int} (h0:0≤b0∧b0≤255) (h1:0≤b1∧b1≤255) (h2:0≤b2∧b2≤255) (h3:0≤b3∧b3≤255) (h4:0≤b4∧b4≤255) (h5:0≤b5∧b5≤255):Qt3 (Q96 b0 b1 b2 b3 b4 b5)=true:=by
 have e1:b1.tmod 20=b1 % 20:=Int.tmod_eq_emod_of_nonneg h1.1;have e2:b2.tmod 50=b2 % 50:=Int.tmod_eq_emod_of_nonneg h2.1;have e3:b3.tmod 4=b3 % 4:=Int.tmod_eq_emod_of_nonneg h3.1;have e4:b4.tmod 3=b4 % 3:=Int.tmod_eq_emod_of_nonneg h4.1;have e5:b5.tmod 3=b5 % 3:=Int.tmod_eq_emod_of_nonneg h5.1;unfold Qt3 Q96;simp only[e1,e2,e3,e4,e5];have hd:((1+b1 % 20)*(1+b3 % 4)).tmod (1+b1 % 20)=0:=Int.mul_tmod_right _ _;have g3:b3 % 4=0∨b3 % 4=1∨b3 % 4=2∨b3 % 4=3:=by omega
 have hsp:1≤(1+b1 % 20)*(1+b3 % 4)∧(1+b1 % 20)*(1+b3 % 4)≤80:=by
  rcases g3 with h | h | h | h <;> rw[h] <;> omega
 rw[Qch.2 ⟨by omega,by omega⟩,Qch.2 ⟨by omega,by omega⟩,Qch.2 ⟨by omega,by omega⟩,Qch.2 ⟨by omega,by omega⟩,Qch.2 ⟨by omega,by omega⟩,Qch.2 ⟨by omega,by omega⟩,hd]
 rfl
end Go.Proofs.YtohkipkjleldpaaGreatDoor
