import Derived.WalkKit
import Derived.ProofKit
import Derived.OpenShut
import Derived.Carry
import Derived.Deep.Slices
import Derived.Deep.Fields
import Derived.ChangeSame
import Derived.ShutString
import Derived.ChangeMaps5
import Derived.Deep.Strs
import Derived.Deep.DeepHandedRow
import Derived.Lib.LaidTab
import Derived.Lay
import Derived.SevenTiedAt
import Derived.Test.YtpdonaienhociaaGreatDoorRows
import Derived.Test.YtpdonaienhociaaGreatDoorGC
import Derived.Test.YtpdonaienhociaaGreatDoorCards
import Derived.Test.YtpdonaienhociaaGreatDoorTie
set_option linter.all false
namespace Go.Proofs.YtpdonaienhociaaGreatDoor
open Go.ChangeShapes Go.WideShapes Go.ChangeAt Go.RowKit Go.Deep Go.Se
section
variable {H:Type} {enc:TypeId×Value->H} {P:Program} {w:World} {base:Nat} {spare:Nat->Bool} {held:Bool}
theorem Qkz {t e:TypeId} {fs:Array Field} {fuel:Nat} {cs:List Value} {x:DataW H×List MemPlace} (ht:P.underlying t=some (.slice e)) (he:P.underlying e=some (.struct fs))
 (hone:oneCellFields P fs=true) (hC:P.cellsOf e=fs.size) (h:DataW.trod enc P w base spare held fuel t cs=some x) :
 (cs = [.slice none 0 0]/\x=(.nil,[])) \/
 ∃ (a:Addr) (len cap m:Nat) (D:Nat->DataW H) (Pl:Nat->List MemPlace),cs = [.slice (some a) len cap]/\base<=a.block/\len<=cap/\cap<=maxLen/\m=(if spare a.block then cap else len) /\
   x=(.slice ((List.range len).map D) ((List.range (m-len)).map fun j=>D (len+j)),MemPlace.row a (m*fs.size)++(List.range m).flatMap Pl) /\
   ∀ i,i<m->∃ (ys:List (DataW H×List MemPlace)) (n:Nat),D i = .agg (ys.map (·.1))/\Pl i=ys.flatMap (·.2)/\ys.length=fs.size /\
     ∀ (j:Nat) (f:Field),fs[j]? = some f->∃ (v:Value) (y:DataW H×List MemPlace),w.cell? (a.add (i*fs.size+j))=some v/\ys[j]? = some y/\DataW.trod enc P w base spare held n f.type [v]=some y:=by
 rcases open_slice ht h with h0 | ⟨a,len,cap,m,n,D,Pl,hcs,hb,hl,hm,hmm,hx,hi⟩
 . exact .inl h0
 . refine .inr ⟨a,len,cap,m,D,Pl,hcs,hb,hl,hm,hmm,by rw[hC] at hx;exact hx,fun i him => ?_⟩;obtain⟨cs',hc,ht'⟩:=hi i him;rw[hC] at hc;obtain⟨ys,n',hn',hy,hlen,hyl,hf⟩:=DataW.trod_struct he ht';obtain⟨_,hcl,hat⟩:=World.cells?_some hc;simp only[Prod.mk.injEq] at hy;refine⟨ys,n',hy.1,hy.2,hyl,fun j f hj => ?_⟩;obtain⟨ho,hk⟩:=hone_of hone j f hj;have hjl:j<fs.size:=(Array.getElem?_eq_some_iff.1 hj).1;have hcell:=hat j hjl;have hv:cs'[j]? = some (cs'[j]'Om):=Zd Om;have h1:=hf j f hj;rw[ho,hk] at h1;have hone':(cs'.drop j).take 1 = [cs'[j]'Om]:=(by rw[Zak Om];rfl);rw[hone'] at h1;have hys:ys[j]? = some (ys[j]'Om):=Zd Om;refine⟨_,_,?_,hys,h1.trans hys⟩;rw[<- Go.Deep.add_add,hcell,hv]
theorem Qjy {f:Func} {s:ChangeSpec} {apart fresh handsOn again:Bool} {W W':World} {args:Array Value} {v:Value} {ds gs:List (DataW H)} {before pa pv:List MemPlace}
 (hW:DataW.Whole enc P f.params.toList s.vars apart W args.toList ds gs before)
 (hres:∀ (b:Nat) (sp:Nat->Bool) (hd:Bool),DataW.TrodAll enc P W' b sp hd f.resultTypes.toList (v.resultList f.resultTypes.size) (s.fn H (ds++gs)).results [])
 (hargs:∀ sp:Nat->Bool,(∀ p∈before,sp p.block=true)->DataW.TrodAll enc P W' 0 sp true f.params.toList args.toList (s.fn H (ds++gs)).args pa)
 (hvars:∀ sp:Nat->Bool,(∀ p∈before,sp p.block=true)->DataW.TrodVars enc P W' sp s.vars (s.fn H (ds++gs)).vars pv)
 (hps:before=pa++pv) (hb:Below W.heap.size W W')
 (hok:∀ (j:Nat) (t:TypeId) (r:Value),f.resultTypes[j]? = some t->(v.resultList f.resultTypes.size)[j]? = some r->Value.okWide P W' .any 0 t r) :
 s.post enc P f apart fresh handsOn again W args v W':=by
 have hlt:∀ p∈before,p.block<W.heap.size:=fun p hp=>hW.lt p hp
 have hold:∀ p∈before,(fun b=>decide (b<W.heap.size)) p.block=true:=fun p hp=>by simpa using hlt p hp
 refine⟨ds,gs,before,[],pa,pv,hW,hres _ _ _,hargs _ hold,hvars _ hold,World.keptBut_mono (fun p hp=>⟨hp,?_⟩) (hb.frame (· ∈ before)),fun _ => ?_⟩
 . rw[hps,Zj] at hp;exact Or.inr hp
 . obtain⟨_,_,_,_,_,hz,hn⟩:=hW;refine⟨hok,_,_,([]++pa)++pv,⟨[]++pa,pv,trodAll_append (hargs _ (fun _ _=>rfl)) (hres _ _ _),hvars _ (fun _ _=>rfl),rfl,?_,?_⟩,?_⟩
   . intro b off hp;have hin:MemPlace.cell b off∈before:=by rw[hps];simpa using hp
     rw[hb.frozen (hlt _ hin)];exact hz b off hin
   . intro ha;have:=hn ha;rw[hps] at this;simpa using this
   . intro p hp _;rw[hps];simpa using hp
theorem Qkd (hl:laidOutB P=true) {W W':World} (hb:Below W.heap.size W W') {sp:Nat->Bool}:∀ {ts:List TypeId} {vs:List Value} {ds:List (DataW H)} {ps:List MemPlace},(∀ t∈ts,P.readableRec t=true/\t<P.types.size) ->
 DataW.TrodAll enc P W 0 (fun _=>true) true ts vs ds ps->(∀ x∈ps,x.block<W.heap.size)->(∀ x∈ps,sp x.block=true)->DataW.TrodAll enc P W' 0 sp true ts vs ds ps
 | [],[],[],ps,_,h,_,_=>h
 | t :: ts,v :: vs,d :: ds,ps,hr,h,hlt,hsp=>by
   obtain⟨p,q,h1,h2,rfl⟩:=h;refine⟨p,q,?_,Qkd hl hb (fun t ht=>hr t (by simp[ht])) h2 (fun x hx=>hlt x (by simp[hx])) (fun x hx=>hsp x (by simp[hx])),rfl⟩;obtain⟨hr1,hr2⟩:=hr t (by simp);exact WideElems.Trod_stays hl hr1 hr2 h1 (fun x hx=>hb.same (hlt x (by simp[hx]))) (fun x hx=>hsp x (by simp[hx]))
theorem Q00 {f:Func} {s:ChangeSpec} {W W':World} {args:Array Value} {ds gs:List (DataW H)} {before:List MemPlace} {tb:TypeId}
 (hl:laidOutB P=true) (hr:f.params.toList.all (fun t=>P.readableRec t&&decide (t<P.types.size))=true) (hvars:s.vars = []) (hrt:f.resultTypes = #[tb]) (htb:P.underlying tb=some .bool)
 (hW:DataW.Whole enc P f.params.toList s.vars false W args.toList ds gs before)
 (hfn:s.fn H (ds++gs)={ results := [.lit (.bool true)],args:=ds }) (hx:Ext W W'):s.post enc P f false true false false W args (.bool true) W':=by
 have hW':=hW;obtain⟨p,q,hA,hV,rfl,hfz,hnd⟩:=hW;rw[hvars] at hV;obtain⟨rfl,rfl⟩:=trodVars_none hV;have hlt:∀ x∈p ++ [],x.block<W.heap.size:=fun x hx=>hW'.lt x hx
 have hr':∀ t∈f.params.toList,P.readableRec t=true/\t<P.types.size:=fun t ht=>(by have:=Zaf.1 hr t ht;simpa using this)
 refine Qjy (pa:=p) (pv := []) hW' ?_ ?_ ?_ rfl hx ?_
 . intro b sp hd;rw[hfn,hrt];exact trodAll_cons_mk (shut_bool htb _) trodAll_mk0
 . intro sp hsp;rw[hfn];exact Qkd hl hx hr' hA (fun x hx=>hlt x (Su hx)) (fun x hx=>hsp x (Su hx))
 . intro sp hsp;rw[hfn,hvars];rfl
 . exact ok_one hrt rfl (okWide_bool_mk htb _)
end
theorem Q8a {α:Type} {Φ:Nat->α->Prop}:∀ {n:Nat},(∀ i,i<n->∃ x,Φ i x)->∃ l:List α,l.length=n/\∀ i x,l[i]? = some x->Φ i x
 | 0,_=>⟨[],rfl,fun i x h=>by simp at h⟩
 | n+1,h=>by
   obtain⟨l,hl,hp⟩:=Q8a (n:=n) fun i hi=>h i Om
   obtain⟨x,hx⟩:=h n Om;refine⟨l ++ [x],by simp[hl],fun i y hy => ?_⟩
   by_cases hi:i<n
   . rw[Zz Om] at hy;exact hp i y hy
   . have:i<(l ++ [x]).length:=(Zi.1 hy).1;have hin:i=n:=by simp[hl] at this;omega
     subst hin;rw[Z5 Om] at hy;simp[hl] at hy;rw[<- hy];exact hx
end Go.Proofs.YtpdonaienhociaaGreatDoor
namespace Go.Proofs.YtpdonaienhociaaGreatDoor
open Go.ChangeShapes Go.WideShapes Go.ChangeAt Go.RowKit Go.Se
theorem Q0z {P:Program} {W:World} {name:String} {d:DataW Unit}:∀ {laid:List (String×DataW Unit)} {ps:List MemPlace},DataW.LaidVars P W laid ps->(name,d)∈laid ->
 ∃ g t cs fuel p,P.globalNamed name=some g/\(P.globals[g]?).map (·.type)=some t/\W.var? P name=some cs/\DataW.trod (fun _=>()) P W 0 (fun _=>true) false fuel t cs.toList=some (d,p)
 | [],_,_,hm=>by simp at hm
 | (n,d') :: r,ps,h,hm=>by
   obtain⟨g,t,cs,fuel,p,q,h1,h2,h3,h4,h5,rfl⟩:=h;rcases Zr.1 hm with he | hm
   . cases he;exact⟨g,t,cs,fuel,p,h1,h2,h3,h4⟩
   . exact Q0z h5 hm
theorem Qse {P:Program} {W:World} {laid:List (String×DataW Unit)} (h:laidMetH P laid W) (hp:(laid.all fun x=>x.2.handleName?.isNone)=true) {name:String} {d:DataW Unit} (hm:(name,d)∈laid) :
 ∃ g t cs fuel p,P.globalNamed name=some g/\(P.globals[g]?).map (·.type)=some t/\W.var? P name=some cs/\DataW.trod (fun _=>()) P W 0 (fun _=>true) false fuel t cs.toList=some (d,p):=by
 rw[MakeChecks.laidMetH_plain _ _ _ hp] at h;obtain⟨ps,h,_⟩:=h;exact Q0z h hm
theorem Qvd {P:Program} {w:World} {g:Nat} {t:TypeId} {k:IntKind} {zero:Array Value} (h:w.ShapedOpen P) (hg:g<P.globals.size)
 (h0:((begin P (fun _ _=>0) default).world.heap[g]?).bind Obj.row? = some (zero,t)) (hz:zero.size=1)
 (hb:P.buildable t=true) (hc:P.cellTypes P.depth t=some [t]) (hu:P.underlying t=some (.int k)):∃ m,w.cell? ⟨g,0,none⟩=some (.int k m):=by
 obtain⟨cs,hh,hs,hr⟩:=h.1 g zero t hg h0;obtain⟨ts,hts,_,hall⟩:=hr hb;rw[hc] at hts;cases hts;have h1:0<cs.size:=Om;obtain⟨u,hu',hok⟩:=hall 0 cs[0] (by simp[h1]);have:u=t:=Su hu'.symm;subst this;have hcell:w.cell? ⟨g,0,none⟩=some cs[0]:=by simp[World.cell?,hh,h1]
 rw[hcell];unfold Cell.ok at hok;rw[hu] at hok;cases hv:cs[0] <;> rw[hv] at hok <;> simp at hok
 case int k' z=>exact⟨z,by rw[hok.1]⟩
theorem Qpp {H:Type} {enc:TypeId×Value->H} {P:Program} {w:World} {base:Nat} {sp:Nat->Bool} {held:Bool} {fuel:Nat} {t e:TypeId} {n:Nat} {cs:List Value} {zs:List (List UInt8)} {p:List MemPlace}
 (ht:P.underlying t=some (.array n e)) (he:P.underlying e=some .string) (hce:P.cellsOf e=1) (hct:P.cellsOf t=n)
 (h:DataW.trod enc P w base sp held fuel t cs=some (.agg (zs.map fun z => .lit (.string z)),p)):cs=zs.map fun z=>Value.string (bytesOf z):=by
 cases fuel with
 | zero=>simp[DataW.trod] at h
 | succ fuel =>
   simp only[DataW.trod,ht,hce,hct,Zbh] at h;split at h
   . rename_i hl;obtain⟨xs,hm,hx⟩:=Option.map_eq_some_iff.1 h;have hxs:xs.map (·.1)=zs.map fun z=>(DataW.lit (.string z):DataW H):=(by have:=congrArg Prod.fst hx;simpa using this)
     have hxl:xs.length=n:=by simpa using Lib.mapM_length hm
     have hzl:zs.length=n:=(by have:=congrArg List.length hxs;simp at this;omega);apply Zb3;intro i
     by_cases hi:i<n
     . obtain⟨b,hb,hf⟩:=Lib.mapM_at hm i i (by simp[hi]);obtain⟨s,hc,rfl,_⟩:=DataW.trod_string he hf;have h1:cs[i]? = some (.string s):=(by have:=congrArg (·[0]?) hc;simpa [Zby,Zbz] using this);have h2:(xs.map (·.1))[i]? = some (DataW.lit (.string s.data.toList):DataW H):=by simp[hb]
       rw[hxs] at h2;simp only[Zaq,Option.map_eq_some_iff,DataW.lit.injEq,Lit.string.injEq] at h2;obtain⟨z',hz',rfl⟩:=h2;simp[h1,hz',bytesOf]
     . rw[Zcu Om,Zcu (by simp;omega)]
   . cases h
theorem Qtd {P:Program} {w:World} (h:w.ShapedOpen P) (n:Nat) (hn:(bif Nat.blt n P.globals.size then(((begin P (fun _ _=>0) default).world.heap[n]?).bind Obj.row?).isSome else Nat.blt n (begin P (fun _ _=>0) default).world.heap.size)=true):n<w.heap.size:=by
 cases hb:Nat.blt n P.globals.size with
 | true =>
   rw[hb] at hn;obtain⟨⟨z,t⟩,hz⟩:=Zca.1 hn;obtain⟨cs,hh,_⟩:=h.1 n z t (Zbt hb) hz;exact lt_of_block hh
 | false =>
   rw[hb] at hn;have h1:¬ n<P.globals.size:=fun hlt=>(by have:Nat.blt n P.globals.size=true:=Nat.ble_eq_true_of_le hlt;rw[hb] at this;cases this)
   obtain⟨o,o0,hh,_⟩:=h.2 n Om (Zbt hn);exact lt_of_block hh
theorem Qfe {H:Type} {enc:TypeId×Value->H} {C:Checked} {os:Os} {f:FuncId} {fn:Func} {s:OpenSpec} {conds:List PathCond} {apart:Bool} {laid:List (String×DataW Unit)} (w0:World) (args:Array Value) (hos:w0.os=os)
 (hsh:(w0.forCall (fun _ _=>0) ⟨#[],args,[]⟩).Shaped C.prog)
 (hok:Input.okWideB C.prog (w0.forCall (fun _ _=>0) ⟨#[],args,[]⟩) f ⟨#[],args,[]⟩=true)
 (hrow:s.preRow enc C.prog fn conds apart laid (w0.forCall (fun _ _=>0) ⟨#[],args,[]⟩).memory args) :
 ∃ (w:World) (tape:Tape) (i:Input),w.os=os/\(w.forCall tape i).Shaped C.prog/\i.vars = []/\Input.okWide C.prog (w.forCall tape i) .any w.heap.size f i /\
   s.preRow enc C.prog fn conds apart laid (w.forCall tape i).memory i.args/\({}:Assume).holds C.prog (lone (Frame.enter C.prog f i.args .normal) [] (w.forCall tape i)) :=
 ⟨w0,fun _ _=>0,⟨#[],args,[]⟩,hos,hsh,(Input.okWide_of_okWideB (base:=0) hok).1,(Input.okWide_of_okWideB hok).2,hrow,by
  simp only[Assume.holds];exact⟨by simp,by simp,fun _=>Modest.zero,by simp,by simp⟩⟩
theorem own:ownKnob Tryz.prog.godebug=none:=by kernel_rfl
theorem Xhp {laid:List (String×DataW Unit)} {W:World} (h:laidMetH Tryz.prog laid W) (hp:(laid.all fun x=>x.2.handleName?.isNone)=true) (hs:W.ShapedOpen Tryz.prog)
 (h1 : ("internal/strconv.uint64pow10", Rows.laid_internal_strconv_uint64pow10) ∈ laid) (h2 : ("cicerone/event.kindNames", Rows.laid_cicerone_event_kindNames) ∈ laid) : Gl W where
 maxLen:=Qvd (t:=3) (zero := #[Vj 0]) hs (of_decide_eq_true Kr) Kr rfl Kr Kr Kr
 pow10:=by
  obtain⟨g,t,cs,fuel,p,hg,ht,hv,hd⟩:=Qse h hp h1;obtain rfl:=Zbe (Xjn.symm.trans hg);obtain rfl:=Zbe ((show (Tryz.prog.globals[3]?).map (·.type)=some 382 by kernel_rfl).symm.trans ht);unfold Lib.TabIs;rw[hv,<- Lib.cells_of_tab (k := .u64) (zs:=Lib.pow10Tab) (e:=30) (n:=20) Kr Kr Kr Kr hd]
 kinds:=by
  obtain⟨g,t,cs,fuel,p,hg,ht,hv,hd⟩:=Qse h hp h2
  have hgk : Tryz.prog.globalNamed "cicerone/event.kindNames" = some 1 := by kernel_rfl
  obtain rfl:=Zbe (hgk.symm.trans hg);obtain rfl:=Zbe ((show (Tryz.prog.globals[1]?).map (·.type)=some 213 by kernel_rfl).symm.trans ht);have hcs:=Qpp (zs:=kindNames.map (·.data.toList)) (e:=9) (n:=15) Kr Kr Kr Kr hd;intro j v hj;rw[Q8,World.var?_cell hgk hv j,<- Zcr,hcs];simp only[Zy,Zaq] at hj ⊢
  cases hk:kindNames[j]? with
  | none=>rw[hk] at hj;simp at hj
  | some s=>rw[hk] at hj;simpa [bytesOf] using hj
 size:=Qtd hs 9 Kr
