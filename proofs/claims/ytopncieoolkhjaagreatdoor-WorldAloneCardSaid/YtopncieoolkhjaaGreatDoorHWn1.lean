import Derived.Test.YtopncieoolkhjaaGreatDoorHWs1
/- The law WorldAlone. -/
set_option linter.unusedVariables false
set_option linter.unusedSimpArgs false
namespace Go.Proofs.YtopncieoolkhjaaGreatDoor
open Go.Se Go.RowKit
theorem Qu8 {l:List Ev} (hl:∀ e ∈ l,Xo e = true) (q:Ev → Bool) : Qbl ((Qbl l).filter q) = (Qbl l).filter q := by
 have hz : ∀ e ∈ (Qbl l).filter q,e ∈ Qbl l := fun e he => (List.mem_filter.1 he).1
 have hm : ∀ e ∈ (Qbl l).filter q,Xo e = true := fun e he => hl e (Qgp (hz e he))
 have hids : ((Qbl l).filter q).Pairwise (fun a b => idE a ≠ idE b) := (Qs5 hl).sublist List.filter_sublist
 have o := Qrr hm
 have hon : ∀ x,x ∈ Qah ((Qbl l).filter q) ↔ x ∈ (Qbl l).filter q := fun x => by
  rw [o.mem]
  refine ⟨fun h => h.1,fun h => ⟨h,fun y hy he => ?_⟩⟩
  obtain rfl := Qox hids hy h he
  have h1 := (Qfv _).subset ((Qc7 l).subset (hz y h))
  exact (((Qrr hl).mem y).1 h1).2 y (Qja h1) rfl
 have hkeep : ∀ x ∈ Qah ((Qbl l).filter q),Qgg (Qah ((Qbl l).filter q)) x = true := fun x hx => by
  have h1 := (Qc7 l).subset (hz x ((hon x).1 hx))
  have h2 := (List.mem_filter.1 h1).2
  unfold Qgg at h2 ⊢
  rw [Bool.or_eq_true] at h2 ⊢
  refine h2.imp (fun h => ?_) id
  rw [Bool.not_eq_true'] at h ⊢
  unfold Qfc at h ⊢
  rw [List.any_eq_false] at h ⊢
  intro y hy
  exact h y ((Qfv _).subset ((Qc7 l).subset (hz y ((hon y).1 hy))))
 have hleft : Qhx (Qah ((Qbl l).filter q)) = Qah ((Qbl l).filter q) := List.filter_eq_self.2 hkeep
 refine (Qqr hm ?_ (List.Pairwise.sublist List.filter_sublist (Qmy l))).symm
 rw [hleft]
 exact Qck (Qoy hids) (Qoy o.ids) (fun x hx => (hon x).2 hx) fun x hx => (hon x).1 hx
theorem Q1y {c:Cfg} {z:List Ev} (hr:Rise z) (hm:∀ e ∈ z,Xo e = true) (person:ByteArray) (half now:Int) : (Q3y half now (rowsOf (Qq c.width z).rs person)).length ≤ z.length * 8 := by
 have hrs := Qgb c.width z hr hm
 have h1 : (Q3y half now (rowsOf (Qq c.width z).rs person)).length ≤ (Q0g half now (rowsOf (Qq c.width z).rs person)).length := List.length_filter_le _ _
 have h2 := Quu half now (rowsOf (Qq c.width z).rs person)
 have h3 : (rowsOf (Qq c.width z).rs person).length ≤ (Qq c.width z).rs.length := List.length_filter_le _ _
 have h4 := Qzj c.width z
 have h5 := Qsi (fun r:Row => r.2.length) 8 (rowsOf (Qq c.width z).rs person) fun r hr => (hrs r (List.mem_filter.1 hr).1).2.2
 omega
section
variable {w:World} {T:Nat → Prop} {p:Nat} {c:Cfg} {z:List Ev} {v:Value} {col:Nat → Nat} {q:WP} {A:Option Addr} {n cap:Nat} {any:Bool} {last:Ev}
theorem Q4x (h:WQL w T p c z v col q A n cap any last) (hok:Q4a c z) (person:ByteArray) : Cal Tryz.prog 42 [.pointer (some ⟨q.ps,0,none⟩),.string person] w fun r w' => ∃ A c' U,r = .slice A U.length c' ∧ Sl seC 4 w' A U ∧ X9 w' w.heap.size (rowB A) U (Qbh (Qih c.gap) (Qcc (z.filter wpB)) person) ∧ Ext w w' := by
 have hc := h.cts.ses
 rw [(Qfr c.width z).2.2] at hc
 refine (Qmg w _ q.ps _ _ hc (Qrg _) person (hok.ses.tick person)).mono ?_
 rintro _ w' ⟨A',c',U,rfl,hown,hS,hx⟩
 exact ⟨A',c',U,rfl,hown.sl Qb2,hS,hx⟩
theorem Qui (h:WQL w T p c z v col q A n cap any last) (hr:Rise z) (hm:∀ e ∈ z,Xo e = true) (hz:z.length < 1000) (person:ByteArray) (now:Int) (hn:now ≤ 9223372036854775807) : Cal Tryz.prog 45 [.pointer (some ⟨q.pw,0,none⟩),.string person,.int .i64 now] w fun r w' => ∃ i : Option Addr × Nat × List Ct,r = .slice i.1 i.2.2.length i.2.1 ∧ i.2.2.Perm (Q3y (Xq c.half) now (rowsOf (Qq c.width z).rs person)) ∧ Srt Qtz i.2.2 ∧ Sl Qlf 2 w' i.1 i.2.2 ∧ Ext w w' := by
 have hrs := Qgb c.width z hr hm
 have hrl := Qzj c.width z
 refine (Qw3 w _ q.pw _ _ h.cts.crowd person now hn (fun r hr => ⟨(hrs r hr).1,(Ql7 (hrs r hr).1).1⟩) (by
  have := Qsi (fun r:Row => r.2.length) 8 (Qq c.width z).rs fun r hr => (hrs r hr).2.2
  omega) (by omega)).mono ?_
 rintro _ w' ⟨A',c',F,rfl,h1,h2,h3,h4⟩
 exact ⟨(A',c',F),rfl,h1,h2,h3,h4⟩
def Qtl (width:Int) (z:List Ev) (person:ByteArray) : List ByteArray := Xn ((Qaw (Xg (Qq width z).rs).follows person (hist (evs (Qq width z).rs) person)).map (·.1))
theorem Q23 (fl:List (LK × Bool)) (person:ByteArray) (h:List Ev) : ((Qaw fl person h).map (·.1)).length ≤ h.length := by
 have := Qjf (E := h.map (·.text)) (Qa8 (Qge fl person h)) fun x hx => by
  obtain ⟨e,he,_,ht,_⟩ := (Qhr fl person x h).1 hx
  exact List.mem_map.2 ⟨e,he,ht⟩
 rwa [List.length_map (f := fun e : Ev => e.text)] at this
theorem Q08 (width:Int) (z:List Ev) (person:ByteArray) : (Qtl width z person).length ≤ z.length := by
 unfold Qtl
 rw [Qeb]
 refine Nat.le_trans (Q23 _ _ _) ?_
 rw [(Qat width z).2]
 exact Qng z person
theorem Qmd (h:WQL w T p c z v col q A n cap any last) (hr:Rise z) (hm:∀ e ∈ z,Xo e = true) (hz:z.length < 1000) (person:ByteArray) : Cal Tryz.prog 46 [.pointer (some ⟨q.pw,0,none⟩),.string person] w fun r w' => ∃ i : Option Addr × Nat,r = .slice i.1 (Qtl c.width z person).length i.2 ∧ SlT w' i.1 (Qtl c.width z person) ∧ Ext w w' := by
 have hrs := Qgb c.width z hr hm
 have hrl := Qzj c.width z
 refine (Qrn w _ q.pw _ _ h.cts.crowd (fun r hr => (hrs r hr).1) (by omega) person).mono ?_
 rintro _ w' ⟨A',c',rfl,hown,hx⟩
 exact ⟨(A',c'),rfl,hown.sl Qak,hx⟩
theorem Qug (h:WQL w T p c z v col q A n cap any last) (hm:∀ e ∈ z,Xo e = true) (hz:z.length < 1000) (now:Int) : Cal Tryz.prog 47 [.pointer (some ⟨q.pc,0,none⟩),.int .i64 now] w fun r w' => ∃ i : Option Addr × Nat × List ByteArray,r = .slice i.1 (Xn i.2.2).length i.2.1 ∧ SlT w' i.1 (Xn i.2.2) ∧ i.2.2.Nodup ∧ (∀ x,x ∈ i.2.2 ↔ Qf1 (Xc z) now x = true) ∧ i.2.2.length < 1000000 ∧ Ext w w' := by
 have hc := h.cts.cat
 rw [(Qat c.width z).1] at hc
 have hl : (Xc z).length ≤ z.length := List.length_filter_le thB z
 refine (Qvx w _ q.pc _ hc now (fun name => by have := (Qaf (Xc z) (Qk4 hm) name).1; omega) (by omega)).mono ?_
 rintro _ w' ⟨A',c',K,rfl,h1,h2,h3,h4,h5⟩
 exact ⟨(A',c',K),rfl,h1,h2,h3,h4,h5⟩
end
theorem Qvo (width:Int) (p:ByteArray) (z:List Ev) : Qtl width (z.filter (Qaz p)) p = Qtl width z p := by
 unfold Qtl
 refine Q06 fun m => ?_
 rw [(Qat width z).2,(Qat width (z.filter (Qaz p))).2,Qly,Qly,Qxo]
theorem Qzu (c:Cfg) (p:ByteArray) (z:List Ev) : Qbh (Qih c.gap) (Qcc ((z.filter (Qaz p)).filter wpB)) p = Qbh (Qih c.gap) (Qcc (z.filter wpB)) p := by
 unfold Qbh
 rw [Q0l]
theorem Qzv {c:Cfg} {z:List Ev} (hok:Q4a c z) {p:ByteArray} {q:Sn} (h:q ∈ Qbh (Qih c.gap) (Qcc (z.filter wpB)) p) : q.items.length < 1000000 := by
 by_cases hp : p ∈ (Qcc (z.filter wpB)).map (·.1)
 · have : q ∈ Qip c z := by
    unfold Qip Qey
    rw [List.mem_flatMap]
    exact ⟨p,(Qbv _).mem_iff.2 hp,h⟩
   obtain ⟨X,_,hl⟩ := hok.sets q this
   exact hl
 · rw [Qt5] at hp
   have hn : Qd (Qcc (z.filter wpB)) p = none := by
    cases hq : Qd (Qcc (z.filter wpB)) p with
    | none => rfl
    | some v => rw [hq] at hp; exact absurd rfl hp
   unfold Qbh at h
   rw [hn] at h
   simp [Q4b,Qem,Qdf] at h
theorem Q3q {c:Cfg} {z:List Ev} (hok:Q4a c z) (p:ByteArray) : (Qbh (Qih c.gap) (Qcc (z.filter wpB)) p).length < 1000000 := by
 have h1 := (hok.ses.tick p).num
 have h2 := Qtm (Qih c.gap) ((Qd (Qcc (z.filter wpB)) p).getD [])
 unfold Qbh
 simp only [List.length_map]
 omega
theorem Qsm (l l':List ByteArray) (he:l' = l) (A B:Option Addr) (c d:Nat) (w:World) (hs:SlT w A l) (hm:SlT w B l') (hl:l.length < 1000000) :
 Cal Tryz.prog 43 [.slice A l.length c,.slice B l'.length d] w fun r w' => r = .bool true ∧ Ext w w' := by
 subst he
 exact Qia _ A B c d w hs hm hl
def Qqp (c:Cfg) (l:List Ev) (person:ByteArray) : Bool := ((((decide ((30:Int) < l.length)) || l.any (Q0o 300)) || !l.all Xo) || !Qlb c) || decide ((100:Int) < person.size)
theorem Qu5 {c:Cfg} {l:List Ev} {person:ByteArray} (h:Qqp c l person = false) : l.length ≤ 30 ∧ (∀ e ∈ l,Xo e = true) ∧ Qlb c = true := by
 unfold Qqp at h
 simp only [Bool.or_eq_false_iff,Bool.not_eq_false',decide_eq_false_iff_not,List.all_eq_true] at h
 obtain ⟨⟨⟨⟨h1,h2⟩,h3⟩,h4⟩,h5⟩ := h
 exact ⟨by omega,h3,h4⟩
set_option maxHeartbeats 8000000 in
theorem worldAlone_spec (c:Cfg) (l:List Ev) (A:Option Addr) (cap:Nat) (person:ByteArray) (now:Int) (hnow:now ≤ 9223372036854775807) (w:World) (hg0:Gl w) (hs:SlE w A l) :
 Cal Tryz.prog 5 [Q2b c,.slice A l.length cap,.string person,.int .i64 now] w fun r w' => r = .bool true ∧ Ext w w' := by
 have hsz := hg0.size
 refine Fi Tryz.func5 rfl _ rfl rfl ?_;conv=>whnf
 intro b4 w1 hn1; (conv=>whnf);repeat(refine Sg ?_;(conv=>whnf))
 have g4 : At w1 b4 25 (Qs9 c) := hn1.At
 have hx := hn1.ext
 clear hn1
 refine (Qk9 w1 (hg0.ext hx)).mono ?_
 rintro _ w2 ⟨rfl,hx2⟩
 replace g4 := g4.ext hx2
 replace hx := hx.trans hx2
 clear hx2
 (conv=>whnf);repeat(refine Sg ?_;(conv=>whnf))
 constructor
 · intro h; simp at h
 intro _
 (conv=>whnf);repeat(refine Sg ?_;(conv=>whnf))
 refine ⟨Unit,fun _ => (.bool (l.any (Q0o 300))),fun _ w' => Ext w2 w',(),fun hg => ((Qpq l A cap 300 w2 (hs.ext hx) (by simp at hg; omega))).mono fun r w' h => ⟨(),h.1,h.2⟩,?_⟩
 intro _ w3 h2
 have hx3 : Ext w2 w3 := by
  rcases h2 with ⟨_,h⟩ | ⟨_,h⟩
  · exact h
  · rw [h]; exact Ext.refl _
 clear h2
 conv=>whnf
 replace g4 := g4.ext hx3
 replace hx := hx.trans hx3
 refine ⟨Unit,fun _ => (.bool (l.all Xo)),fun _ w' => Ext w3 w',(),fun hg => ((Qs3 l A cap w3 (hs.ext hx) (by have := (Bool.or_eq_false_iff.1 hg).1; simp at this; omega) (Qs6 (Bool.or_eq_false_iff.1 hg).2))).mono fun r w' h => ⟨(),h.1,h.2⟩,?_⟩
 intro _ w4 h2
 have hx4 : Ext w3 w4 := by
  rcases h2 with ⟨_,h⟩ | ⟨_,h⟩
  · exact h
  · rw [h]; exact Ext.refl _
 clear h2
 conv=>whnf
 replace g4 := g4.ext hx4
 replace hx := hx.trans hx4
 refine ⟨Qs9 c,fun _ => ⟨rfl,g4.all⟩,?_⟩;conv=>whnf
 refine ⟨Unit,fun _ => (.bool (Qlb c)),fun _ w' => Ext w4 w',(),fun hg => ((Qin c w4)).mono fun r w' h => ⟨(),h.1,h.2⟩,?_⟩
 intro _ w5 h2
 have hx5 : Ext w4 w5 := by
  rcases h2 with ⟨_,h⟩ | ⟨_,h⟩
  · exact h
  · rw [h]; exact Ext.refl _
 clear h2
 conv=>whnf
 replace g4 := g4.ext hx5
 replace hx := hx.trans hx5
 clear hx3 hx4 hx5
 (conv=>whnf);repeat(refine Sg ?_;(conv=>whnf))
 constructor
 · intro _
   (conv=>whnf);repeat(refine Sg ?_;(conv=>whnf))
   exact ⟨rfl,hx⟩
 intro hq
 have hq : Qqp c l person = false := hq
 obtain ⟨hl,hm,hcf⟩ := Qu5 hq
 clear hq
 (conv=>whnf);repeat(refine Sg ?_;(conv=>whnf))
 refine ⟨Qs9 c,⟨rfl,g4.all⟩,?_⟩; (conv=>whnf);repeat(refine Sg ?_;(conv=>whnf))
 refine (Qkb c hcf l A cap w5 (hg0.ext hx) (hs.ext hx) (by omega) hm).mono ?_
 rintro _ w6 ⟨p,rfl,hW,hx6⟩
 obtain ⟨T,hWQ,_⟩ := hW.q
 obtain ⟨col,q,Aq,nq,capq,anyq,lastq,hL⟩ := hWQ.at_
 replace g4 := g4.ext hx6
 replace hx := hx.trans hx6
 clear hW hx6 hWQ
 (conv=>whnf);repeat(refine Sg ?_;(conv=>whnf))
 refine (Qph l A cap w6 (hs.ext hx) (by omega) hm).mono ?_
 rintro _ w7 ⟨A4,c4,rfl,hs4,hcap4,hx7⟩
 replace g4 := g4.ext hx7
 replace hL := hL.keep fun k hk => hx7.block k hk
 replace hx := hx.trans hx7
 have hzm : ∀ e ∈ Qbl l,Xo e = true := fun e he => hm e (Qgp he)
 have hzr := Qjm hm
 have hzl := Qiz l
 have hless := fun q => Qu8 hm q
 clear hx7 hs hcap4
 generalize Qbl l = z at hL hs4 hzm hzl hzr hless
 have hz : z.length ≤ 30 := by omega
 (conv=>whnf);repeat(refine Sg ?_;(conv=>whnf))
 intro b12 w8 hn8; (conv=>whnf);repeat(refine Sg ?_;(conv=>whnf))
 have o12 : Own evC 8 49 w7.heap.size w8 (some ⟨b12,0,none⟩) 0 [] := Qh5.made hn8 (Nat.le_refl _)
 have h78 := hn8.ext
 clear hn8
 refine Qe Qa (fun (x:Nat × Option Addr × Nat × List Ev) w' => x.1 ≤ z.length ∧ x.2.2.2 = (z.take x.1).filter (Qaz person) ∧ Own evC 8 49 w7.heap.size w' x.2.1 x.2.2.1 x.2.2.2 ∧ Ext w7 w')
  (fun | (k,B,d,H) => [(2,.string person),(3,.int .i64 now),(4,.pointer (some ⟨b4,0,none⟩)),(9,.pointer (some ⟨p,0,none⟩)),(10,.int .i64 0),(11,.slice A4 z.length c4),(12,.slice B H.length d),(13,.int .i64 (k:Nat))]) (fun x => z.length - x.1) (0,some ⟨b12,0,none⟩,0,[]) ⟨Nat.zero_le _,rfl,o12,h78⟩ ⟨rfl,rfl,rfl,rfl,rfl,rfl,rfl,rfl,trivial⟩ ?_
 clear o12 h78
 rintro ⟨k,B,d,H⟩ wa ⟨hk,hH,hown,hxa⟩
 simp only at hk hH hown
 have hHl : H.length ≤ k := by
  rw [hH]
  have := List.length_filter_le (Qaz person) (z.take k)
  rw [List.length_take] at this
  omega
 conv=>whnf
 constructor
 · intro hlt
   have hlt : k < z.length := by simpa using hlt
   obtain ⟨a,rfl,hc⟩ := (hs4.ext hxa).get hlt
   have hHs := Qbj (Qaz person) z k hlt
   rw [← hH] at hHs
   generalize z[k] = e at hc hHs
   clear hH
   (conv=>whnf);repeat(refine Sg ?_;(conv=>whnf))
   refine ⟨a,⟨rfl,by omega,by omega⟩,?_⟩; (conv=>whnf);repeat(refine Sg ?_;(conv=>whnf))
   refine ⟨.string e.person,cells_at hc (k := 4) rfl,?_⟩; (conv=>whnf);repeat(refine Sg ?_;(conv=>whnf))
   refine ⟨a,fun _ => ⟨rfl,by omega,by omega⟩,?_⟩; (conv=>whnf);repeat(refine Sg ?_;(conv=>whnf))
   refine ⟨.string e.person,fun _ => cells_at hc (k := 4) rfl,?_⟩; (conv=>whnf);repeat(refine Sg ?_;(conv=>whnf))
   constructor
   · intro hq
     have hq : Qaz person e = true := hq
     rw [if_pos hq] at hHs
     (conv=>whnf);repeat(refine Sg ?_;(conv=>whnf))
     refine ⟨a,⟨rfl,by omega,by omega⟩,?_⟩; (conv=>whnf);repeat(refine Sg ?_;(conv=>whnf))
     refine ⟨evC e,⟨rfl,hc⟩,?_⟩; (conv=>whnf);repeat(refine Sg ?_;(conv=>whnf))
     intro bb wb hnb; (conv=>whnf);repeat(refine Sg ?_;(conv=>whnf))
     refine Qn Qh5 (l := H) (news := [e]) rfl (hown.ext hnb.ext) rfl (Qh5.new1 (x := e) hnb) (by simp; omega) (hxa.trans hnb.ext).size fun A6 c6 w6 hown6 hg6 hA6 => ?_
     have hx6 := Ql (hxa.trans hnb.ext) hg6 (Qz (hown.ext hnb.ext))
     generalize H ++ [e] = H2 at hown6 hHs ⊢
     (conv=>whnf);repeat(refine Sg ?_;(conv=>whnf))
     refine ⟨_,wrap_succ (by omega),?_⟩; (conv=>whnf);repeat(refine Sg ?_;(conv=>whnf))
     exact ⟨(k + 1,A6,c6,H2),by simp only; omega,⟨by simp only; omega,hHs.symm,hown6,hx6⟩,⟨rfl,rfl,rfl,rfl,rfl,rfl,rfl,rfl,trivial⟩⟩
   · intro hq
     have hq : Qaz person e = false := hq
     rw [if_neg (by rw [hq]; decide),List.append_nil] at hHs
     (conv=>whnf);repeat(refine Sg ?_;(conv=>whnf))
     refine ⟨_,wrap_succ (by omega),?_⟩; (conv=>whnf);repeat(refine Sg ?_;(conv=>whnf))
     exact ⟨(k + 1,B,d,H),by simp only; omega,⟨by simp only; omega,hHs.symm,hown,hxa⟩,⟨rfl,rfl,rfl,rfl,rfl,rfl,rfl,rfl,trivial⟩⟩
 intro hge
 have hge : z.length ≤ k := by simpa using hge
 rw [List.take_of_length_le hge] at hH
 have hHa : Qbl H = H := by rw [hH]; exact hless _
 have hHm : ∀ e ∈ H,Xo e = true := fun e he => by rw [hH] at he; exact hzm e (List.mem_filter.1 he).1
 have hHr : Rise H := by rw [hH]; exact hzr.sublist List.filter_sublist
 have hsH := hown.sl Xb
 replace g4 := g4.ext hxa
 replace hL := hL.keep fun k hk => hxa.block k hk
 replace hx := hx.trans hxa
 clear hown hxa hs4 hless hge
 (conv=>whnf);repeat(refine Sg ?_;(conv=>whnf))
 refine ⟨Qs9 c,⟨rfl,g4.all⟩,?_⟩; (conv=>whnf);repeat(refine Sg ?_;(conv=>whnf))
 refine (Qkb c hcf H B d wa (hg0.ext hx) hsH (by omega) hHm).mono ?_
 rintro _ wb ⟨p2,rfl,hW2,hxb⟩
 rw [hHa] at hW2
 obtain ⟨T2,hWQ2,_⟩ := hW2.q
 obtain ⟨col2,q2,Aq2,nq2,capq2,anyq2,lastq2,hL2⟩ := hWQ2.at_
 replace hL := hL.keep fun k hk => hxb.block k hk
 replace hx := hx.trans hxb
 have hHl2 : H.length ≤ 30 := by omega
 have hok := Q38 c z hzm (by omega)
 have hok2 := Q38 c H hHm (by omega)
 have e1 : Qbh (Qih c.gap) (Qcc (H.filter wpB)) person = Qbh (Qih c.gap) (Qcc (z.filter wpB)) person := by rw [hH]; exact Qzu c person z
 have e2 : Qen H person = Qen z person := by rw [hH]; exact Qu6 person z
 have e3 : rowsOf (Qq c.width H).rs person = rowsOf (Qq c.width z).rs person := by rw [hH]; exact Qu7 c.width person z hzm
 have e4 : Qtl c.width H person = Qtl c.width z person := by rw [hH]; exact Qvo c.width person z
 have e5 : Xc H = Xc z := by rw [hH]; exact Qie person hzm
 clear hW2 hWQ2 hxb hsH g4 hHa hH
 (conv=>whnf);repeat(refine Sg ?_;(conv=>whnf))
 constructor
 · intro h; simp at h
 intro _
 (conv=>whnf);repeat(refine Sg ?_;(conv=>whnf))
 refine (Qgi hL).mono ?_
 rintro _ u1 ⟨rfl,h1⟩
 replace hL := hL.keep fun k hk => (h1).block k hk
 replace hL2 := hL2.keep fun k hk => (h1).block k hk
 replace hx := hx.trans h1
 (conv=>whnf);repeat(refine Sg ?_;(conv=>whnf))
 refine (Q4x hL hok person).mono ?_
 rintro _ u2 ⟨A5,d5,U,rfl,hsU,hSU,h2⟩
 replace hL := hL.keep fun k hk => (h2).block k hk
 replace hL2 := hL2.keep fun k hk => (h2).block k hk
 replace hx := hx.trans h2
 (conv=>whnf);repeat(refine Sg ?_;(conv=>whnf))
 refine (Qgi hL2).mono ?_
 rintro _ u3 ⟨rfl,h3⟩
 replace hL := hL.keep fun k hk => (h3).block k hk
 replace hL2 := hL2.keep fun k hk => (h3).block k hk
 replace hx := hx.trans h3
 replace hsU := hsU.ext h3
 replace hSU := hSU.ext h3
 (conv=>whnf);repeat(refine Sg ?_;(conv=>whnf))
 refine (Q4x hL2 hok2 person).mono ?_
 rintro _ u4 ⟨A6,d6,V,rfl,hsV,hSV,h4⟩
 replace hL := hL.keep fun k hk => (h4).block k hk
 replace hL2 := hL2.keep fun k hk => (h4).block k hk
 replace hx := hx.trans h4
 replace hsU := hsU.ext h4
 replace hSU := hSU.ext h4
 rw [e1] at hSV
 have hitm : ∀ x ∈ Qbh (Qih c.gap) (Qcc (z.filter wpB)) person,x.items.length < 1000000 := fun x hx => Qzv hok hx
 have hQl := Q3q hok person
 generalize Qbh (Qih c.gap) (Qcc (z.filter wpB)) person = Q at hSU hSV hitm hQl
 have hUl := hSU.len
 have hVl := hSV.len
 clear h1 h2 h3 h4 e1
 have hVU : V.length = U.length := by omega
 rw [hVU]
 (conv=>whnf);repeat(refine Sg ?_;(conv=>whnf))
 constructor
 · intro h; simp at h
 intro _
 (conv=>whnf);repeat(refine Sg ?_;(conv=>whnf))
 refine Qe Qa (fun (k:Nat) w' => k ≤ U.length ∧ Ext u4 w') (fun k => [(2,.string person),(3,.int .i64 now),(9,.pointer (some ⟨p,0,none⟩)),(14,.pointer (some ⟨p2,0,none⟩)),(16,.slice A5 U.length d5),(17,.slice A6 U.length d6),(18,.int .i64 (k:Nat))]) (fun k => U.length - k) 0 ⟨Nat.zero_le _,Ext.refl _⟩ ⟨rfl,rfl,rfl,rfl,rfl,rfl,rfl,trivial⟩ ?_
 rintro k u5 ⟨hk5,h5⟩
 conv=>whnf
 constructor
 · intro hlt
   have hlt : k < U.length := by simpa using hlt
   have hltV : k < V.length := by omega
   have hltQ : k < Q.length := by omega
   obtain ⟨a,rfl,hc⟩ := (hsU.ext h5).get hlt
   obtain ⟨b,rfl,hd⟩ := (hsV.ext h5).get hltV
   have hat := (hSU.ext h5).at_ k U[k] Q[k] (List.getElem?_eq_getElem hlt) (List.getElem?_eq_getElem hltQ)
   have hbt := (hSV.ext h5).at_ k V[k] Q[k] (List.getElem?_eq_getElem hltV) (List.getElem?_eq_getElem hltQ)
   have hil := hitm _ (List.getElem_mem hltQ)
   generalize Q[k] = s at hat hbt hil
   generalize U[k] = x at hc hat
   generalize V[k] = y at hd hbt
   obtain ⟨x1,x2,x3,x4,x5,x6⟩ := x
   obtain ⟨y1,y2,y3,y4,y5,y6⟩ := y
   obtain ⟨hx1,hx2,hx3,hx4,hx5,_,_⟩ := hat
   obtain ⟨hy1,hy2,hy3,hy4,hy5,_,_⟩ := hbt
   simp only at hx1 hx2 hx3 hx4 hx5 hy1 hy2 hy3 hy4 hy5
   subst hx1 hx2 hx3 hx4 hy1 hy2 hy3 hy4
   (conv=>whnf);repeat(refine Sg ?_;(conv=>whnf))
   refine Dr .same [0,1,2,3,4,5,6,7,8,9,10,11,12,13,14,15,16,17,18,19,20,21,22,23,24,25,26,27,28,29,30,31,32,33,34,35,36,37,38,39,40,41,42,43,44,45,46,47] [48,49,50] ?_;conv=>whnf
   have hxd : Ext u5 u5.drew := (Ext.refl u5).drew
   replace hc := hxd.cells hc
   replace hd := hxd.cells hd
   replace hx5 := hx5.ext hxd
   replace hy5 := hy5.ext hxd
   replace h5 := h5.trans hxd
   generalize u5.drew = u6 at hc hd hx5 hy5 h5 ⊢
   refine ⟨a,⟨rfl,by omega,by omega⟩,?_⟩;conv=>whnf
   refine ⟨.string s.person,cells_at hc (k := 0) rfl,?_⟩;conv=>whnf
   refine ⟨b,⟨rfl,by omega,by omega⟩,?_⟩;conv=>whnf
   refine ⟨.string s.person,cells_at hd (k := 0) rfl,?_⟩;conv=>whnf
   refine ⟨a,fun _ => ⟨rfl,by omega,by omega⟩,?_⟩;conv=>whnf
   refine ⟨.int .i64 s.from_,fun _ => cells_at hc (k := 1) rfl,?_⟩;conv=>whnf
   refine ⟨b,fun _ => ⟨rfl,by omega,by omega⟩,?_⟩;conv=>whnf
   refine ⟨.int .i64 s.from_,fun _ => cells_at hd (k := 1) rfl,?_⟩;conv=>whnf
   refine ⟨a,fun _ => ⟨rfl,by omega,by omega⟩,?_⟩;conv=>whnf
   refine ⟨.int .i64 s.to_,fun _ => cells_at hc (k := 2) rfl,?_⟩;conv=>whnf
   refine ⟨b,fun _ => ⟨rfl,by omega,by omega⟩,?_⟩;conv=>whnf
   refine ⟨.int .i64 s.to_,fun _ => cells_at hd (k := 2) rfl,?_⟩;conv=>whnf
   refine ⟨a,fun _ => ⟨rfl,by omega,by omega⟩,?_⟩;conv=>whnf
   refine ⟨.slice x4 s.items.length x6,fun _ => cells_at hc (k := 3) rfl,?_⟩;conv=>whnf
   refine ⟨b,fun _ => ⟨rfl,by omega,by omega⟩,?_⟩;conv=>whnf
   refine ⟨.slice y4 s.items.length y6,fun _ => cells_at hd (k := 3) rfl,?_⟩;conv=>whnf
   refine ⟨Unit,fun _ => (.bool true),fun _ w' => Ext u6 w',(),fun hg => ((Qia s.items x4 y4 x6 y6 u6 hx5 hy5 (by omega))).mono fun r w' h => ⟨(),h.1,h.2⟩,?_⟩
   intro _ u7 h2
   have hx67 : Ext u6 u7 := by
    rcases h2 with ⟨_,h⟩ | ⟨_,h⟩
    · exact h
    · rw [h]; exact Ext.refl _
   clear h2
   conv=>whnf
   (conv=>whnf);repeat(refine Sg ?_;(conv=>whnf))
   constructor
   · intro h; simp at h
   intro _
   (conv=>whnf);repeat(refine Sg ?_;(conv=>whnf))
   refine ⟨_,wrap_succ (by omega),?_⟩; (conv=>whnf);repeat(refine Sg ?_;(conv=>whnf))
   exact ⟨k + 1,by omega,⟨by omega,h5.trans hx67⟩,⟨rfl,rfl,rfl,rfl,rfl,rfl,rfl,trivial⟩⟩
 intro _
 clear hsU hsV hSU hSV hitm hUl hVl hVU
 replace hL := hL.keep fun k hk => (h5).block k hk
 replace hL2 := hL2.keep fun k hk => (h5).block k hk
 replace hx := hx.trans h5
 clear h5
 (conv=>whnf);repeat(refine Sg ?_;(conv=>whnf))
 refine (Qdm hL).mono ?_
 rintro _ v1 ⟨rfl,h1⟩
 replace hL := hL.keep fun k hk => (h1).block k hk
 replace hL2 := hL2.keep fun k hk => (h1).block k hk
 replace hx := hx.trans h1
 (conv=>whnf);repeat(refine Sg ?_;(conv=>whnf))
 refine (Qh4 hL (by omega) person).mono ?_
 rintro _ v2 ⟨⟨B2,d2⟩,rfl,hs2,h2⟩
 replace hL := hL.keep fun k hk => (h2).block k hk
 replace hL2 := hL2.keep fun k hk => (h2).block k hk
 replace hx := hx.trans h2
 (conv=>whnf);repeat(refine Sg ?_;(conv=>whnf))
 refine (Qdm hL2).mono ?_
 rintro _ v3 ⟨rfl,h3⟩
 replace hL := hL.keep fun k hk => (h3).block k hk
 replace hL2 := hL2.keep fun k hk => (h3).block k hk
 replace hx := hx.trans h3
 replace hs2 := hs2.ext h3
 (conv=>whnf);repeat(refine Sg ?_;(conv=>whnf))
 refine (Qh4 hL2 (by omega) person).mono ?_
 rintro _ v4 ⟨⟨B4,d4⟩,rfl,hs4,h4⟩
 replace hL := hL.keep fun k hk => (h4).block k hk
 replace hL2 := hL2.keep fun k hk => (h4).block k hk
 replace hx := hx.trans h4
 replace hs2 := hs2.ext h4
 rw [e2] at hs4 ⊢
 simp only at hs2 hs4
 (conv=>whnf);repeat(refine Sg ?_;(conv=>whnf))
 refine (Qpm (Qen z person) (Qen z person) B2 B4 d2 d4 v4 hs2 hs4 (by have := Qng z person; omega)).mono ?_
 rintro _ v5 ⟨rfl,h5⟩
 rw [decide_eq_true rfl]
 replace hL := hL.keep fun k hk => (h5).block k hk
 replace hL2 := hL2.keep fun k hk => (h5).block k hk
 replace hx := hx.trans h5
 clear h1 h2 h3 h4 h5 hs2 hs4
 (conv=>whnf);repeat(refine Sg ?_;(conv=>whnf))
 refine ⟨Unit,(fun _ => .pointer (some ⟨q.pw,0,none⟩)),(fun _ w' => Ext v5 w'),(),fun _ => ((Qdm hL).mono fun r w' h => ⟨(),h.1,h.2⟩),?_⟩
 rintro iv6 v6 hqv6
 replace hqv6 := hqv6.elim (fun h => h.2) fun h => (h.1 (And.intro (by first | rfl | simp | decide) trivial)).elim
 conv=>whnf
 replace hL := hL.keep fun k hk => (hqv6).block k hk
 replace hL2 := hL2.keep fun k hk => (hqv6).block k hk
 replace hx := hx.trans hqv6
 refine ⟨(Option Addr × Nat × List Ct),(fun i => .slice i.1 i.2.2.length i.2.1),(fun i w' => i.2.2.Perm (Q3y (Xq c.half) now (rowsOf (Qq c.width z).rs person)) ∧ Srt Qtz i.2.2 ∧ Sl Qlf 2 w' i.1 i.2.2 ∧ Ext v6 w'),(none,0,[]),fun _ => (Qui hL hzr hzm (by omega) person now hnow),?_⟩
 rintro iv7 v7 hqv7
 replace hqv7 := hqv7.elim (fun h => h.2) fun h => (h.1 (And.intro (by first | rfl | simp | decide) trivial)).elim
 obtain ⟨Av7,cv7,Fv7⟩ := iv7
 obtain ⟨hpv7,hrv7,hsv7,hqv7⟩ := hqv7
 simp only at hpv7 hrv7 hsv7
 conv=>whnf
 replace hL := hL.keep fun k hk => (hqv7).block k hk
 replace hL2 := hL2.keep fun k hk => (hqv7).block k hk
 replace hx := hx.trans hqv7
 refine ⟨Unit,(fun _ => .pointer (some ⟨q2.pw,0,none⟩)),(fun _ w' => Ext v7 w'),(),fun _ => ((Qdm hL2).mono fun r w' h => ⟨(),h.1,h.2⟩),?_⟩
 rintro iv8 v8 hqv8
 replace hqv8 := hqv8.elim (fun h => h.2) fun h => (h.1 (And.intro (by first | rfl | simp | decide) trivial)).elim
 conv=>whnf
 replace hL := hL.keep fun k hk => (hqv8).block k hk
 replace hL2 := hL2.keep fun k hk => (hqv8).block k hk
 replace hx := hx.trans hqv8
 replace hsv7 := hsv7.ext hqv8
 refine ⟨(Option Addr × Nat × List Ct),(fun i => .slice i.1 i.2.2.length i.2.1),(fun i w' => i.2.2.Perm (Q3y (Xq c.half) now (rowsOf (Qq c.width H).rs person)) ∧ Srt Qtz i.2.2 ∧ Sl Qlf 2 w' i.1 i.2.2 ∧ Ext v8 w'),(none,0,[]),fun _ => (Qui hL2 hHr hHm (by omega) person now hnow),?_⟩
 rintro iv9 v9 hqv9
 replace hqv9 := hqv9.elim (fun h => h.2) fun h => (h.1 (And.intro (by first | rfl | simp | decide) trivial)).elim
 obtain ⟨Av9,cv9,Fv9⟩ := iv9
 obtain ⟨hpv9,hrv9,hsv9,hqv9⟩ := hqv9
 simp only at hpv9 hrv9 hsv9
 conv=>whnf
 replace hL := hL.keep fun k hk => (hqv9).block k hk
 replace hL2 := hL2.keep fun k hk => (hqv9).block k hk
 replace hx := hx.trans hqv9
 replace hsv7 := hsv7.ext hqv9
 rw [e3] at hpv9
 obtain rfl : Fv9 = Fv7 := Qxz hpv9 hpv7 hrv9 hrv7
 have hFl : Fv9.length < 1000000000000 := by have h1 := hpv7.length_eq; have h2 := Q1y (c := c) hzr hzm person (Xq c.half) now; omega
 refine ⟨Unit,(fun _ => .bool true),(fun _ w' => Ext v9 w'),(),fun _ => ((Qq0 Fv9 Av7 Av9 cv7 cv9 v9 hsv7 hsv9 hFl).mono fun r w' h => ⟨(),h.1,h.2⟩),?_⟩
 rintro iv10 v10 hqv10
 replace hqv10 := hqv10.elim (fun h => h.2) fun h => (h.1 (And.intro (by first | rfl | simp | decide) trivial)).elim
 conv=>whnf
 replace hL := hL.keep fun k hk => (hqv10).block k hk
 replace hL2 := hL2.keep fun k hk => (hqv10).block k hk
 replace hx := hx.trans hqv10
 refine ⟨Unit,(fun _ => .pointer (some ⟨q.pw,0,none⟩)),(fun _ w' => Ext v10 w'),(),fun _ => ((Qdm hL).mono fun r w' h => ⟨(),h.1,h.2⟩),?_⟩
 rintro iv11 v11 hqv11
 replace hqv11 := hqv11.elim (fun h => h.2) fun h => (h.1 (And.intro (by first | rfl | simp | decide) trivial)).elim
 conv=>whnf
 replace hL := hL.keep fun k hk => (hqv11).block k hk
 replace hL2 := hL2.keep fun k hk => (hqv11).block k hk
 replace hx := hx.trans hqv11
 refine ⟨(Option Addr × Nat),(fun i => .slice i.1 (Qtl c.width z person).length i.2),(fun i w' => SlT w' i.1 (Qtl c.width z person) ∧ Ext v11 w'),(none,0),fun _ => (Qmd hL hzr hzm (by omega) person),?_⟩
 rintro iv12 v12 hqv12
 replace hqv12 := hqv12.elim (fun h => h.2) fun h => (h.1 (And.intro (by first | rfl | simp | decide) trivial)).elim
 obtain ⟨hsv12,hqv12⟩ := hqv12
 conv=>whnf
 replace hL := hL.keep fun k hk => (hqv12).block k hk
 replace hL2 := hL2.keep fun k hk => (hqv12).block k hk
 replace hx := hx.trans hqv12
 refine ⟨Unit,(fun _ => .pointer (some ⟨q2.pw,0,none⟩)),(fun _ w' => Ext v12 w'),(),fun _ => ((Qdm hL2).mono fun r w' h => ⟨(),h.1,h.2⟩),?_⟩
 rintro iv13 v13 hqv13
 replace hqv13 := hqv13.elim (fun h => h.2) fun h => (h.1 (And.intro (by first | rfl | simp | decide) trivial)).elim
 conv=>whnf
 replace hL := hL.keep fun k hk => (hqv13).block k hk
 replace hL2 := hL2.keep fun k hk => (hqv13).block k hk
 replace hx := hx.trans hqv13
 replace hsv12 := hsv12.ext hqv13
 have hfo2 := Qmd hL2 hHr hHm (by omega) person
 rw [e4] at hfo2
 refine ⟨(Option Addr × Nat),(fun i => .slice i.1 (Qtl c.width z person).length i.2),(fun i w' => SlT w' i.1 (Qtl c.width z person) ∧ Ext v13 w'),(none,0),fun _ => hfo2,?_⟩
 rintro iv14 v14 hqv14
 replace hqv14 := hqv14.elim (fun h => h.2) fun h => (h.1 (And.intro (by first | rfl | simp | decide) trivial)).elim
 clear hfo2
 obtain ⟨hsv14,hqv14⟩ := hqv14
 conv=>whnf
 replace hL := hL.keep fun k hk => (hqv14).block k hk
 replace hL2 := hL2.keep fun k hk => (hqv14).block k hk
 replace hx := hx.trans hqv14
 replace hsv12 := hsv12.ext hqv14
 refine ⟨Unit,(fun _ => .bool true),(fun _ w' => Ext v14 w'),(),fun _ => ((Qia (Qtl c.width z person) iv12.1 iv14.1 iv12.2 iv14.2 v14 hsv12 hsv14 (by have := Q08 c.width z person; omega)).mono fun r w' h => ⟨(),h.1,h.2⟩),?_⟩
 rintro iv15 v15 hqv15
 replace hqv15 := hqv15.elim (fun h => h.2) fun h => (h.1 (And.intro (by first | rfl | simp | decide) trivial)).elim
 conv=>whnf
 replace hL := hL.keep fun k hk => (hqv15).block k hk
 replace hL2 := hL2.keep fun k hk => (hqv15).block k hk
 replace hx := hx.trans hqv15
 refine ⟨Unit,(fun _ => .pointer (some ⟨q.pc,0,none⟩)),(fun _ w' => Ext v15 w'),(),fun _ => ((Qh3 hL).mono fun r w' h => ⟨(),h.1,h.2⟩),?_⟩
 rintro iv16 v16 hqv16
 replace hqv16 := hqv16.elim (fun h => h.2) fun h => (h.1 (And.intro (by first | rfl | simp | decide) trivial)).elim
 conv=>whnf
 replace hL := hL.keep fun k hk => (hqv16).block k hk
 replace hL2 := hL2.keep fun k hk => (hqv16).block k hk
 replace hx := hx.trans hqv16
 refine ⟨(Option Addr × Nat × List ByteArray),(fun i => .slice i.1 (Xn i.2.2).length i.2.1),(fun i w' => SlT w' i.1 (Xn i.2.2) ∧ i.2.2.Nodup ∧ (∀ x,x ∈ i.2.2 ↔ Qf1 (Xc z) now x = true) ∧ i.2.2.length < 1000000 ∧ Ext v16 w'),(none,0,[]),fun _ => (Qug hL hzm (by omega) now),?_⟩
 rintro iv17 v17 hqv17
 replace hqv17 := hqv17.elim (fun h => h.2) fun h => (h.1 (And.intro (by first | rfl | simp | decide) trivial)).elim
 obtain ⟨Av17,cv17,Kv17⟩ := iv17
 obtain ⟨hsv17,hnv17,hmv17,hlv17,hqv17⟩ := hqv17
 simp only at hsv17 hnv17 hmv17 hlv17
 conv=>whnf
 replace hL := hL.keep fun k hk => (hqv17).block k hk
 replace hL2 := hL2.keep fun k hk => (hqv17).block k hk
 replace hx := hx.trans hqv17
 refine ⟨Unit,(fun _ => .pointer (some ⟨q2.pc,0,none⟩)),(fun _ w' => Ext v17 w'),(),fun _ => ((Qh3 hL2).mono fun r w' h => ⟨(),h.1,h.2⟩),?_⟩
 rintro iv18 v18 hqv18
 replace hqv18 := hqv18.elim (fun h => h.2) fun h => (h.1 (And.intro (by first | rfl | simp | decide) trivial)).elim
 conv=>whnf
 replace hL := hL.keep fun k hk => (hqv18).block k hk
 replace hL2 := hL2.keep fun k hk => (hqv18).block k hk
 replace hx := hx.trans hqv18
 replace hsv17 := hsv17.ext hqv18
 refine ⟨(Option Addr × Nat × List ByteArray),(fun i => .slice i.1 (Xn i.2.2).length i.2.1),(fun i w' => SlT w' i.1 (Xn i.2.2) ∧ i.2.2.Nodup ∧ (∀ x,x ∈ i.2.2 ↔ Qf1 (Xc H) now x = true) ∧ i.2.2.length < 1000000 ∧ Ext v18 w'),(none,0,[]),fun _ => (Qug hL2 hHm (by omega) now),?_⟩
 rintro iv19 v19 hqv19
 replace hqv19 := hqv19.elim (fun h => h.2) fun h => (h.1 (And.intro (by first | rfl | simp | decide) trivial)).elim
 obtain ⟨Av19,cv19,Kv19⟩ := iv19
 obtain ⟨hsv19,hnv19,hmv19,hlv19,hqv19⟩ := hqv19
 simp only at hsv19 hnv19 hmv19 hlv19
 conv=>whnf
 replace hL := hL.keep fun k hk => (hqv19).block k hk
 replace hL2 := hL2.keep fun k hk => (hqv19).block k hk
 replace hx := hx.trans hqv19
 replace hsv17 := hsv17.ext hqv19
 have hKK : Xn Kv19 = Xn Kv17 := by
  rw [Qh7 hnv19 (l := Kv17) fun x => by rw [hmv19,hmv17,e5],Qh7 hnv17 (l := Kv17) fun x => Iff.rfl]
 have hKl : (Xn Kv17).length < 1000000 := by rw [Qeb]; exact hlv17
 refine ⟨Unit,(fun _ => .bool true),(fun _ w' => Ext v19 w'),(),fun _ => ((Qsm (Xn Kv17) (Xn Kv19) hKK Av17 Av19 cv17 cv19 v19 hsv17 hsv19 hKl).mono fun r w' h => ⟨(),h.1,h.2⟩),?_⟩
 rintro iv20 v20 hqv20
 replace hqv20 := hqv20.elim (fun h => h.2) fun h => (h.1 (And.intro (by first | rfl | simp | decide) trivial)).elim
 (conv=>whnf);repeat(refine Sg ?_;(conv=>whnf))
 exact ⟨by simp,hx.trans hqv20⟩
end Go.Proofs.YtopncieoolkhjaaGreatDoor
