import Derived.Test.YtopncieoolkhjaaGreatDoorHWp1
/- The law WorldParts. -/
set_option linter.unusedVariables false
set_option linter.unusedSimpArgs false
namespace Go.Proofs.YtopncieoolkhjaaGreatDoor
open Go.Se Go.RowKit
def hpB (person:ByteArray) (e:Ev) : Bool := decide (e.kind < 11) && decide (e.person = person)
theorem Q29 {z:List Ev} (hm:∀ e ∈ z,Xo e = true) (person:ByteArray) : z.filter (hpB person) = Qen z person := Q09 hm person
set_option maxHeartbeats 8000000 in
theorem worldParts_spec (c:Cfg) (l:List Ev) (A:Option Addr) (cap:Nat) (person item:ByteArray) (now:Int) (w:World) (hg0:Gl w) (hs:SlE w A l) :
 Cal Tryz.prog 4 [Q2b c,.slice A l.length cap,.string person,.string item,.int .i64 now] w fun r w' => r = .bool true ∧ Ext w w' := by
 have hsz := hg0.size
 refine Fi Tryz.func4 rfl _ rfl rfl ?_;conv=>whnf
 intro b5 w1 hn1; (conv=>whnf);repeat(refine Sg ?_;(conv=>whnf))
 have g5 : At w1 b5 25 (Qs9 c) := hn1.At
 have hx := hn1.ext
 clear hn1
 refine (Qk9 w1 (hg0.ext hx)).mono ?_
 rintro _ w2 ⟨rfl,hx2⟩
 replace g5 := g5.ext hx2
 replace hx := hx.trans hx2
 clear hx2
 (conv=>whnf);repeat(refine Sg ?_;(conv=>whnf))
 constructor
 · intro h; simp at h
 intro _
 (conv=>whnf);repeat(refine Sg ?_;(conv=>whnf))
 refine ⟨Unit,fun _ => (.bool (l.any (Q0o 300))),fun _ w' => Ext w2 w',(),fun hg => ((Qpq l A cap 300 w2 (hs.ext hx) (by simp at hg; omega))).mono fun r w' h => ⟨(),h.1,h.2⟩,?_⟩
 intro _ w3 h2
 have hx3 : Ext w2 w3 := by
  rcases h2 with ⟨_,h⟩ | ⟨_,h⟩
  · exact h
  · rw [h]; exact Ext.refl _
 clear h2
 conv=>whnf
 replace g5 := g5.ext hx3
 replace hx := hx.trans hx3
 refine ⟨Unit,fun _ => (.bool (l.all Xo)),fun _ w' => Ext w3 w',(),fun hg => ((Qs3 l A cap w3 (hs.ext hx) (by have := (Bool.or_eq_false_iff.1 hg).1; simp at this; omega) (Qs6 (Bool.or_eq_false_iff.1 hg).2))).mono fun r w' h => ⟨(),h.1,h.2⟩,?_⟩
 intro _ w4 h2
 have hx4 : Ext w3 w4 := by
  rcases h2 with ⟨_,h⟩ | ⟨_,h⟩
  · exact h
  · rw [h]; exact Ext.refl _
 clear h2
 conv=>whnf
 replace g5 := g5.ext hx4
 replace hx := hx.trans hx4
 refine ⟨Qs9 c,fun _ => ⟨rfl,g5.all⟩,?_⟩;conv=>whnf
 refine ⟨Unit,fun _ => (.bool (Qlb c)),fun _ w' => Ext w4 w',(),fun hg => ((Qin c w4)).mono fun r w' h => ⟨(),h.1,h.2⟩,?_⟩
 intro _ w5 h2
 have hx5 : Ext w4 w5 := by
  rcases h2 with ⟨_,h⟩ | ⟨_,h⟩
  · exact h
  · rw [h]; exact Ext.refl _
 clear h2
 conv=>whnf
 replace g5 := g5.ext hx5
 replace hx := hx.trans hx5
 clear hx3 hx4 hx5
 (conv=>whnf);repeat(refine Sg ?_;(conv=>whnf))
 constructor
 · intro _
   (conv=>whnf);repeat(refine Sg ?_;(conv=>whnf))
   exact ⟨rfl,hx⟩
 intro hq
 have hq : Q3g c l person item now = false := hq
 obtain ⟨hl,hm,hcf,hnow⟩ := Q1e hq
 clear hq
 (conv=>whnf);repeat(refine Sg ?_;(conv=>whnf))
 refine ⟨Qs9 c,⟨rfl,g5.all⟩,?_⟩; (conv=>whnf);repeat(refine Sg ?_;(conv=>whnf))
 refine (Qkb c hcf l A cap w5 (hg0.ext hx) (hs.ext hx) (by omega) hm).mono ?_
 rintro _ w6 ⟨p,rfl,hW,hx6⟩
 obtain ⟨T,hWT,hT⟩ := hW.t
 have n5 : ¬ T b5 := fun h => by have := hT _ h; have := g5.lt; omega
 have hTw : ∀ k,T k → w.heap.size ≤ k := fun k hk => by have := hT k hk; have := hx.size; omega
 replace g5 := g5.ext hx6
 replace hx := hx.trans hx6
 clear hW hT hx6
 (conv=>whnf);repeat(refine Sg ?_;(conv=>whnf))
 refine (Qph l A cap w6 (hs.ext hx) (by omega) hm).mono ?_
 rintro _ w7 ⟨A4,c4,rfl,hs4,hcap4,hx7⟩
 have hA4 : ∀ a,A4 = some a → ¬ T a.block := fun a ha h => by
  have h1 := hWT.lt _ h
  have h2 := (hcap4.2 a ha).1
  omega
 replace g5 := g5.ext hx7
 replace hWT := hWT.ext hx7
 replace hx := hx.trans hx7
 have hzm : ∀ e ∈ Qbl l,Xo e = true := fun e he => hm e (Qgp he)
 have hzl := Qiz l
 have hcap := hcap4.1
 clear hx7 hs hcap4
 generalize Qbl l = z at hWT hs4 hzm hzl hcap
 have hz : z.length ≤ 30 := by omega
 (conv=>whnf);repeat(refine Sg ?_;(conv=>whnf))
 constructor
 · intro h; simp at h
 intro _
 (conv=>whnf);repeat(refine Sg ?_;(conv=>whnf))
 intro b14 w8 hn8
 have e14 := hn8.block
 have s8 := hn8.size
 replace g5 := g5.ext hn8.ext
 replace hWT := hWT.ext hn8.ext
 replace hs4 := hs4.ext hn8.ext
 replace hx := hx.trans hn8.ext
 have hA8 : ∀ a,A4 = some a → ¬ T a.block := hA4
 clear hn8 hA4
 (conv=>whnf);repeat(refine Sg ?_;(conv=>whnf))
 intro b15 w9 hn9; (conv=>whnf);repeat(refine Sg ?_;(conv=>whnf))
 have e15 := hn9.block
 have s9 := hn9.size
 have o15 : Own evC 8 49 w8.heap.size w9 (some ⟨b15,0,none⟩) 0 [] := Qh5.made hn9 (Nat.le_refl _)
 have h89 := hn9.ext
 clear hn9
 refine Qe Qa (fun (x:Nat × Option Addr × Nat × List ByteArray × Option Addr × Nat × List Ev) w' => x.1 ≤ z.length ∧ x.2.2.2.1 = Qti (z.take x.1) item ∧ x.2.2.2.1.length ≤ x.2.2.1 ∧ SlT w' x.2.1 x.2.2.2.1 ∧ x.2.2.2.2.2.2 = (z.take x.1).filter (hpB person) ∧ Own evC 8 49 w8.heap.size w' x.2.2.2.2.1 x.2.2.2.2.2.1 x.2.2.2.2.2.2 ∧ (∀ a,x.2.1 = some a → a.block < w'.heap.size ∧ ∀ b,x.2.2.2.2.1 = some b → a.block ≠ b.block) ∧ Ext w8 w')
  (fun | (k,B1,d1,F,B2,d2,H) => [(2,.string person),(3,.string item),(4,.int .i64 now),(5,.pointer (some ⟨b5,0,none⟩)),(11,.pointer (some ⟨p,0,none⟩)),(13,.slice A4 z.length c4),(14,.slice B1 F.length d1),(15,.slice B2 H.length d2),(16,.int .i64 0),(17,.int .i64 (k:Nat))]) (fun x => z.length - x.1) (0,some ⟨b14,0,none⟩,0,[],some ⟨b15,0,none⟩,0,[]) ⟨Nat.zero_le _,rfl,Nat.le_refl _,Sl.nil,rfl,o15,fun a ha => by injection ha with ha; subst ha; exact ⟨by simp only; omega,fun b hb => by injection hb with hb; subst hb; simp only; omega⟩,h89⟩ ⟨rfl,rfl,rfl,rfl,rfl,rfl,rfl,rfl,rfl,rfl,trivial⟩ ?_
 clear o15 h89
 rintro ⟨k,B1,d1,F,B2,d2,H⟩ wa ⟨hk,hF,hFd,hsF,hH,hown,hdis,hxa⟩
 simp only at hk hF hFd hsF hH hown hdis
 conv=>whnf
 constructor
 · intro hlt
   have hlt : k < z.length := by simpa using hlt
   obtain ⟨a,rfl,hc8⟩ := hs4.get hlt
   have htk := Xu z k hlt
   have hHs := Qbj (hpB person) z k hlt
   have hFs := Qgw (z.take k) z[k] item
   rw [← htk,← hF] at hFs
   rw [← hH] at hHs
   have hFl : F.length ≤ k := by
    rw [hF]
    have := Q21 item (z.take k)
    rw [List.length_take] at this
    omega
   have hHl : H.length ≤ k := by
    rw [hH]
    have := List.length_filter_le (hpB person) (z.take k)
    rw [List.length_take] at this
    omega
   generalize z[k] = e at hc8 hHs hFs
   clear hF hH htk
   conv=>whnf
   refine Qb Qa ?_;conv=>whnf
   refine Q9 Qa (ι := Option Addr × Nat × List Ev) (fun y => [(2,.string person),(3,.string item),(4,.int .i64 now),(5,.pointer (some ⟨b5,0,none⟩)),(11,.pointer (some ⟨p,0,none⟩)),(13,.slice (some a) z.length c4),(14,.slice B1 F.length d1),(15,.slice y.1 y.2.2.length y.2.1),(16,.int .i64 0),(17,.int .i64 (k:Nat))])
    (fun y w' => y.2.2 = (z.take (k + 1)).filter (hpB person) ∧ Own evC 8 49 w8.heap.size w' y.1 y.2.1 y.2.2 ∧ SlT w' B1 F ∧ (∀ a,B1 = some a → a.block < w'.heap.size ∧ ∀ b,y.1 = some b → a.block ≠ b.block) ∧ Ext w8 w') ?_ ?_
   · (conv=>whnf);repeat(refine Sg ?_;(conv=>whnf))
     have hc := hxa.cells hc8
     refine ⟨a,⟨rfl,by omega,by omega⟩,?_⟩; (conv=>whnf);repeat(refine Sg ?_;(conv=>whnf))
     refine ⟨.int .i64 e.kind,cells_at hc (k := 3) rfl,?_⟩; (conv=>whnf);repeat(refine Sg ?_;(conv=>whnf))
     refine ⟨a,fun _ => ⟨rfl,by omega,by omega⟩,?_⟩; (conv=>whnf);repeat(refine Sg ?_;(conv=>whnf))
     refine ⟨.string e.person,fun _ => cells_at hc (k := 4) rfl,?_⟩; (conv=>whnf);repeat(refine Sg ?_;(conv=>whnf))
     constructor
     · intro hq
       have hq : hpB person e = true := hq
       rw [if_pos hq] at hHs
       (conv=>whnf);repeat(refine Sg ?_;(conv=>whnf))
       refine ⟨a,⟨rfl,by omega,by omega⟩,?_⟩; (conv=>whnf);repeat(refine Sg ?_;(conv=>whnf))
       refine ⟨evC e,⟨rfl,hc⟩,?_⟩; (conv=>whnf);repeat(refine Sg ?_;(conv=>whnf))
       intro bb wb hnb; (conv=>whnf);repeat(refine Sg ?_;(conv=>whnf))
       refine Qn Qh5 (l := H) (news := [e]) rfl (hown.ext hnb.ext) rfl (Qh5.new1 (x := e) hnb) (by simp; omega) (hxa.trans hnb.ext).size fun A6 c6 w6 hown6 hg6 hA6 => ?_
       have hx6 := Ql (hxa.trans hnb.ext) hg6 (Qz (hown.ext hnb.ext))
       have sb := hnb.size
       have s6 := hg6.size
       generalize H ++ [e] = H2 at hown6 hHs ⊢
       (conv=>whnf);repeat(refine Sg ?_;(conv=>whnf))
       refine ⟨(A6,c6,H2),⟨hHs.symm,hown6,Qcs (hsF.ext hnb.ext) fun a' ha' => ?_,fun a' ha' => ⟨by have := (hdis a' ha').1; omega,fun b hb => ?_⟩,hx6⟩,⟨rfl,rfl,rfl,rfl,rfl,rfl,rfl,rfl,rfl,rfl,trivial⟩⟩
       · have h1 := hdis a' ha'
         refine hg6.block a'.block (by omega) fun e' => ?_
         cases B2 with
         | none => simp at e'
         | some b => exact h1.2 b rfl (by simpa using e')
       · have h1 := hdis a' ha'
         have hb : A6 = some b := hb
         rcases hA6 with h | h | h
         · exact h1.2 b (h ▸ hb)
         · cases B2 with
           | none => rw [hb] at h; simp at h
           | some b2 =>
             rw [hb] at h
             have h : b.block = b2.block := by simpa using h
             rw [h]
             exact h1.2 b2 rfl
         · rw [hb] at h
           have h : b.block = wb.heap.size := by simpa using h
           omega
     · intro hq
       have hq : hpB person e = false := hq
       rw [if_neg (by rw [hq]; decide),List.append_nil] at hHs
       (conv=>whnf);repeat(refine Sg ?_;(conv=>whnf))
       exact ⟨(B2,d2,H),⟨hHs.symm,hown,hsF,hdis,hxa⟩,⟨rfl,rfl,rfl,rfl,rfl,rfl,rfl,rfl,rfl,rfl,trivial⟩⟩
   rintro ⟨B3,d3,H3⟩ wb ⟨hH3,hown3,hsF3,hdis3,hxb⟩
   simp only at hH3 hown3 hdis3
   clear hown hdis hsF hxa hHs
   have hc := hxb.cells hc8
   (conv=>whnf);repeat(refine Sg ?_;(conv=>whnf))
   refine ⟨a,⟨rfl,by omega,by omega⟩,?_⟩; (conv=>whnf);repeat(refine Sg ?_;(conv=>whnf))
   refine ⟨.string e.item,cells_at hc (k := 5) rfl,?_⟩; (conv=>whnf);repeat(refine Sg ?_;(conv=>whnf))
   refine ⟨a,fun _ => ⟨rfl,by omega,by omega⟩,?_⟩; (conv=>whnf);repeat(refine Sg ?_;(conv=>whnf))
   refine ⟨evC e,fun _ => ⟨rfl,hc⟩,?_⟩; (conv=>whnf);repeat(refine Sg ?_;(conv=>whnf))
   refine ⟨Unit,fun _ => (.int .i64 (Qo e)),fun _ w' => Ext wb w',(),fun hg => ((Qdn e wb)).mono fun r w' h => ⟨(),h.1,h.2⟩,?_⟩
   intro _ wc h2
   have hxc : Ext wb wc := by
    rcases h2 with ⟨_,h⟩ | ⟨_,h⟩
    · exact h
    · rw [h]; exact Ext.refl _
   clear h2
   conv=>whnf
   have hcc := hxc.cells hc
   have sc := hxc.size
   (conv=>whnf);repeat(refine Sg ?_;(conv=>whnf))
   constructor
   · intro hq
     have hq : e.item = item ∧ 0 < Qo e := by
      have : (decide (e.item = item) && decide (0 < Qo e)) = true := hq
      simpa using this
     rw [if_pos hq] at hFs
     (conv=>whnf);repeat(refine Sg ?_;(conv=>whnf))
     refine ⟨a,⟨rfl,by omega,by omega⟩,?_⟩; (conv=>whnf);repeat(refine Sg ?_;(conv=>whnf))
     refine ⟨.string e.person,cells_at hcc (k := 4) rfl,?_⟩; (conv=>whnf);repeat(refine Sg ?_;(conv=>whnf))
     refine (Qum F e.person B1 d1 wc (hsF3.ext hxc) (by omega) hFd).mono ?_
     rintro _ wd ⟨B4,d4,rfl,hle4,hsF4,hnew4,hxd⟩
     have sd := hxd.size
     generalize Qns F e.person = F2 at hle4 hsF4 hFs ⊢
     (conv=>whnf);repeat(refine Sg ?_;(conv=>whnf))
     refine ⟨_,wrap_succ (by omega),?_⟩; (conv=>whnf);repeat(refine Sg ?_;(conv=>whnf))
     refine ⟨(k + 1,B4,d4,F2,B3,d3,H3),by simp only; omega,⟨by simp only; omega,hFs.symm,hle4,hsF4,hH3,(hown3.ext hxc).ext hxd,fun a' ha' => ?_,(hxb.trans hxc).trans hxd⟩,⟨rfl,rfl,rfl,rfl,rfl,rfl,rfl,rfl,rfl,rfl,trivial⟩⟩
     simp only at ha' ⊢
     rcases hnew4 with h | h
     · subst h
       have h1 := hdis3 a' ha'
       exact ⟨by omega,h1.2⟩
     · have h1 := h a' ha'
       refine ⟨h1.2,fun b hb e' => ?_⟩
       have := (hown3.block hb).2
       omega
   · intro hq
     have hq : ¬ (e.item = item ∧ 0 < Qo e) := by
      have : (decide (e.item = item) && decide (0 < Qo e)) = false := hq
      intro h
      simp [h.1,h.2] at this
     rw [if_neg hq] at hFs
     (conv=>whnf);repeat(refine Sg ?_;(conv=>whnf))
     refine ⟨_,wrap_succ (by omega),?_⟩; (conv=>whnf);repeat(refine Sg ?_;(conv=>whnf))
     exact ⟨(k + 1,B1,d1,F,B3,d3,H3),by simp only; omega,⟨by simp only; omega,hFs.symm,hFd,hsF3.ext hxc,hH3,hown3.ext hxc,fun a' ha' => ⟨by have := (hdis3 a' ha').1; omega,(hdis3 a' ha').2⟩,hxb.trans hxc⟩,⟨rfl,rfl,rfl,rfl,rfl,rfl,rfl,rfl,rfl,rfl,trivial⟩⟩
 intro hge
 have hge : z.length ≤ k := by simpa using hge
 rw [List.take_of_length_le hge] at hF hH
 rw [Q29 hzm] at hH
 subst hF hH
 replace g5 := g5.ext hxa
 replace hWT := hWT.ext hxa
 replace hs4 := hs4.ext hxa
 replace hx := hx.trans hxa
 have hsH := hown.sl Xb
 obtain ⟨c1,c2,c3,c4',c5,c6,c7⟩ := Qon hcf
 have hgid : Qih c.gap = c.gap := by unfold Qih; omega
 clear hown hdis hsF hxa hFd hge hk s8 s9 e14 e15
 (conv=>whnf);repeat(refine Sg ?_;(conv=>whnf))
 refine ⟨vi c.gap,g5.one rfl,?_⟩; (conv=>whnf);repeat(refine Sg ?_;(conv=>whnf))
 refine (Qlh z A4 c4 c.gap c5 wa hs4 (by omega) hzm).mono ?_
 rintro _ wb ⟨A5,d5,U,rfl,hsU,hSU,hxb⟩
 have hQ : Qey c.gap (Qcc (z.filter wpB)) = Qip c z := by unfold Qip; rw [hgid]
 rw [hQ] at hSU
 have hUl := hSU.len
 have hok := Q38 c z hzm (by omega)
 have hql := hok.len
 have hqi : ∀ (i:Nat) q,(Qip c z)[i]? = some q → q.items.length < 1000000 := fun i q hq => by
  obtain ⟨X,_,h⟩ := hok.sets q (List.mem_of_getElem? hq)
  exact h
 replace g5 := g5.ext hxb
 replace hWT := hWT.ext hxb
 replace hs4 := hs4.ext hxb
 replace hsH := hsH.ext hxb
 replace hx := hx.trans hxb
 clear hxb hQ
 (conv=>whnf);repeat(refine Sg ?_;(conv=>whnf))
 refine Qe Qa (fun (k:Nat) w' => k ≤ U.length ∧ w' = wb)
  (fun k => [(2,.string person),(3,.string item),(4,.int .i64 now),(5,.pointer (some ⟨b5,0,none⟩)),(11,.pointer (some ⟨p,0,none⟩)),(13,.slice A4 z.length c4),(14,.slice B1 (Qti z item).length d1),(15,.slice B2 (Qen z person).length d2),(16,.int .i64 ((Qcr ((Qip c z).take k) item : Nat) : Int)),(18,.slice A5 U.length d5),(19,.int .i64 (k:Nat))]) (fun k => U.length - k) 0 ⟨Nat.zero_le _,rfl⟩ ⟨rfl,rfl,rfl,rfl,rfl,rfl,rfl,rfl,rfl,rfl,rfl,trivial⟩ ?_
 rintro k w10 ⟨hk,hw10⟩
 replace hw10 := hw10.symm
 subst hw10
 conv=>whnf
 constructor
 · intro hlt
   have hlt : k < U.length := by simpa using hlt
   have hltQ : k < (Qip c z).length := by omega
   obtain ⟨a,rfl,hc⟩ := hsU.get hlt
   have hat := hSU.at_ k U[k] (Qip c z)[k] (List.getElem?_eq_getElem hlt) (List.getElem?_eq_getElem hltQ)
   have hil := hqi k _ (List.getElem?_eq_getElem hltQ)
   have hss := Qko ((Qip c z).take k) (Qip c z)[k] item
   rw [← Xu _ k hltQ] at hss
   have hsl := Qpp ((Qip c z).take k) item
   rw [List.length_take] at hsl
   generalize (Qip c z)[k] = q at hat hil hss
   generalize U[k] = d at hc hat
   obtain ⟨pe,fr,to_,B6,n6,c6'⟩ := d
   obtain ⟨_,_,_,hn6,hsi,_,_⟩ := hat
   simp only at hn6 hsi
   subst hn6
   (conv=>whnf);repeat(refine Sg ?_;(conv=>whnf))
   refine ⟨a,⟨rfl,by omega,by omega⟩,?_⟩; (conv=>whnf);repeat(refine Sg ?_;(conv=>whnf))
   refine ⟨.slice B6 q.items.length c6',cells_at hc (k := 3) rfl,?_⟩; (conv=>whnf);repeat(refine Sg ?_;(conv=>whnf))
   refine (Quj q.items item B6 c6' wb hsi (by omega)).mono ?_
   rintro _ wc ⟨rfl,hwc⟩
   replace hwc := hwc.symm
   subst hwc
   (conv=>whnf);repeat(refine Sg ?_;(conv=>whnf))
   constructor
   · intro hq
     have hq : item ∈ q.items := Qht.1 hq
     rw [if_pos hq] at hss
     (conv=>whnf);repeat(refine Sg ?_;(conv=>whnf))
     refine ⟨((Qcr ((Qip c z).take (k + 1)) item : Nat) : Int),by rw [hss]; exact wrap_i64 ⟨by omega,by omega⟩,?_⟩; (conv=>whnf);repeat(refine Sg ?_;(conv=>whnf))
     refine ⟨_,wrap_succ (by omega),?_⟩; (conv=>whnf);repeat(refine Sg ?_;(conv=>whnf))
     exact ⟨k + 1,by omega,⟨by omega,rfl⟩,⟨rfl,rfl,rfl,rfl,rfl,rfl,rfl,rfl,rfl,rfl,rfl,trivial⟩⟩
   · intro hq
     have hq : ¬ item ∈ q.items := Qx9.1 hq
     rw [if_neg hq] at hss
     have hss2 : ((Qcr ((Qip c z).take (k + 1)) item : Nat) : Int) = ((Qcr ((Qip c z).take k) item : Nat) : Int) := by omega
     (conv=>whnf);repeat(refine Sg ?_;(conv=>whnf))
     refine ⟨_,wrap_succ (by omega),?_⟩; (conv=>whnf);repeat(refine Sg ?_;(conv=>whnf))
     exact ⟨k + 1,by omega,⟨by omega,rfl⟩,⟨rfl,rfl,rfl,rfl,rfl,rfl,rfl,rfl,int_eq hss2.symm,rfl,rfl,trivial⟩⟩
 intro hge
 have hge : U.length ≤ k := by simpa using hge
 rw [List.take_of_length_le (show (Qip c z).length ≤ k by omega)]
 clear hge hk hsU hSU hqi
 (conv=>whnf);repeat(refine Sg ?_;(conv=>whnf))
 refine Dr (.mods T) [0,2,4,5,1,3,6,7,8,10,12,9,11,13,14,15,16,18,19,21,22,23,25,26,17,20,24,27,28,29,30,31,33,34,36,37,38,40,41,32,35,39,42,43,44,45,46,49,50,47,48,51,52,53,54,56,58,55,57,59,60,61,62,66,67,63,64,65,68,69,70,71,73,76,72,74,75,77,78,79,80,81] [] ?_;conv=>whnf
 have hxd : Ext wb wb.drew := (Ext.refl wb).drew
 replace g5 := g5.ext hxd
 replace hs4 := hs4.ext hxd
 replace hsH := hsH.ext hxd
 replace hWT := hWT.ext hxd
 replace hx := hx.trans hxd
 generalize wb.drew = u0 at g5 hs4 hsH hWT hx ⊢
 clear hxd
 obtain ⟨v0,T0,hQ0,_⟩ := id hWT
 obtain ⟨col,q,Aq,nq,capq,anyq,lastq,hL⟩ := hQ0.at_
 clear hQ0
 refine (Qdm hL).mono ?_
 rintro _ u1 ⟨rfl,h1⟩
 refine ⟨Mod.of_ext h1,?_⟩;conv=>whnf
 replace hL := hL.keep fun k hk => (h1).block k hk
 replace g5 := g5.ext h1
 replace hs4 := hs4.ext h1
 replace hsH := hsH.ext h1
 replace hWT := hWT.ext h1
 replace hx := hx.trans h1
 refine (Q3n hL item).mono ?_
 rintro _ u2 ⟨rfl,h2⟩
 refine ⟨Mod.of_ext h2,?_⟩;conv=>whnf
 replace hL := hL.keep fun k hk => (h2).block k hk
 replace g5 := g5.ext h2
 replace hs4 := hs4.ext h2
 replace hsH := hsH.ext h2
 replace hWT := hWT.ext h2
 replace hx := hx.trans h2
 refine ⟨Unit,(fun _ => .pointer (some ⟨q.pw,0,none⟩)),(fun _ w' => Ext u2 w'),(),fun _ => ((Qdm hL).mono fun r w' h => ⟨(),h.1,h.2⟩),?_⟩
 rintro iu3 u3 hqu3
 replace hqu3 := hqu3.elim (fun h => h.2) fun h => (h.1 (And.intro (by first | rfl | simp | decide) trivial)).elim
 refine ⟨Mod.of_ext hqu3,?_⟩;conv=>whnf
 replace hL := hL.keep fun k hk => (hqu3).block k hk
 replace g5 := g5.ext hqu3
 replace hs4 := hs4.ext hqu3
 replace hsH := hsH.ext hqu3
 replace hWT := hWT.ext hqu3
 replace hx := hx.trans hqu3
 refine ⟨(Option Addr × Nat),(fun i => .slice i.1 (Qen z person).length i.2),(fun i w' => SlE w' i.1 (Qen z person) ∧ Ext u3 w'),(none,0),fun _ => (Qh4 hL (by omega) person),?_⟩
 rintro iu4 u4 hqu4
 replace hqu4 := hqu4.elim (fun h => h.2) fun h => (h.1 (And.intro (by first | rfl | simp | decide) trivial)).elim
 obtain ⟨hs4h,hqu4⟩ := hqu4
 refine ⟨Mod.of_ext hqu4,?_⟩;conv=>whnf
 replace hL := hL.keep fun k hk => (hqu4).block k hk
 replace g5 := g5.ext hqu4
 replace hs4 := hs4.ext hqu4
 replace hsH := hsH.ext hqu4
 replace hWT := hWT.ext hqu4
 replace hx := hx.trans hqu4
 refine ⟨Unit,(fun _ => .bool true),(fun _ w' => Ext u4 w'),(),fun _ => ((Qpm (Qen z person) (Qen z person) iu4.1 B2 iu4.2 d2 u4 hs4h hsH (by have := Qng z person; omega)).mono fun r w' h => ⟨(),by rw [h.1,decide_eq_true rfl],h.2⟩),?_⟩
 rintro iu5 u5 hqu5
 replace hqu5 := hqu5.elim (fun h => h.2) fun h => (h.1 (And.intro (by first | rfl | simp | decide) trivial)).elim
 refine ⟨Mod.of_ext hqu5,?_⟩;conv=>whnf
 replace hL := hL.keep fun k hk => (hqu5).block k hk
 replace g5 := g5.ext hqu5
 replace hs4 := hs4.ext hqu5
 replace hsH := hsH.ext hqu5
 replace hWT := hWT.ext hqu5
 replace hx := hx.trans hqu5
 refine ⟨vi c.half,fun _ => ⟨g5.one rfl,by rw [add_block]; exact n5⟩,?_⟩;conv=>whnf
 refine ⟨Unit,(fun _ => .pointer (some ⟨q.pd,0,none⟩)),(fun _ w' => Ext u5 w'),(),fun _ => ((Qwb hL).mono fun r w' h => ⟨(),h.1,h.2⟩),?_⟩
 rintro iu6 u6 hqu6
 replace hqu6 := hqu6.elim (fun h => h.2) fun h => (h.1 (And.intro (by first | rfl | simp | decide) trivial)).elim
 refine ⟨Mod.of_ext hqu6,?_⟩;conv=>whnf
 replace hL := hL.keep fun k hk => (hqu6).block k hk
 replace g5 := g5.ext hqu6
 replace hs4 := hs4.ext hqu6
 replace hsH := hsH.ext hqu6
 replace hWT := hWT.ext hqu6
 replace hx := hx.trans hqu6
 refine ⟨Unit,(fun _ => .int .i64 (Qv7 (z.filter wpB) (Xq c.half) item now)),(fun _ w' => Ext u6 w'),(),fun _ => ((Q1p hL hzm (by omega) item now hnow).mono fun r w' h => ⟨(),h.1,h.2⟩),?_⟩
 rintro iu7 u7 hqu7
 replace hqu7 := hqu7.elim (fun h => h.2) fun h => (h.1 (And.intro (by first | rfl | simp | decide) trivial)).elim
 refine ⟨Mod.of_ext hqu7,?_⟩;conv=>whnf
 replace hL := hL.keep fun k hk => (hqu7).block k hk
 replace g5 := g5.ext hqu7
 replace hs4 := hs4.ext hqu7
 replace hsH := hsH.ext hqu7
 replace hWT := hWT.ext hqu7
 replace hx := hx.trans hqu7
 refine ⟨Nat,(fun i => .pointer (some ⟨i,0,none⟩)),(fun i w' => C11 w' i c.half ((z.filter wpB).map Qsz) ∧ Ext u7 w'),0,fun _ => (Qnv z A4 c4 c.half u7 hs4 (by omega) hzm),?_⟩
 rintro iu8 u8 hqu8
 replace hqu8 := hqu8.elim (fun h => h.2) fun h => (h.1 (And.intro (by first | rfl | simp | decide) trivial)).elim
 obtain ⟨hC8,hqu8⟩ := hqu8
 refine ⟨Mod.of_ext hqu8,?_⟩;conv=>whnf
 replace hL := hL.keep fun k hk => (hqu8).block k hk
 replace g5 := g5.ext hqu8
 replace hs4 := hs4.ext hqu8
 replace hsH := hsH.ext hqu8
 replace hWT := hWT.ext hqu8
 replace hx := hx.trans hqu8
 refine ⟨Unit,(fun _ => .int .i64 (Qv7 (z.filter wpB) (Xq c.half) item now)),(fun _ w' => Ext u8 w'),(),fun _ => ((Q1t u8 iu8 c hcf z hC8 hzm (by omega) item now hnow).mono fun r w' h => ⟨(),h.1,h.2⟩),?_⟩
 rintro iu9 u9 hqu9
 replace hqu9 := hqu9.elim (fun h => h.2) fun h => (h.1 (And.intro (by first | rfl | simp | decide) trivial)).elim
 refine ⟨Mod.of_ext hqu9,?_⟩;conv=>whnf
 replace hL := hL.keep fun k hk => (hqu9).block k hk
 replace g5 := g5.ext hqu9
 replace hs4 := hs4.ext hqu9
 replace hsH := hsH.ext hqu9
 replace hWT := hWT.ext hqu9
 replace hx := hx.trans hqu9
 refine ⟨vi c.width,fun _ => ⟨g5.one rfl,by rw [add_block]; exact n5⟩,?_⟩;conv=>whnf
 refine ⟨Unit,(fun _ => .pointer (some ⟨q.pp,0,none⟩)),(fun _ w' => Ext u9 w'),(),fun _ => ((Quh hL).mono fun r w' h => ⟨(),h.1,h.2⟩),?_⟩
 rintro iu10 u10 hqu10
 replace hqu10 := hqu10.elim (fun h => h.2) fun h => (h.1 (And.intro (by first | rfl | simp | decide) trivial)).elim
 refine ⟨Mod.of_ext hqu10,?_⟩;conv=>whnf
 replace hL := hL.keep fun k hk => (hqu10).block k hk
 replace g5 := g5.ext hqu10
 replace hs4 := hs4.ext hqu10
 replace hsH := hsH.ext hqu10
 replace hWT := hWT.ext hqu10
 replace hx := hx.trans hqu10
 refine ⟨Unit,(fun _ => .int .i64 (paE (z.filter wpB) c.width item (0 / Xq c.width) (now / Xq c.width))),(fun _ w' => Ext u10 w'),(),fun _ => ((Q4y hL hcf hzm (by omega) item now hnow).mono fun r w' h => ⟨(),h.1,h.2⟩),?_⟩
 rintro iu11 u11 hqu11
 replace hqu11 := hqu11.elim (fun h => h.2) fun h => (h.1 (And.intro (by first | rfl | simp | decide) trivial)).elim
 refine ⟨Mod.of_ext hqu11,?_⟩;conv=>whnf
 replace hL := hL.keep fun k hk => (hqu11).block k hk
 replace g5 := g5.ext hqu11
 replace hs4 := hs4.ext hqu11
 replace hsH := hsH.ext hqu11
 replace hWT := hWT.ext hqu11
 replace hx := hx.trans hqu11
 refine ⟨Nat,(fun i => .pointer (some ⟨i,0,none⟩)),(fun i w' => P9 w' i c.width ((z.filter wpB).map (s9E c.width)) ∧ Ext u11 w'),0,fun _ => (Qr4 z A4 c4 c.width c2 u11 hs4 (by omega) hzm),?_⟩
 rintro iu12 u12 hqu12
 replace hqu12 := hqu12.elim (fun h => h.2) fun h => (h.1 (And.intro (by first | rfl | simp | decide) trivial)).elim
 obtain ⟨hP9,hqu12⟩ := hqu12
 refine ⟨Mod.of_ext hqu12,?_⟩;conv=>whnf
 replace hL := hL.keep fun k hk => (hqu12).block k hk
 replace g5 := g5.ext hqu12
 replace hs4 := hs4.ext hqu12
 replace hsH := hsH.ext hqu12
 replace hWT := hWT.ext hqu12
 replace hx := hx.trans hqu12
 refine ⟨Unit,(fun _ => .int .i64 (paE (z.filter wpB) c.width item (0 / Xq c.width) (now / Xq c.width))),(fun _ w' => Ext u12 w'),(),fun _ => ((Q40 u12 iu12 c hcf z hP9 hzm (by omega) item now hnow).mono fun r w' h => ⟨(),h.1,h.2⟩),?_⟩
 rintro iu13 u13 hqu13
 replace hqu13 := hqu13.elim (fun h => h.2) fun h => (h.1 (And.intro (by first | rfl | simp | decide) trivial)).elim
 refine ⟨Mod.of_ext hqu13,?_⟩;conv=>whnf
 replace hL := hL.keep fun k hk => (hqu13).block k hk
 replace g5 := g5.ext hqu13
 replace hs4 := hs4.ext hqu13
 replace hsH := hsH.ext hqu13
 replace hWT := hWT.ext hqu13
 replace hx := hx.trans hqu13
 refine ⟨vi c.width,fun _ => ⟨g5.one rfl,by rw [add_block]; exact n5⟩,?_⟩;conv=>whnf
 refine ⟨Unit,(fun _ => .pointer (some ⟨q.pp,0,none⟩)),(fun _ w' => Ext u13 w'),(),fun _ => ((Quh hL).mono fun r w' h => ⟨(),h.1,h.2⟩),?_⟩
 rintro iu14 u14 hqu14
 replace hqu14 := hqu14.elim (fun h => h.2) fun h => (h.1 (And.intro (by first | rfl | simp | decide) trivial)).elim
 refine ⟨Mod.of_ext hqu14,?_⟩;conv=>whnf
 replace hL := hL.keep fun k hk => (hqu14).block k hk
 replace g5 := g5.ext hqu14
 replace hs4 := hs4.ext hqu14
 replace hsH := hsH.ext hqu14
 replace hWT := hWT.ext hqu14
 replace hx := hx.trans hqu14
 refine ⟨Unit,(fun _ => .int .i64 c.width),(fun _ w' => Ext u14 w'),(),fun _ => ((Q1q hL hcf).mono fun r w' h => ⟨(),h.1,h.2⟩),?_⟩
 rintro iu15 u15 hqu15
 replace hqu15 := hqu15.elim (fun h => h.2) fun h => (h.1 (And.intro (by first | rfl | simp | decide) trivial)).elim
 refine ⟨Mod.of_ext hqu15,?_⟩;conv=>whnf
 replace hL := hL.keep fun k hk => (hqu15).block k hk
 replace g5 := g5.ext hqu15
 replace hs4 := hs4.ext hqu15
 replace hsH := hsH.ext hqu15
 replace hWT := hWT.ext hqu15
 replace hx := hx.trans hqu15
 refine ⟨Nat,(fun i => .pointer (some ⟨i,0,none⟩)),(fun i w' => (∃ T',WT w' T' p c z) ∧ Mod T u15 w' ∧ ∃ S,Qee w' S i (Qip c z)),0,fun _ => ((Qst hWT hok).mono fun r w' ⟨pp,T',h1,h2,h3,h4,h5,h6,h7⟩ => ⟨pp,h1,⟨T',h2⟩,h4,_,h7⟩),?_⟩
 rintro iu16 u16 hqu16
 replace hqu16 := hqu16.elim (fun h => h.2) fun h => (h.1 (And.intro (by first | rfl | simp | decide) trivial)).elim
 obtain ⟨⟨T2,hWT2⟩,hMu,S16,hP16⟩ := hqu16
 refine ⟨hMu,?_⟩;conv=>whnf
 replace hs4 : SlE u16 A4 z := Qh5.stay hs4 fun a ha hlt => hMu.block a.block hlt (hA8 a ha)
 replace hx := Qnc hx hTw hMu
 clear hL hWT hsH g5 hMu
 obtain ⟨v2,T20,hQ2,_⟩ := id hWT2
 obtain ⟨col2,q2,Aq2,nq2,capq2,anyq2,lastq2,hL⟩ := hQ2.at_
 refine ⟨Unit,(fun _ => .int .i64 ((Qcr (Qip c z) item : Nat) : Int)),(fun _ w' => Ext u16 w'),(),fun _ => ((Qo9 u16 S16 iu16 _ hP16 item).mono fun r w' h => ⟨(),h.1,by rw [h.2]; exact Ext.refl _⟩),?_⟩
 rintro iu17 u17 hqu17
 replace hqu17 := hqu17.elim (fun h => h.2) fun h => (h.1 (And.intro (by first | rfl | simp | decide) trivial)).elim
 refine ⟨Mod.of_ext hqu17,?_⟩;conv=>whnf
 replace hL := hL.keep fun k hk => (hqu17).block k hk
 replace hs4 := hs4.ext hqu17
 replace hx := hx.trans hqu17
 refine ⟨Unit,(fun _ => .pointer (some ⟨q2.ps,0,none⟩)),(fun _ w' => Ext u17 w'),(),fun _ => ((Qgi hL).mono fun r w' h => ⟨(),h.1,h.2⟩),?_⟩
 rintro iu18 u18 hqu18
 replace hqu18 := hqu18.elim (fun h => h.2) fun h => (h.1 (And.intro (by first | rfl | simp | decide) trivial)).elim
 refine ⟨Mod.of_ext hqu18,?_⟩;conv=>whnf
 replace hL := hL.keep fun k hk => (hqu18).block k hk
 replace hs4 := hs4.ext hqu18
 replace hx := hx.trans hqu18
 have hall := Q4w hL hcf hok
 rw [← hUl] at hall
 refine ⟨(Option Addr × Nat),(fun i => .slice i.1 U.length i.2),(fun i w' => Ext u18 w'),(none,0),fun _ => hall,?_⟩
 rintro iu19 u19 hqu19
 replace hqu19 := hqu19.elim (fun h => h.2) fun h => (h.1 (And.intro (by first | rfl | simp | decide) trivial)).elim
 refine ⟨Mod.of_ext hqu19,?_⟩;conv=>whnf
 clear hall
 replace hL := hL.keep fun k hk => (hqu19).block k hk
 replace hs4 := hs4.ext hqu19
 replace hx := hx.trans hqu19
 refine ⟨Unit,(fun _ => .pointer (some ⟨q2.pc,0,none⟩)),(fun _ w' => Ext u19 w'),(),fun _ => ((Qh3 hL).mono fun r w' h => ⟨(),h.1,h.2⟩),?_⟩
 rintro iu20 u20 hqu20
 replace hqu20 := hqu20.elim (fun h => h.2) fun h => (h.1 (And.intro (by first | rfl | simp | decide) trivial)).elim
 refine ⟨Mod.of_ext hqu20,?_⟩;conv=>whnf
 replace hL := hL.keep fun k hk => (hqu20).block k hk
 replace hs4 := hs4.ext hqu20
 replace hx := hx.trans hqu20
 refine ⟨(Option Addr × Nat × Nat),(fun i => .slice i.1 i.2.1 i.2.2),(fun i w' => i.2.1 ≤ (Xc z).length ∧ Ext u20 w'),(none,0,0),fun _ => (Qwa hL hzm (by omega) item),?_⟩
 rintro iu21 u21 hqu21
 replace hqu21 := hqu21.elim (fun h => h.2) fun h => (h.1 (And.intro (by first | rfl | simp | decide) trivial)).elim
 obtain ⟨hle21,hqu21⟩ := hqu21
 refine ⟨Mod.of_ext hqu21,?_⟩;conv=>whnf
 replace hL := hL.keep fun k hk => (hqu21).block k hk
 replace hs4 := hs4.ext hqu21
 replace hx := hx.trans hqu21
 refine ⟨(Option Addr × Nat),(fun i => .slice i.1 (Xc z).length i.2),(fun i w' => Ext u21 w'),(none,0),fun _ => ((Qzm z z.length rfl A4 c4 u21 hs4 (by omega)).mono fun r w' ⟨A',c',h1,_,h2⟩ => ⟨(A',c'),h1,h2⟩),?_⟩
 rintro iu22 u22 hqu22
 replace hqu22 := hqu22.elim (fun h => h.2) fun h => (h.1 (And.intro (by first | rfl | simp | decide) trivial)).elim
 refine ⟨Mod.of_ext hqu22,?_⟩; (conv=>whnf);repeat(refine Sg ?_;(conv=>whnf))
 refine ⟨?_,hx.trans hqu22⟩
 have hle : ((iu21.2.1 : Nat) : Int) ≤ ((Xc z).length : Nat) := by omega
 simp [hle]
end Go.Proofs.YtopncieoolkhjaaGreatDoor
