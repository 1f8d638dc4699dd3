import Derived.Test.YtnnnbjjenknpeaaGreatDoorHRf5
/- Raw points are bounded. -/
set_option linter.unusedVariables false
set_option linter.unusedSimpArgs false
namespace Go.Proofs.YtnnnbjjenknpeaaGreatDoor
open Go.Se Go.RowKit
theorem Qwp {c:Cfg} {z:List Ev} (hz:(Qd5 c z).length ≤ 1000) (person item:ByteArray) : 0 ≤ Q2s c z person item ∧ Q2s c z person item ≤ 1099511627776 := by
 have hN : ((Qd5 c z).length : Int) * (Qd5 c z).length ≤ 1000000 := by
  have : ((Qd5 c z).length : Int) * (Qd5 c z).length ≤ 1000 * 1000 := Int.mul_le_mul (by omega) (by omega) (by omega) (by omega)
  omega
 have hb := Qym hN (by omega) item (Qd3 z person)
 unfold Q2s
 generalize Qgd (Qd5 c z) item (Qd3 z person) = b at hb
 obtain ⟨h1,h2,h3,h4⟩ := hb
 refine ⟨Int.ediv_nonneg (by omega) (by omega),?_⟩
 have := Int.ediv_le_self b.2 (a := 1048576 * b.1) (by omega)
 omega
theorem Qqm {c:Cfg} {z:List Ev} (hm:∀ e ∈ z,Xm e = true) (hz:(Qd5 c z).length ≤ 1000) (person item:ByteArray) (now x:Int) : 0 ≤ Q0d c z person item now x ∧ Q0d c z person item now x ≤ 1099511627776 := by
 unfold Q0d
 split
 · next hx =>
   unfold Qql
   split
   · have h := (Qqj (Qvt hm) (Q3 c.half) item now).1
     omega
   split
   · split
     · have hrm : ∀ r ∈ rowsOf (Qgg z) person,Xm r.1 = true := fun r hr => by
        have h1 : r.1 ∈ (Qgg z).map (·.1) := List.mem_map.2 ⟨r,(List.mem_filter.1 hr).1,rfl⟩
        rw [Q0n] at h1
        exact hm _ (List.mem_filter.1 h1).1
       have h := (Qbz (Qx9 (Q3 c.half) now (rowsOf (Qgg z) person)) ((rowsOf (Qgg z) person).length * 5242880) (Qr (Qez (Qg3 z item now).tags)) fun t _ => Qxv hrm t).1
       unfold Qh7
       omega
     · omega
   split
   · exact Qwp hz person item
   split
   · unfold Qs4
     split
     · omega
     · have h1 := fun lo hi => (Qvc (Qvt hm) c.width item lo hi).1
       have h2 := Int.ediv_nonneg (Int.mul_nonneg (h1 ((Qg6 c now - c.span) / Q3 c.width) (Qg6 c now / Q3 c.width)) (show (0:Int) ≤ 1048576 by omega)) (show 0 ≤ paE (z.filter wpB) c.width item ((Qg6 c now - 2 * c.span) / Q3 c.width) ((Qg6 c now - c.span) / Q3 c.width) + 1 by have := h1 ((Qg6 c now - 2 * c.span) / Q3 c.width) ((Qg6 c now - c.span) / Q3 c.width); omega)
       omega
   split
   · split <;> omega
   split
   · split
     · have := Qd1 (now - (Qg3 z item now).born) c.half
       omega
     · omega
   · omega
 · omega
theorem Qqt (c:Cfg) (l:List Ev) (hl:l.length < 1000) (hm:∀ e ∈ l,Xm e = true) : (Qd5 c l).length < 1000 ∧ ∀ q ∈ Qd5 c l,q.items.length < 1000000 := by
 have hfl := List.length_filter_le wpB l
 have hok : ∀ x ∈ Qds ahB ((l.filter wpB).map adE),Q6p x := fun x hx => by
  rw [Qmn,List.mem_map] at hx
  obtain ⟨e,he,rfl⟩ := hx
  obtain ⟨he1,he2⟩ := List.mem_filter.1 he
  have hml := hm e he1
  have hq : 0 < Qu e := by simpa [wpB] using he2
  have hno := Qhc hml hq
  have hn1 := Qbw hno.1
  have hn2 := Qbw hno.2
  exact ⟨⟨by show 1 ≤ e.person.size; omega,by show e.person.size ≤ 24; omega⟩,Qu2 hml,⟨by show 1 ≤ e.item.size; omega,by show e.item.size ≤ 24; omega⟩⟩
 have hlen := Qmm (lt := ahB) ((l.filter wpB).map adE)
 rw [List.length_map] at hlen
 have h := Qvy (Quo c.gap) _ hok
 unfold Qd5
 rw [← Q0y _ (by unfold Quo; omega)]
 exact ⟨by omega,fun q hq => by have := (h.2 q hq).2; omega⟩
end Go.Proofs.YtnnnbjjenknpeaaGreatDoor
