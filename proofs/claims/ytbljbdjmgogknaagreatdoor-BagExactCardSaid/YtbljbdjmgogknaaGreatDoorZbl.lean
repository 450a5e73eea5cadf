/-
  Cra: texts of one proof, one behind the other.
  Conditions: none of its own.
-/
import Derived.Test.YtbljbdjmgogknaaGreatDoorZab
set_option linter.unusedVariables false
set_option linter.unusedSimpArgs false
namespace Go.Proofs.YtbljbdjmgogknaaGreatDoor
open Go.RowKit
theorem refnum_any (n : Int) (w : World) : Calls Tryz.prog 87 #[.int .i64 n] w fun e w' => e = .returned (.bool (Cr.isNum n)) ∧ w' = w := by
 by_cases h0 : 0 ≤ n
 ·by_cases h1 : n ≤ 1099511627776
  ·have HE : Hid (Cr.isNum n = true) := by simp [Hid,Cr.isNum,h0,h1]
   go_enter Tryz.func87,Tryz.ntmps87
   go_wp2
   go_ret
   refine ⟨?_,rfl⟩
   rw [HE.out]
   first | rfl | exact congrArg (fun b => Ending.returned (.bool b)) (decide_eq_true h1)
  ·have HE : Hid (Cr.isNum n = false) := by simp [Hid,Cr.isNum,h0,h1]
   go_enter Tryz.func87,Tryz.ntmps87
   go_wp2
   go_ret
   refine ⟨?_,rfl⟩
   rw [HE.out]
   first | rfl | exact congrArg (fun b => Ending.returned (.bool b)) (decide_eq_false h1)
 ·have HE : Hid (Cr.isNum n = false) := by simp [Hid,Cr.isNum,h0]
  go_enter Tryz.func87,Tryz.ntmps87
  go_wp2
  go_ret
  exact ⟨by rw [HE.out]; rfl,rfl⟩
theorem refrec_any (x : Cr.Rec) (hx : RecOk x) (w : World) : Calls Tryz.prog 88 #[recV x] w fun e w' => e = .returned (.bool (Cr.isRec x)) ∧ Below w.heap.size w w' := by
 obtain ⟨o,k,v,g⟩ := x
 obtain ⟨_,hk,hv⟩ := hx
 unfold maxLen at hk hv
 simp only at hk hv
 have HB : Hid (Below w.heap.size w (w.alloc (.cells #[.int .i64 o,.string ⟨k.toArray⟩,.string ⟨v.toArray⟩,.bool g] 67))) := (Below.refl _ _).alloc (Nat.le_refl _) _
 have fin : ∀ (b c : Bool),b = c → Ending.returned (.bool b) = Ending.returned (.bool c) := fun b c h => by rw [h]
 by_cases h1 : k.length ≤ 16
 ·by_cases h2 : v.length ≤ 64
  ·cases g with
   | false =>
    have HE : Hid (Cr.isRec ⟨o,k,v,false⟩ = true) := by simp [Hid,Cr.isRec,h1,h2]
    unfold recV
    go_enter Tryz.func88,Tryz.ntmps88
    go_wp2
    go_ret
    exact ⟨by rw [HE.out]; rfl,HB.out⟩
   | true =>
    cases v with
    | nil =>
     have HE : Hid (Cr.isRec ⟨o,k,[],true⟩ = true) := by simp [Hid,Cr.isRec,h1]
     unfold recV
     go_enter Tryz.func88,Tryz.ntmps88
     go_wp2
     go_ret
     exact ⟨by rw [HE.out]; rfl,HB.out⟩
    | cons c r =>
     have HE : Hid (Cr.isRec ⟨o,k,c::r,true⟩ = false) := by simp [Hid,Cr.isRec]
     have h2' : r.length ≤ 63 := by simpa using h2
     unfold recV
     go_enter Tryz.func88,Tryz.ntmps88
     go_wp2
     go_ret
     exact ⟨by rw [HE.out]; rfl,HB.out⟩
  ·have HE : Hid (Cr.isRec ⟨o,k,v,g⟩ = false) := by simp [Hid,Cr.isRec,h2]
   unfold recV
   go_enter Tryz.func88,Tryz.ntmps88
   go_wp2
   go_ret
   exact ⟨by rw [HE.out]; rfl,HB.out⟩
 ·have HE : Hid (Cr.isRec ⟨o,k,v,g⟩ = false) := by simp [Hid,Cr.isRec,h1]
  unfold recV
  go_enter Tryz.func88,Tryz.ntmps88
  go_wp2
  go_ret
  exact ⟨by rw [HE.out]; rfl,HB.out⟩
theorem reffits_any (l : List Cr.Rec) (hok : ∀ x ∈ l,RecOk x) (hl : l.length ≤ maxLen) (rv : Value) (w : World) (h : Recs w rv l) :
  Calls Tryz.prog 86 #[rv] w fun e w' => e = .returned (.bool (Cr.fits l)) ∧ Below w.heap.size w w' := by
 have HZ := hq' h
 have HR := hq' hok
 have HE : Hid (Cr.fits l = (decide (1 ≤ l.length) && (decide (l.length ≤ 8) && l.all Cr.isRec))) := rfl
 obtain ⟨a,cap,rfl⟩ := h.form
 unfold maxLen at hl
 clear h hok
 by_cases h1 : 1 ≤ l.length
 ·by_cases h2 : l.length ≤ 8
  ·have HX : Hid (Cr.fits l = l.all Cr.isRec) := by rw [Hid,HE.out,decide_eq_true h1,decide_eq_true h2]; rfl
   clear HE
   go_enter Tryz.func86,Tryz.ntmps86
   go_wp2
   go_loopw [3] (fun i wr => ∃ k : Nat,i = .int .i64 k ∧ k ≤ l.length ∧ l.all Cr.isRec = (l.drop k).all Cr.isRec ∧ Below w.heap.size w wr) (fun i _ => l.length - (intOf i).toNat)
   case atStart => exact ⟨0,rfl,by omega,rfl,Below.refl _ _⟩
   case round =>
    obtain ⟨k,rfl,hk,hr,hb⟩ := hrel
    have HR2 := hq' hr
    have HB := hq' hb
    clear hr hb
    by_cases hlt : k < l.length
    ·obtain ⟨x,hx⟩ : ∃ x,l[k]? = some x := ⟨l[k],by simp [hlt]⟩
     have HN := hq' (fun w => refrec_any x (HR.out x (List.mem_of_getElem? hx)) w)
     have HS := hq' (all_step l k x hx)
     obtain ⟨g,off,cap',he,hg,p0,p1,p2,p3⟩ := HZ.out.get HB.out hx
     injection he with he1 he2 he3
     subst he1 he3
     obtain ⟨x0,xk,xv,xg⟩ := x
     unfold recV at HN
     dsimp only at *
     clear he2
     cases hb : Cr.isRec ⟨x0,xk,xv,xg⟩ with
     | true =>
      have HX2 : Hid (l.all Cr.isRec = (l.drop (k + 1)).all Cr.isRec) := by rw [Hid,HR2.out,HS.out,hb]; rfl
      rw [hb] at HN
      clear HS hb
      go_wp2_with fail
      refine (HN.out _).mono ?_
      rintro e w5 ⟨rfl,hb5⟩
      have B5 := hq' (bt HB.out hb5)
      clear hb5
      go_wp2
      go_roundw
      case rel => exact ⟨k + 1,by go_num,by omega,HX2.out,B5.out⟩
      case measure => simp [intOf]; omega
     | false =>
      have HX2 : Hid (Cr.fits l = false) := by rw [Hid,HX.out,HR2.out,HS.out,hb]; rfl
      rw [hb] at HN
      clear HS hb
      go_wp2_with fail
      refine (HN.out _).mono ?_
      rintro e w5 ⟨rfl,hb5⟩
      have B5 := hq' (bt HB.out hb5)
      clear hb5
      go_wp2
      go_ret
      exact ⟨by rw [HX2.out]; rfl,B5.out⟩
    ·obtain rfl : k = l.length := by omega
     have HX2 : Hid (Cr.fits l = true) := by rw [Hid,HX.out,HR2.out,List.drop_length]; rfl
     go_wp2
     go_ret
     exact ⟨by rw [HX2.out]; rfl,HB.out⟩
  ·have HX : Hid (Cr.fits l = false) := by rw [Hid,HE.out,decide_eq_false h2]; simp
   generalize l.length = n at *
   go_enter Tryz.func86,Tryz.ntmps86
   go_wp2
   go_ret
   exact ⟨by rw [HX.out]; rfl,Below.refl _ _⟩
 ·have HX : Hid (Cr.fits l = false) := by rw [Hid,HE.out,decide_eq_false h1]; simp
  obtain rfl : l = [] := List.eq_nil_of_length_eq_zero (by omega)
  go_enter Tryz.func86,Tryz.ntmps86
  go_wp2
  go_ret
  exact ⟨by rw [HX.out]; rfl,Below.refl _ _⟩
end Go.Proofs.YtbljbdjmgogknaaGreatDoor
