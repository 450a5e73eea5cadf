/-
  Yr1 / Cra / Crg: texts of one proof, one behind the other.
  Conditions: none of its own.
-/
import Derived.Test.YtjfpbeccpcbpcaaGreatDoorZav
import Derived.Test.YtjfpbeccpcbpcaaGreatDoorZbe
set_option linter.unusedVariables false
set_option linter.unusedSimpArgs false
set_option maxHeartbeats 6400000
set_option maxRecDepth 20000
namespace Go.Proofs.YtjfpbeccpcbpcaaGreatDoor
open Go.RowKit
def Cap {α : Type} (f : Bd.St → α × Bd.St) (cap : Nat) (q0 : Bd.St) (acc : List α) (q : Bd.St) : Prop :=
 acc.length ≤ cap ∧ Wi.sMany f cap q0 = (acc ++ (Wi.sMany f (cap - acc.length) q).1, (Wi.sMany f (cap - acc.length) q).2)
theorem Cap.start {α : Type} (f : Bd.St → α × Bd.St) (cap : Nat) (q : Bd.St) : Cap f cap q [] q := ⟨Nat.zero_le _, by simp⟩
theorem Cap.next {α : Type} {f : Bd.St → α × Bd.St} {cap : Nat} {q0 q : Bd.St} {acc : List α} (h : Cap f cap q0 acc q) (hm : Bd.sMore q = true) (hl : acc.length < cap) : Cap f cap q0 (acc ++ [(f q).1]) (f q).2 := by
 obtain ⟨h1, h2⟩ := h
 refine ⟨by rw [List.length_append, List.length_singleton]; omega, ?_⟩
 rw [h2, List.length_append, List.length_singleton, show cap - acc.length = (cap - (acc.length + 1)) + 1 by omega]
 have e : Wi.sMany f ((cap - (acc.length + 1)) + 1) q = ((f q).1 :: (Wi.sMany f (cap - (acc.length + 1)) (f q).2).1, (Wi.sMany f (cap - (acc.length + 1)) (f q).2).2) := by rw [Wi.sMany, if_pos hm]
 rw [e]
 simp
theorem Cap.stop {α : Type} {f : Bd.St → α × Bd.St} {cap : Nat} {q0 q : Bd.St} {acc : List α} (h : Cap f cap q0 acc q) (hs : Bd.sMore q = false ∨ cap ≤ acc.length) : Wi.sMany f cap q0 = (acc, q) := by
 obtain ⟨h1, h2⟩ := h
 rw [h2]
 rcases hs with hs | hs
 ·cases hc : cap - acc.length with
  | zero => simp [Wi.sMany]
  | succ n => rw [Wi.sMany, if_neg (by rw [hs]; simp)]; simp
 ·rw [show cap - acc.length = 0 by omega]
  simp [Wi.sMany]
theorem Kp.calls {w W W' : World} {p : Nat} {l : List UInt8} {q : Bd.St} (h : Kp w p W) (k : RUs W p l q W') : Kp w p W' := h.trans (k.2.mono fun j _ e => .inl e)
theorem refreadInts_any (p : Nat) (l : List UInt8) (q : Bd.St) (w : World) (hl : l.length ≤ 4294967296) (h : RU w p l q) :
  Calls Tryz.prog 70 #[.pointer (some ⟨p, 0, none⟩)] w fun e w' => ∃ v, e = .returned v ∧ w'.ownsRow w.heap.size 3 1 v (Wi.tInts q).1.length (iv (Wi.tInts q).1) ∧ RU w' p l (Wi.tInts q).2 ∧ Kp w p w' := by
 have hpl := h.lt
 obtain ⟨i0, hi, hz0, hz1, hz2⟩ := info_parts cinfoInt
 have HS : Hid (Wi.tInts q = ((Wi.sMany Bd.sInt 20 (Bd.sSign 108 q)).1, Bd.sSign 101 (Wi.sMany Bd.sInt 20 (Bd.sSign 108 q)).2)) := rfl
 have O0 : Hid ((w.alloc (.cells #[] 3)).ownsRow w.heap.size 3 1 (.slice (some ⟨w.heap.size, 0, none⟩) 0 0) 0 []) := World.ownsRow_made w #[] 0 (Nat.le_refl _) (by unfold maxLen; omega) rfl
 have R0 : Hid (RU (w.alloc (.cells #[] 3)) p l q) := h.keep (S := fun _ => False) (Keeps.alloc _ _ _) id
 have K0 : Hid (Kp w p (w.alloc (.cells #[] 3))) := Keeps.alloc _ _ _
 have HQ := hq' (refopen_any p l q _ hl R0.out)
 clear h R0
 rw [HS.out]
 generalize Bd.sSign 108 q = q1 at *
 clear HS
 go_enter Tryz.func70, Tryz.ntmps70
 go_upto_region 2 with (fail)
 generalize w.alloc (.cells #[] 3) = w0 at *
 generalize (Value.slice (some ⟨w.heap.size, 0, none⟩) 0 0) = v0 at *
 go_wp2_with fail
 refine HQ.out.mono ?_
 rintro e w1 ⟨rfl, h1⟩
 have R1 := hq' h1.1
 have K1 := hq' (Kp.calls K0.out h1)
 have O1 := hq' (ownsRow_keeps O0.out h1.2 hpl)
 clear h1 HQ K0 O0
 go_wp2_with fail
 go_loopw [3] (fun v wr => ∃ (acc : List Int) (qq : Bd.St), wr.ownsRow w.heap.size 3 1 v acc.length (iv acc) ∧ RU wr p l qq ∧ Kp w p wr ∧ Cap Bd.sInt 20 q1 acc qq) (fun v _ => 20 - slLen v)
 case atStart => exact ⟨[], q1, O1.out, R1.out, K1.out, Cap.start _ _ _⟩
 case round =>
  obtain ⟨acc, qq, ho, hr, hk, ha⟩ := hrel
  have HO := hq' ho
  have HR := hq' hr
  have HK := hq' hk
  have HA := hq' ha
  have hal := ha.1
  have HM := hq' (refmore_any p l qq wr hl hr)
  obtain ⟨av, cv, hve⟩ := own_form ho
  subst hve
  clear ho hr hk ha O1 R1 K1
  go_wp2_with fail
  refine HM.out.mono ?_
  rintro e w8 ⟨rfl, nm, rfl⟩
  have B8 := hq' (below_drewN (Below.refl wr.heap.size wr) nm)
  have O8 := hq' (ownsRow_below HO.out B8.out)
  have R8 := hq' (HR.out.below B8.out)
  have K8 : Hid (Kp w p (wr.drewN nm)) := HK.out.trans (Keeps.below _ B8.out)
  clear HO HR HK HM B8
  generalize wr.drewN nm = w8 at *
  have hsz8 := K8.out.size
  by_cases hgo : Bd.sMore qq = true ∧ acc.length < 20
  ·obtain ⟨hm, hlt⟩ := hgo
   have HN := hq' (HA.out.next hm hlt)
   have HI := hq' (refint_any p l qq w8 hl R8.out)
   unfold RIV at HI
   rw [hm]
   have hlti : ((acc.length : Nat) : Int) < 20 := by omega
   clear hm HA
   generalize (Bd.sInt qq).1 = n at *
   generalize (Bd.sInt qq).2 = q9 at *
   go_wp2_with fail
   refine HI.out.mono ?_
   rintro e w9 ⟨rfl, h9⟩
   have O9 := hq' (ownsRow_keeps O8.out h9.2 hpl)
   have K9 := hq' (Kp.calls K8.out h9)
   have R9 := hq' h9.1
   have hs9 := h9.2.size
   clear h9 HI O8 K8 R8
   go_wp2_with (at_builtin; refine wpList_append_own _ rfl _ _ 22 rfl w.heap.size 3 i0 (.int .i64 0) 1 8 Tryz.underlying22 hi hz0 hz1 hz2 rfl (by decide) _ _ _ rfl (World.ownsRow.alloc O9.out _) ⟨w9.heap.size, 0, none⟩ 1 1 (iv [n]) rfl rfl (icells_new _ [n] _) ?_ ?_ ?_ ?_ ?_)
   ·simp [iv, Value.oneCell']
   ·unfold maxLen; omega
   ·omega
   ·simp; omega
   intro v' wB hownB hgB _
   have KB : Hid (Keeps (fun j => w.heap.size ≤ j) w9 wB) := (Keeps.alloc _ _ _).trans (Keeps.grown hgB (fun j hj => (O9.out.lt j hj).1))
   have OB : Hid (wB.ownsRow w.heap.size 3 1 v' (acc ++ [n]).length (iv (acc ++ [n]))) := by
    rw [Hid, iv_append, List.length_append]
    exact hownB
   have RB := hq' (R9.out.keep KB.out (by omega))
   have KPB : Hid (Kp w p wB) := show Keeps (fun k => k = p ∨ w.heap.size ≤ k) w wB from Keeps.trans K9.out (KB.out.mono fun j _ e => .inr e)
   obtain ⟨av', cv', hve'⟩ := own_form hownB
   subst hve'
   clear hownB hgB KB
   go_wp2
   go_roundw
   case rel => exact ⟨acc ++ [n], q9, OB.out, RB.out, KPB.out, HN.out⟩
   case measure => simp only [slLen]; omega
  ·have HEE : Hid (Wi.sMany Bd.sInt 20 q1 = (acc, qq)) := HA.out.stop (by
    cases hm : Bd.sMore qq with
    | false => exact .inl rfl
    | true => right; exact Nat.le_of_not_lt fun h => hgo ⟨hm, h⟩)
   have HC := hq' (refclose_any p l qq w8 hl R8.out)
   clear HA
   cases hm : Bd.sMore qq with
   | true =>
    have hlti : ¬ ((acc.length : Nat) : Int) < 20 := by
     have : ¬ acc.length < 20 := fun h => hgo ⟨hm, h⟩
     omega
    clear hm hgo
    go_wp2_with fail
    refine HC.out.mono ?_
    rintro e w9 ⟨rfl, h9⟩
    have O9 := hq' (ownsRow_keeps O8.out h9.2 hpl)
    have K9 := hq' (Kp.calls K8.out h9)
    have R9 := hq' h9.1
    clear h9
    go_wp2
    go_ret
    refine ⟨_, rfl, ?_, ?_, K9.out⟩
    ·rw [HEE.out]; exact O9.out
    ·rw [HEE.out]; exact R9.out
   | false =>
    clear hm hgo
    go_wp2_with fail
    refine HC.out.mono ?_
    rintro e w9 ⟨rfl, h9⟩
    have O9 := hq' (ownsRow_keeps O8.out h9.2 hpl)
    have K9 := hq' (Kp.calls K8.out h9)
    have R9 := hq' h9.1
    clear h9
    go_wp2
    go_ret
    refine ⟨_, rfl, ?_, ?_, K9.out⟩
    ·rw [HEE.out]; exact O9.out
    ·rw [HEE.out]; exact R9.out
theorem refnum_any (n : Int) (w : World) : Calls Tryz.prog 101 #[.int .i64 n] w fun e w' => e = .returned (.bool (Cr.isNum n)) ∧ w' = w := by
 by_cases h0 : 0 ≤ n
 ·by_cases h1 : n ≤ 1099511627776
  ·have HE : Hid (Cr.isNum n = true) := by simp [Hid, Cr.isNum, h0, h1]
   go_enter Tryz.func101, Tryz.ntmps101
   go_wp2
   go_ret
   refine ⟨?_, rfl⟩
   rw [HE.out]
   first | rfl | exact congrArg (fun b => Ending.returned (.bool b)) (decide_eq_true h1)
  ·have HE : Hid (Cr.isNum n = false) := by simp [Hid, Cr.isNum, h0, h1]
   go_enter Tryz.func101, Tryz.ntmps101
   go_wp2
   go_ret
   refine ⟨?_, rfl⟩
   rw [HE.out]
   first | rfl | exact congrArg (fun b => Ending.returned (.bool b)) (decide_eq_false h1)
 ·have HE : Hid (Cr.isNum n = false) := by simp [Hid, Cr.isNum, h0]
  go_enter Tryz.func101, Tryz.ntmps101
  go_wp2
  go_ret
  exact ⟨by rw [HE.out]; rfl, rfl⟩
theorem refrec_any (x : Cr.Rec) (hx : RecOk x) (w : World) : Calls Tryz.prog 102 #[recV x] w fun e w' => e = .returned (.bool (Cr.isRec x)) ∧ Below w.heap.size w w' := by
 obtain ⟨o, k, v, g⟩ := x
 obtain ⟨_, hk, hv⟩ := hx
 unfold maxLen at hk hv
 simp only at hk hv
 have HB : Hid (Below w.heap.size w (w.alloc (.cells #[.int .i64 o, .string ⟨k.toArray⟩, .string ⟨v.toArray⟩, .bool g] 107))) := (Below.refl _ _).alloc (Nat.le_refl _) _
 have fin : ∀ (b c : Bool), b = c → Ending.returned (.bool b) = Ending.returned (.bool c) := fun b c h => by rw [h]
 by_cases h1 : k.length ≤ 16
 ·by_cases h2 : v.length ≤ 64
  ·cases g with
   | false =>
    have HE : Hid (Cr.isRec ⟨o, k, v, false⟩ = true) := by simp [Hid, Cr.isRec, h1, h2]
    unfold recV
    go_enter Tryz.func102, Tryz.ntmps102
    go_wp2
    go_ret
    exact ⟨by rw [HE.out]; rfl, HB.out⟩
   | true =>
    cases v with
    | nil =>
     have HE : Hid (Cr.isRec ⟨o, k, [], true⟩ = true) := by simp [Hid, Cr.isRec, h1]
     unfold recV
     go_enter Tryz.func102, Tryz.ntmps102
     go_wp2
     go_ret
     exact ⟨by rw [HE.out]; rfl, HB.out⟩
    | cons c r =>
     have HE : Hid (Cr.isRec ⟨o, k, c :: r, true⟩ = false) := by simp [Hid, Cr.isRec]
     have h2' : r.length ≤ 63 := by simpa using h2
     unfold recV
     go_enter Tryz.func102, Tryz.ntmps102
     go_wp2
     go_ret
     exact ⟨by rw [HE.out]; rfl, HB.out⟩
  ·have HE : Hid (Cr.isRec ⟨o, k, v, g⟩ = false) := by simp [Hid, Cr.isRec, h2]
   unfold recV
   go_enter Tryz.func102, Tryz.ntmps102
   go_wp2
   go_ret
   exact ⟨by rw [HE.out]; rfl, HB.out⟩
 ·have HE : Hid (Cr.isRec ⟨o, k, v, g⟩ = false) := by simp [Hid, Cr.isRec, h1]
  unfold recV
  go_enter Tryz.func102, Tryz.ntmps102
  go_wp2
  go_ret
  exact ⟨by rw [HE.out]; rfl, HB.out⟩
theorem reffits_any (l : List Cr.Rec) (hok : ∀ x ∈ l, RecOk x) (hl : l.length ≤ maxLen) (rv : Value) (w : World) (h : Recs w rv l) :
  Calls Tryz.prog 100 #[rv] w fun e w' => e = .returned (.bool (Cr.fits l)) ∧ Below w.heap.size w w' := by
 have HZ := hq' h
 have HR := hq' hok
 have HE : Hid (Cr.fits l = (decide (1 ≤ l.length) && (decide (l.length ≤ 8) && l.all Cr.isRec))) := rfl
 obtain ⟨a, cap, rfl⟩ := h.form
 unfold maxLen at hl
 clear h hok
 by_cases h1 : 1 ≤ l.length
 ·by_cases h2 : l.length ≤ 8
  ·have HX : Hid (Cr.fits l = l.all Cr.isRec) := by rw [Hid, HE.out, decide_eq_true h1, decide_eq_true h2]; rfl
   clear HE
   go_enter Tryz.func100, Tryz.ntmps100
   go_wp2
   go_loopw [3] (fun i wr => ∃ k : Nat, i = .int .i64 k ∧ k ≤ l.length ∧ l.all Cr.isRec = (l.drop k).all Cr.isRec ∧ Below w.heap.size w wr) (fun i _ => l.length - (intOf i).toNat)
   case atStart => exact ⟨0, rfl, by omega, rfl, Below.refl _ _⟩
   case round =>
    obtain ⟨k, rfl, hk, hr, hb⟩ := hrel
    have HR2 := hq' hr
    have HB := hq' hb
    clear hr hb
    by_cases hlt : k < l.length
    ·obtain ⟨x, hx⟩ : ∃ x, l[k]? = some x := ⟨l[k], by simp [hlt]⟩
     have HN := hq' (fun w => refrec_any x (HR.out x (List.mem_of_getElem? hx)) w)
     have HS := hq' (all_step l k x hx)
     obtain ⟨g, off, cap', he, hg, p0, p1, p2, p3⟩ := HZ.out.get HB.out hx
     injection he with he1 he2 he3
     subst he1 he3
     obtain ⟨x0, xk, xv, xg⟩ := x
     unfold recV at HN
     dsimp only at *
     clear he2
     cases hb : Cr.isRec ⟨x0, xk, xv, xg⟩ with
     | true =>
      have HX2 : Hid (l.all Cr.isRec = (l.drop (k + 1)).all Cr.isRec) := by rw [Hid, HR2.out, HS.out, hb]; rfl
      rw [hb] at HN
      clear HS hb
      go_wp2_with fail
      refine (HN.out _).mono ?_
      rintro e w5 ⟨rfl, hb5⟩
      have B5 := hq' (bt HB.out hb5)
      clear hb5
      go_wp2
      go_roundw
      case rel => exact ⟨k + 1, by go_num, by omega, HX2.out, B5.out⟩
      case measure => simp [intOf]; omega
     | false =>
      have HX2 : Hid (Cr.fits l = false) := by rw [Hid, HX.out, HR2.out, HS.out, hb]; rfl
      rw [hb] at HN
      clear HS hb
      go_wp2_with fail
      refine (HN.out _).mono ?_
      rintro e w5 ⟨rfl, hb5⟩
      have B5 := hq' (bt HB.out hb5)
      clear hb5
      go_wp2
      go_ret
      exact ⟨by rw [HX2.out]; rfl, B5.out⟩
    ·obtain rfl : k = l.length := by omega
     have HX2 : Hid (Cr.fits l = true) := by rw [Hid, HX.out, HR2.out, List.drop_length]; rfl
     go_wp2
     go_ret
     exact ⟨by rw [HX2.out]; rfl, HB.out⟩
  ·have HX : Hid (Cr.fits l = false) := by rw [Hid, HE.out, decide_eq_false h2]; simp
   generalize l.length = n at *
   go_enter Tryz.func100, Tryz.ntmps100
   go_wp2
   go_ret
   exact ⟨by rw [HX.out]; rfl, Below.refl _ _⟩
 ·have HX : Hid (Cr.fits l = false) := by rw [Hid, HE.out, decide_eq_false h1]; simp
  obtain rfl : l = [] := List.eq_nil_of_length_eq_zero (by omega)
  go_enter Tryz.func100, Tryz.ntmps100
  go_wp2
  go_ret
  exact ⟨by rw [HX.out]; rfl, Below.refl _ _⟩
theorem refgood_any (b : Cr.Batch) (hok : BatOk b) (rv : Value) (w : World) (h : Recs w rv b.recs) :
  Calls Tryz.prog 46 #[batV b rv] w fun e w' => e = .returned (.bool (Cr.good b)) ∧ Below w.heap.size w w' := by
 have HZ := hq' h
 obtain ⟨a, cap, rfl⟩ := h.form
 have HR := hq' hok.2.2.2.2.2.2
 obtain ⟨⟨o1, o2⟩, ⟨o3, o4⟩, ⟨o5, o6⟩, ⟨o7, o8⟩, ⟨o9, o10⟩, o11, -⟩ := hok
 obtain ⟨base, count, prod, seq, time, recs⟩ := b
 have HB0 : Hid (Below w.heap.size w (w.alloc (.cells #[.int .i64 base, .int .i64 count, .int .i64 prod, .int .i64 seq, .int .i64 time, .slice a recs.length cap] 28))) := (Below.refl _ _).alloc (Nat.le_refl _) _
 obtain ⟨c0, c1, c2, c3, c4, c5⟩ := bat_cells w ⟨base, count, prod, seq, time, recs⟩ (.slice a recs.length cap) _ (Below.refl _ _)
 have hsz : (w.alloc (.cells #[.int .i64 base, .int .i64 count, .int .i64 prod, .int .i64 seq, .int .i64 time, .slice a recs.length cap] 28)).heap.size = w.heap.size + 1 := World.size_alloc _ _
 have HG : Hid (Cr.good ⟨base, count, prod, seq, time, recs⟩ = (Cr.isNum base && (Cr.isNum prod && (Cr.isNum seq && (Cr.isNum time && (decide (1 ≤ count) && (decide (count ≤ 8) && (decide (base ≤ 1099511627776 - count) &&
  (decide ((recs.length : Int) ≤ count) && Cr.goodRecs (base + count) base recs))))))))) := rfl
 dsimp only [batCells] at *
 clear h
 unfold maxLen at o11
 unfold batV
 dsimp only
 have N0 := hq' (fun w => refnum_any base w)
 have N2 := hq' (fun w => refnum_any prod w)
 have N3 := hq' (fun w => refnum_any seq w)
 have N4 := hq' (fun w => refnum_any time w)
 cases q0 : Cr.isNum base
 ·rw [q0] at N0
  have HX : Hid (Cr.good ⟨base, count, prod, seq, time, recs⟩ = false) := by
   rw [Hid, HG.out, q0]
   simp
  clear HG q0
  go_enter Tryz.func46, Tryz.ntmps46
  go_wp2_with fail
  refine (N0.out _).mono ?_
  rintro e w5 ⟨rfl, rfl⟩
  go_wp2
  go_ret
  exact ⟨by rw [HX.out]; rfl, HB0.out⟩
 rw [q0] at N0
 have qb : 0 ≤ base ∧ base ≤ 1099511627776 := by simpa only [Cr.isNum, Bool.and_eq_true, decide_eq_true_eq] using q0
 obtain ⟨qb1, qb2⟩ := qb
 by_cases d1 : 1 ≤ count
 rotate_left
 ·have HX : Hid (Cr.good ⟨base, count, prod, seq, time, recs⟩ = false) := by
   rw [Hid, HG.out, decide_eq_false d1]
   simp
  clear HG
  go_enter Tryz.func46, Tryz.ntmps46
  go_wp2_with fail
  refine (N0.out _).mono ?_
  rintro e w5 ⟨rfl, rfl⟩
  go_wp2
  go_ret
  exact ⟨by rw [HX.out]; rfl, HB0.out⟩
 by_cases d2 : count ≤ 8
 rotate_left
 ·have HX : Hid (Cr.good ⟨base, count, prod, seq, time, recs⟩ = false) := by
   rw [Hid, HG.out, decide_eq_false d2]
   simp
  clear HG
  go_enter Tryz.func46, Tryz.ntmps46
  go_wp2_with fail
  refine (N0.out _).mono ?_
  rintro e w5 ⟨rfl, rfl⟩
  go_wp2
  go_ret
  exact ⟨by rw [HX.out]; rfl, HB0.out⟩
 by_cases d3 : base ≤ 1099511627776 - count
 rotate_left
 ·have HX : Hid (Cr.good ⟨base, count, prod, seq, time, recs⟩ = false) := by
   rw [Hid, HG.out, decide_eq_false d3]
   simp
  clear HG
  go_enter Tryz.func46, Tryz.ntmps46
  go_wp2_with fail
  refine (N0.out _).mono ?_
  rintro e w5 ⟨rfl, rfl⟩
  go_wp2
  go_ret
  exact ⟨by rw [HX.out]; rfl, HB0.out⟩
 cases q2 : Cr.isNum prod
 ·rw [q2] at N2
  have HX : Hid (Cr.good ⟨base, count, prod, seq, time, recs⟩ = false) := by
   rw [Hid, HG.out, q2]
   simp
  clear HG q2
  go_enter Tryz.func46, Tryz.ntmps46
  go_wp2_with fail
  refine (N0.out _).mono ?_
  rintro e w5 ⟨rfl, rfl⟩
  go_wp2_with fail
  refine (N2.out _).mono ?_
  rintro e w5 ⟨rfl, rfl⟩
  go_wp2
  go_ret
  exact ⟨by rw [HX.out]; rfl, HB0.out⟩
 rw [q2] at N2
 cases q3 : Cr.isNum seq
 ·rw [q3] at N3
  have HX : Hid (Cr.good ⟨base, count, prod, seq, time, recs⟩ = false) := by
   rw [Hid, HG.out, q3]
   simp
  clear HG q3
  go_enter Tryz.func46, Tryz.ntmps46
  go_wp2_with fail
  refine (N0.out _).mono ?_
  rintro e w5 ⟨rfl, rfl⟩
  go_wp2_with fail
  refine (N2.out _).mono ?_
  rintro e w5 ⟨rfl, rfl⟩
  go_wp2_with fail
  refine (N3.out _).mono ?_
  rintro e w5 ⟨rfl, rfl⟩
  go_wp2
  go_ret
  exact ⟨by rw [HX.out]; rfl, HB0.out⟩
 rw [q3] at N3
 cases q4 : Cr.isNum time
 ·rw [q4] at N4
  have HX : Hid (Cr.good ⟨base, count, prod, seq, time, recs⟩ = false) := by
   rw [Hid, HG.out, q4]
   simp
  clear HG q4
  go_enter Tryz.func46, Tryz.ntmps46
  go_wp2_with fail
  refine (N0.out _).mono ?_
  rintro e w5 ⟨rfl, rfl⟩
  go_wp2_with fail
  refine (N2.out _).mono ?_
  rintro e w5 ⟨rfl, rfl⟩
  go_wp2_with fail
  refine (N3.out _).mono ?_
  rintro e w5 ⟨rfl, rfl⟩
  go_wp2_with fail
  refine (N4.out _).mono ?_
  rintro e w5 ⟨rfl, rfl⟩
  go_wp2
  go_ret
  exact ⟨by rw [HX.out]; rfl, HB0.out⟩
 rw [q4] at N4
 by_cases d4 : (recs.length : Int) ≤ count
 rotate_left
 ·have HX : Hid (Cr.good ⟨base, count, prod, seq, time, recs⟩ = false) := by
   rw [Hid, HG.out, decide_eq_false d4]
   simp
  clear HG
  go_enter Tryz.func46, Tryz.ntmps46
  go_wp2_with fail
  refine (N0.out _).mono ?_
  rintro e w5 ⟨rfl, rfl⟩
  go_wp2_with fail
  refine (N2.out _).mono ?_
  rintro e w5 ⟨rfl, rfl⟩
  go_wp2_with fail
  refine (N3.out _).mono ?_
  rintro e w5 ⟨rfl, rfl⟩
  go_wp2_with fail
  refine (N4.out _).mono ?_
  rintro e w5 ⟨rfl, rfl⟩
  go_wp2
  go_ret
  exact ⟨by rw [HX.out]; rfl, HB0.out⟩
 have HH : Hid (Cr.good ⟨base, count, prod, seq, time, recs⟩ = Cr.goodRecs (base + count) base recs) := by
  rw [Hid, HG.out, q0, q2, q3, q4, decide_eq_true d1, decide_eq_true d2, decide_eq_true d3, decide_eq_true d4]
  rfl
 clear HG q0 q2 q3 q4
 go_enter Tryz.func46, Tryz.ntmps46
 go_wp2_with fail
 refine (N0.out _).mono ?_
 rintro e w5 ⟨rfl, rfl⟩
 go_wp2_with fail
 refine (N2.out _).mono ?_
 rintro e w5 ⟨rfl, rfl⟩
 go_wp2_with fail
 refine (N3.out _).mono ?_
 rintro e w5 ⟨rfl, rfl⟩
 go_wp2_with fail
 refine (N4.out _).mono ?_
 rintro e w5 ⟨rfl, rfl⟩
 go_wp2
 clear N0 N2 N3 N4
 generalize w.alloc (.cells #[.int .i64 base, .int .i64 count, .int .i64 prod, .int .i64 seq, .int .i64 time, .slice a recs.length cap] 28) = w0 at *
 have HC : Hid (∀ W, Below w0.heap.size w0 W → W.cell? ⟨w.heap.size, 0, none⟩ = some (.int .i64 base) ∧ W.cell? ⟨w.heap.size, 1, none⟩ = some (.int .i64 count) ∧ W.cell? ⟨w.heap.size, 5, none⟩ = some (.slice a recs.length cap)) := fun W hW =>
  ⟨(hW.cell (p := ⟨w.heap.size, 0, none⟩) (by simp only; omega)).trans c0, (hW.cell (p := ⟨w.heap.size, 1, none⟩) (by simp only; omega)).trans c1, (hW.cell (p := ⟨w.heap.size, 5, none⟩) (by simp only; omega)).trans c5⟩
 clear c0 c1 c2 c3 c4 c5
 go_loopw [4, 3] (fun i nx w4 => ∃ (k : Nat) (n : Int), i = .int .i64 k ∧ nx = .int .i64 (n - 1) ∧ 0 ≤ n ∧ n ≤ 1099511627786 ∧ k ≤ recs.length ∧ Cr.goodRecs (base + count) base recs = Cr.goodRecs (base + count) n (recs.drop k) ∧ Below w0.heap.size w0 w4) (fun i _ _ => recs.length - (intOf i).toNat)
 case atStart => exact ⟨0, base, rfl, rfl, by omega, by omega, by omega, rfl, Below.refl _ _⟩
 case round =>
  obtain ⟨k, n, rfl, rfl, hn1, hn2, hk2, hr, hb2⟩ := hrel
  have HR2 := hq' hr
  have B2 := hq' hb2
  have BW2 : Hid (Below w.heap.size w wr) := bt HB0.out B2.out
  obtain ⟨e0, e1, e5⟩ := HC.out _ hb2
  clear hr hb2
  by_cases hlt : k < recs.length
  ·obtain ⟨x, hx⟩ : ∃ x, recs[k]? = some x := ⟨recs[k], by simp [hlt]⟩
   have hxo := HR.out x (List.mem_of_getElem? hx)
   have HS := hq' (goodRecs_step (base + count) n recs k x hx)
   obtain ⟨g, off, cap', he, hg, p0, p1, p2, p3⟩ := HZ.out.get BW2.out hx
   injection he with he1 he2 he3
   subst he1 he3
   obtain ⟨x0, xk, xv, xg⟩ := x
   have hxo2 := hxo.1
   have HN := hq' (fun w => refrec_any ⟨x0, xk, xv, xg⟩ hxo w)
   obtain ⟨xo1, xo2⟩ := hxo2
   unfold recV at HN
   dsimp only at *
   clear he2 hxo
   have L5 := fun b : BelowOf wr => b.cell e5
   have L0 := fun b : BelowOf wr => b.cell e0
   have L1 := fun b : BelowOf wr => b.cell e1
   have M0 := fun b : BelowOf wr => b.cell p0
   have M1 := fun b : BelowOf wr => b.cell p1
   have M2 := fun b : BelowOf wr => b.cell p2
   have M3 := fun b : BelowOf wr => b.cell p3
   by_cases hok : Cr.isRec ⟨x0, xk, xv, xg⟩ = true ∧ n ≤ x0 ∧ x0 < base + count
   ·obtain ⟨k1, k2, k3⟩ := hok
    have HX : Hid (Cr.goodRecs (base + count) base recs = Cr.goodRecs (base + count) (x0 + 1) (recs.drop (k + 1))) := by
     rw [Hid, HR2.out, HS.out, k1, decide_eq_true k2, decide_eq_true k3]
     rfl
    rw [k1] at HN
    clear HS k1
    have g1 : decide (x0 ≤ n - 1) = false := decide_eq_false (by omega)
    have g2 : decide (base + count ≤ x0) = false := decide_eq_false (by omega)
    go_wp2
    refine wp_region_below (by kernel_rfl) (by kernel_rfl) ?_
    repeat (go_big_quiet_step ((refine (HN.out _).mono ?_; rintro e w' ⟨rfl, hb⟩; exact ⟨rfl, belowOf_call (Subtype.property _) hb⟩)))
    refine wpQuiet_nil ?_
    intro w9 hC9
    obtain ⟨⟨w9, hb9⟩, rfl⟩ := hC9
    clear L5 L0 L1 M0 M1 M2 M3
    have B9 : Hid (Below w0.heap.size w0 w9) := bt B2.out hb9
    have BW9 : Hid (Below w.heap.size w w9) := bt HB0.out B9.out
    have p9 := (hb9.cell (World.block_lt_of_cell? wr _ p0)).trans p0
    have e9 := (hb9.cell (World.block_lt_of_cell? wr _ e5)).trans e5
    clear hb9
    go_wp2
    go_roundw
    case rel => exact ⟨k + 1, x0 + 1, by go_num, by go_num, by omega, by omega, by omega, HX.out, B9.out⟩
    case measure => simp [intOf]; omega
   ·have HX : Hid (Cr.good ⟨base, count, prod, seq, time, recs⟩ = false) := by
     rw [Hid, HH.out, HR2.out, HS.out]
     cases h : (Cr.isRec ⟨x0, xk, xv, xg⟩ && (decide (n ≤ x0) && (decide (x0 < base + count) && Cr.goodRecs (base + count) (x0 + 1) (recs.drop (k + 1))))) with
     | false => rfl
     | true =>
      simp only [Bool.and_eq_true, decide_eq_true_eq] at h
      exact absurd ⟨h.1, h.2.1, h.2.2.1⟩ hok
    clear HS
    cases hb : Cr.isRec ⟨x0, xk, xv, xg⟩ with
    | false =>
     rw [hb] at HN
     clear hb hok
     go_wp2
     refine wp_region_below (by kernel_rfl) (by kernel_rfl) ?_
     repeat (go_big_quiet_step ((refine (HN.out _).mono ?_; rintro e w' ⟨rfl, hb⟩; exact ⟨rfl, belowOf_call (Subtype.property _) hb⟩)))
     refine wpQuiet_nil ?_
     intro w9 hC9
     obtain ⟨⟨w9, hb9⟩, rfl⟩ := hC9
     clear L5 L0 L1 M0 M1 M2 M3
     have B9 : Hid (Below w0.heap.size w0 w9) := bt B2.out hb9
     have BW9 : Hid (Below w.heap.size w w9) := bt HB0.out B9.out
     have p9 := (hb9.cell (World.block_lt_of_cell? wr _ p0)).trans p0
     have e9 := (hb9.cell (World.block_lt_of_cell? wr _ e5)).trans e5
     clear hb9
     go_wp2
     go_ret
     exact ⟨by rw [HX.out]; rfl, BW9.out⟩
    | true =>
     rw [hb] at HN
     by_cases hn : n ≤ x0
     ·have hn2 : ¬ x0 < base + count := fun h => hok ⟨hb, hn, h⟩
      clear hb hok
      have g1 : decide (x0 ≤ n - 1) = false := decide_eq_false (by omega)
      have g2 : decide (base + count ≤ x0) = true := decide_eq_true (by omega)
      go_wp2
      refine wp_region_below (by kernel_rfl) (by kernel_rfl) ?_
      repeat (go_big_quiet_step ((refine (HN.out _).mono ?_; rintro e w' ⟨rfl, hb⟩; exact ⟨rfl, belowOf_call (Subtype.property _) hb⟩)))
      refine wpQuiet_nil ?_
      intro w9 hC9
      obtain ⟨⟨w9, hb9⟩, rfl⟩ := hC9
      clear L5 L0 L1 M0 M1 M2 M3
      have B9 : Hid (Below w0.heap.size w0 w9) := bt B2.out hb9
      have BW9 : Hid (Below w.heap.size w w9) := bt HB0.out B9.out
      have p9 := (hb9.cell (World.block_lt_of_cell? wr _ p0)).trans p0
      have e9 := (hb9.cell (World.block_lt_of_cell? wr _ e5)).trans e5
      clear hb9
      go_wp2
      go_ret
      exact ⟨by rw [HX.out]; rfl, BW9.out⟩
     ·clear hb hok
      have g1 : decide (x0 ≤ n - 1) = true := decide_eq_true (by omega)
      go_wp2
      refine wp_region_below (by kernel_rfl) (by kernel_rfl) ?_
      repeat (go_big_quiet_step ((refine (HN.out _).mono ?_; rintro e w' ⟨rfl, hb⟩; exact ⟨rfl, belowOf_call (Subtype.property _) hb⟩)))
      refine wpQuiet_nil ?_
      intro w9 hC9
      obtain ⟨⟨w9, hb9⟩, rfl⟩ := hC9
      clear L5 L0 L1 M0 M1 M2 M3
      have B9 : Hid (Below w0.heap.size w0 w9) := bt B2.out hb9
      have BW9 : Hid (Below w.heap.size w w9) := bt HB0.out B9.out
      have p9 := (hb9.cell (World.block_lt_of_cell? wr _ p0)).trans p0
      have e9 := (hb9.cell (World.block_lt_of_cell? wr _ e5)).trans e5
      clear hb9
      go_wp2
      go_ret
      exact ⟨by rw [HX.out]; rfl, BW9.out⟩
  ·obtain rfl : k = recs.length := by omega
   have HX : Hid (Cr.good ⟨base, count, prod, seq, time, recs⟩ = true) := by
    rw [Hid, HH.out, HR2.out, List.drop_length]
    rfl
   go_wp2
   go_ret
   exact ⟨by rw [HX.out]; rfl, BW2.out⟩
end Go.Proofs.YtjfpbeccpcbpcaaGreatDoor
