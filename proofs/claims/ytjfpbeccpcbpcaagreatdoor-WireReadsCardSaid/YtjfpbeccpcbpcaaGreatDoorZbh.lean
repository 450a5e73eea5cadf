/-
  Yr2 / Yr3: texts of one proof, one behind the other.
  Conditions: none of its own.
-/
import Derived.Test.YtjfpbeccpcbpcaaGreatDoorZbg
set_option linter.unusedVariables false
set_option linter.unusedSimpArgs false
set_option maxHeartbeats 12800000
set_option maxRecDepth 20000
namespace Go.Proofs.YtjfpbeccpcbpcaaGreatDoor
open Go.RowKit
structure RS (w : World) (p : Nat) (l : List UInt8) (xb : Nat) (q : Bd.St) (v : Value) (acc : List Cr.Rec) (cs : List Value) (W : World) : Prop where
 r : RU W p l q
 o : W.ownsRow w.heap.size 107 4 v acc.length (recCells acc)
 k : Kp w p W
 c : Cl W xb cs 107
 hp : p < w.heap.size
 hx : w.heap.size ≤ xb
 hv : ∀ g', v.ownBlock = some g' → g' < xb
theorem RS.call {w W W' : World} {p xb : Nat} {l : List UInt8} {q q' : Bd.St} {v : Value} {acc : List Cr.Rec} {cs : List Value} (h : RS w p l xb q v acc cs W) (k : RUs W p l q' W') : RS w p l xb q' v acc cs W' :=
 ⟨k.1, ownsRow_keeps h.o k.2 h.hp, Kp.calls h.k k, h.c.keep k.2 (by have := h.hp; have := h.hx; omega), h.hp, h.hx, h.hv⟩
theorem RS.set {w W : World} {p xb : Nat} {l : List UInt8} {q : Bd.St} {v : Value} {acc : List Cr.Rec} {cs : List Value} (h : RS w p l xb q v acc cs W) (i : Nat) (u : Value) : RS w p l xb q v acc (cs.set i u) (W.setCell ⟨xb, i, none⟩ u) :=
 ⟨h.r.keep (Keeps.setCell (fun j => j = xb) _ _ _ rfl) (by have := h.hp; have := h.hx; omega), own_far h.o u trivial h.hv, Keeps.trans h.k (Keeps.setCell (fun j => j = p ∨ w.heap.size ≤ j) W ⟨xb, i, none⟩ u (.inr h.hx)), h.c.set i u, h.hp, h.hx, h.hv⟩
theorem RS.bad {w W : World} {p xb : Nat} {l : List UInt8} {q : Bd.St} {v : Value} {acc : List Cr.Rec} {cs : List Value} (h : RS w p l xb q v acc cs W) : RS w p l xb (q.1, true) v acc cs (W.setCell ⟨p, 2, none⟩ (.bool true)) :=
 ⟨by
  obtain ⟨k, hk, hr, hq⟩ := h.r
  exact ⟨k, hk, hr.setBad true, fun e => by cases e⟩, ownsRow_keeps h.o (Keeps.setCell (fun j => j = p) _ _ _ rfl) h.hp, Keeps.trans h.k (Keeps.setCell (fun j => j = p ∨ w.heap.size ≤ j) W ⟨p, 2, none⟩ (.bool true) (.inl rfl)), h.c.keep (Keeps.setCell (fun j => j = p) _ _ _ rfl) (by have := h.hp; have := h.hx; omega), h.hp, h.hx, h.hv⟩
theorem tRec_eq (q : Bd.St) : Wi.tRec q = (⟨(Bd.sInt q).1, (Bd.sText 16 (Bd.sInt q).2).1, (Bd.sText 64 (Bd.sText 16 (Bd.sInt q).2).2).1, (Bd.sInt (Bd.sText 64 (Bd.sText 16 (Bd.sInt q).2).2).2).1 == 1⟩,
  ((Bd.sInt (Bd.sText 64 (Bd.sText 16 (Bd.sInt q).2).2).2).2.1, (Bd.sInt (Bd.sText 64 (Bd.sText 16 (Bd.sInt q).2).2).2).2.2 || !decide (0 ≤ (Bd.sInt (Bd.sText 64 (Bd.sText 16 (Bd.sInt q).2).2).2).1 ∧ (Bd.sInt (Bd.sText 64 (Bd.sText 16 (Bd.sInt q).2).2).2).1 ≤ 1))) := rfl
theorem refreadRecs_any (p : Nat) (l : List UInt8) (q : Bd.St) (w : World) (hl : l.length ≤ 4294967296) (h : RU w p l q) :
  Calls Tryz.prog 71 #[.pointer (some ⟨p, 0, none⟩)] w fun e w' => ∃ v, e = .returned v ∧ w'.ownsRow w.heap.size 107 4 v (Wi.tRecs q).1.length (recCells (Wi.tRecs q).1) ∧ RU w' p l (Wi.tRecs q).2 ∧ Kp w p w' := by
 have hpl := h.lt
 obtain ⟨i0, hi, hz0, hz1, hz2⟩ := info_parts recInfo
 have HS : Hid (Wi.tRecs q = ((Wi.sMany Wi.tRec 17 (Bd.sSign 108 q)).1, Bd.sSign 101 (Wi.sMany Wi.tRec 17 (Bd.sSign 108 q)).2)) := rfl
 have O0 : Hid ((w.alloc (.cells #[] 107)).ownsRow w.heap.size 107 4 (.slice (some ⟨w.heap.size, 0, none⟩) 0 0) 0 []) := World.ownsRow_made w #[] 0 (Nat.le_refl _) (by unfold maxLen; omega) rfl
 have R0 : Hid (RU (w.alloc (.cells #[] 107)) p l q) := h.keep (S := fun _ => False) (Keeps.alloc _ _ _) id
 have K0 : Hid (Kp w p (w.alloc (.cells #[] 107))) := Keeps.alloc _ _ _
 have HQ := hq' (refopen_any p l q _ hl R0.out)
 clear h R0
 rw [HS.out]
 generalize Bd.sSign 108 q = q1 at *
 clear HS
 go_enter Tryz.func71, Tryz.ntmps71
 go_upto_region 2 with (fail)
 generalize w.alloc (.cells #[] 107) = w0 at *
 generalize (Value.slice (some ⟨w.heap.size, 0, none⟩) 0 0) = v0 at *
 go_wp2_with fail
 refine HQ.out.mono ?_
 rintro e w1 ⟨rfl, h1⟩
 have R1 := hq' h1.1
 have K1 := hq' (Kp.calls K0.out h1)
 have O1 := hq' (ownsRow_keeps O0.out h1.2 hpl)
 clear h1 HQ K0 O0
 go_wp2_with fail
 go_loopw [3] (fun v wr => ∃ (acc : List Cr.Rec) (qq : Bd.St), wr.ownsRow w.heap.size 107 4 v acc.length (recCells acc) ∧ RU wr p l qq ∧ Kp w p wr ∧ Cap Wi.tRec 17 q1 acc qq) (fun v _ => 17 - slLen v)
 case atStart => exact ⟨[], q1, O1.out, R1.out, K1.out, Cap.start _ _ _⟩
 case round =>
  obtain ⟨acc, qq, ho, hr, hk, ha⟩ := hrel
  have HO := hq' ho
  have HR := hq' hr
  have HK := hq' hk
  have HA := hq' ha
  have hal := ha.1
  have HM := hq' (refmore_any p l qq wr hl hr)
  obtain ⟨av, cv, hve⟩ := own_form ho
  subst hve
  clear ho hr hk ha O1 R1 K1
  go_wp2_with fail
  refine HM.out.mono ?_
  rintro e w8 ⟨rfl, nm, rfl⟩
  have B8 := hq' (below_drewN (Below.refl wr.heap.size wr) nm)
  have O8 := hq' (ownsRow_below HO.out B8.out)
  have R8 := hq' (HR.out.below B8.out)
  have K8 : Hid (Kp w p (wr.drewN nm)) := HK.out.trans (Keeps.below _ B8.out)
  clear HO HR HK HM B8
  generalize wr.drewN nm = w8 at *
  have hsz8 := K8.out.size
  by_cases hgo : Bd.sMore qq = true ∧ acc.length < 17
  ·obtain ⟨hm, hlt⟩ := hgo
   have HN0 := hq' (HA.out.next hm hlt)
   have HE := hq' (tRec_eq qq)
   rw [HE.out] at HN0
   rw [hm]
   have hlti : ((acc.length : Nat) : Int) < 17 := by omega
   have XA : Hid (RS w p l w8.heap.size qq (.slice av acc.length cv) acc [.int .i64 0, .string ⟨#[]⟩, .string ⟨#[]⟩, .bool false] (w8.alloc (.cells #[.int .i64 0, .string ⟨#[]⟩, .string ⟨#[]⟩, .bool false] 107))) :=
    ⟨R8.out.keep (S := fun _ => False) (Keeps.alloc _ _ _) id, World.ownsRow.alloc O8.out _, K8.out.trans (Keeps.alloc _ _ _), Cl.new _ _ _, hpl, hsz8, fun g' hv => (O8.out.lt g' hv).2⟩
   have HI1 := hq' (fun W (h : RU W p l qq) => refint_any p l qq W hl h)
   have HI2 := hq' (fun W (h : RU W p l (Bd.sInt qq).2) => reftext_any p 16 (by omega) (by omega) l (Bd.sInt qq).2 W hl h)
   have HI3 := hq' (fun W (h : RU W p l (Bd.sText 16 (Bd.sInt qq).2).2) => reftext_any p 64 (by omega) (by omega) l (Bd.sText 16 (Bd.sInt qq).2).2 W hl h)
   have HI4 := hq' (fun W (h : RU W p l (Bd.sText 64 (Bd.sText 16 (Bd.sInt qq).2).2).2) => refint_any p l (Bd.sText 64 (Bd.sText 16 (Bd.sInt qq).2).2).2 W hl h)
   unfold RIV at HI1 HI4
   unfold RTV at HI2 HI3
   clear hm HA HE O8 R8
   generalize (Bd.sInt (Bd.sText 64 (Bd.sText 16 (Bd.sInt qq).2).2).2).1 = gn at *
   generalize (Bd.sInt (Bd.sText 64 (Bd.sText 16 (Bd.sInt qq).2).2).2).2 = q5 at *
   generalize (Bd.sText 64 (Bd.sText 16 (Bd.sInt qq).2).2).1 = vv at *
   generalize (Bd.sText 64 (Bd.sText 16 (Bd.sInt qq).2).2).2 = q4 at *
   generalize (Bd.sText 16 (Bd.sInt qq).2).1 = kk at *
   generalize (Bd.sText 16 (Bd.sInt qq).2).2 = q3 at *
   generalize (Bd.sInt qq).1 = off at *
   generalize (Bd.sInt qq).2 = q2 at *
   go_upto_region 5 with (fail)
   generalize w8.alloc (.cells #[.int .i64 0, .string ⟨#[]⟩, .string ⟨#[]⟩, .bool false] 107) = wA at *
   generalize w8.heap.size = xb at *
   clear K8
   go_wp2_with fail
   refine (HI1.out _ XA.out.r).mono ?_
   rintro e wb ⟨rfl, hb⟩
   have YB := hq' (XA.out.call hb)
   clear hb XA HI1
   obtain ⟨t0, t1, t2, t3⟩ := YB.out.c.cell4
   have tf := YB.out.c.free 0
   have X0 : Hid (RS w p l xb q2 (.slice av acc.length cv) acc [.int .i64 off, .string ⟨#[]⟩, .string ⟨#[]⟩, .bool false] (wb.setCell ⟨xb, 0, none⟩ (.int .i64 off))) := YB.out.set 0 _
   go_upto_region 6 with (fail)
   clear YB t0 t1 t2 t3 tf
   generalize wb.setCell ⟨xb, 0, none⟩ (.int .i64 off) = wc0 at *
   go_wp2_with fail
   refine (HI2.out _ X0.out.r).mono ?_
   rintro e wb ⟨rfl, hb⟩
   have YB := hq' (X0.out.call hb)
   clear hb X0 HI2
   obtain ⟨t0, t1, t2, t3⟩ := YB.out.c.cell4
   have tf := YB.out.c.free 1
   have X1 : Hid (RS w p l xb q3 (.slice av acc.length cv) acc [.int .i64 off, .string ⟨kk.toArray⟩, .string ⟨#[]⟩, .bool false] (wb.setCell ⟨xb, 1, none⟩ (.string ⟨kk.toArray⟩))) := YB.out.set 1 _
   go_upto_region 7 with (fail)
   clear YB t0 t1 t2 t3 tf
   generalize wb.setCell ⟨xb, 1, none⟩ (.string ⟨kk.toArray⟩) = wc1 at *
   go_wp2_with fail
   refine (HI3.out _ X1.out.r).mono ?_
   rintro e wb ⟨rfl, hb⟩
   have YB := hq' (X1.out.call hb)
   clear hb X1 HI3
   obtain ⟨t0, t1, t2, t3⟩ := YB.out.c.cell4
   have tf := YB.out.c.free 2
   have X2 : Hid (RS w p l xb q4 (.slice av acc.length cv) acc [.int .i64 off, .string ⟨kk.toArray⟩, .string ⟨vv.toArray⟩, .bool false] (wb.setCell ⟨xb, 2, none⟩ (.string ⟨vv.toArray⟩))) := YB.out.set 2 _
   go_upto_region 8 with (fail)
   clear YB t0 t1 t2 t3 tf
   generalize wb.setCell ⟨xb, 2, none⟩ (.string ⟨vv.toArray⟩) = wc2 at *
   go_wp2_with fail
   refine (HI4.out _ X2.out.r).mono ?_
   rintro e wb ⟨rfl, hb⟩
   have YB := hq' (X2.out.call hb)
   clear hb X2 HI4
   obtain ⟨t0, t1, t2, t3⟩ := YB.out.c.cell4
   have tf := YB.out.c.free 3
   have X3 : Hid (RS w p l xb q5 (.slice av acc.length cv) acc [.int .i64 off, .string ⟨kk.toArray⟩, .string ⟨vv.toArray⟩, .bool (gn == 1)] (wb.setCell ⟨xb, 3, none⟩ (.bool (gn == 1)))) := YB.out.set 3 _
   go_upto_region 10 with (fail)
   clear YB t0 t1 t2 t3 tf
   generalize wb.setCell ⟨xb, 3, none⟩ (.bool (gn == 1)) = wd at *
   generalize hgb : (gn == 1) = gb at *
   go_cut [36] (fun t wz => t = .bool (!decide (0 ≤ gn ∧ gn ≤ 1)) ∧ wz = wd)
   case first =>
    clear HN0 X3 hgb
    by_cases hg2 : gn < 0
    ·have hd : Hid (decide (0 ≤ gn ∧ gn ≤ 1) = false) := decide_eq_false (by omega)
     go_wp2
     go_meet
     case rel => exact ⟨by rw [hd.out]; rfl, rfl⟩
    ·by_cases hg3 : 1 < gn
     ·have hd : Hid (decide (0 ≤ gn ∧ gn ≤ 1) = false) := decide_eq_false (by omega)
      go_wp2
      go_meet
      case rel => exact ⟨by rw [hd.out]; rfl, rfl⟩
     ·have hd : Hid (decide (0 ≤ gn ∧ gn ≤ 1) = true) := decide_eq_true (by omega)
      go_wp2
      go_meet
      case rel => exact ⟨by rw [hd.out]; rfl, rfl⟩
   case rest =>
   obtain ⟨rfl, hwc⟩ := hcut
   have hwc' := hwc.symm
   clear hwc
   subst hwc'
   generalize decide (0 ≤ gn ∧ gn ≤ 1) = gd at *
   go_upto_if 36 with (fail)
   go_cut [] (fun wz => RS w p l xb (q5.1, q5.2 || !gd) (.slice av acc.length cv) acc [.int .i64 off, .string ⟨kk.toArray⟩, .string ⟨vv.toArray⟩, .bool gb] wz)
   case first =>
    obtain ⟨kr, hkr, hrr, _⟩ := X3.out.r
    obtain ⟨f1, f2⟩ := hrr.free
    have c2 := hrr.cells.2.2
    clear hkr hrr HN0
    cases gd with
    | true =>
     have X4 : Hid (RS w p l xb (q5.1, q5.2 || !true) (.slice av acc.length cv) acc [.int .i64 off, .string ⟨kk.toArray⟩, .string ⟨vv.toArray⟩, .bool gb] wd) := by
      have := X3.out
      rwa [show (q5.1, q5.2 || !true) = q5 by simp]
     clear hgb
     go_wp2
     go_meet
     case rel => exact X4.out
    | false =>
     have X4 : Hid (RS w p l xb (q5.1, q5.2 || !false) (.slice av acc.length cv) acc [.int .i64 off, .string ⟨kk.toArray⟩, .string ⟨vv.toArray⟩, .bool gb] (wd.setCell ⟨p, 2, none⟩ (.bool true))) := by
      have := X3.out.bad
      rwa [show (q5.1, q5.2 || !false) = (q5.1, true) by simp]
     clear hgb
     go_wp2
     go_meet
     case rel => exact X4.out
   case rest =>
    have XE := hq' hcut
    have HN : Hid (Cap Wi.tRec 17 q1 (acc ++ [⟨off, kk, vv, gb⟩]) (q5.1, q5.2 || !gd)) := HN0.out
    clear hcut HN0 hgb X3
    generalize (q5.1, q5.2 || !gd) = q6 at *
    generalize wc = we at *
    obtain ⟨t0, t1, t2, t3⟩ := XE.out.c.cell4
    have hone : ∀ u ∈ [Value.int .i64 off, .string ⟨kk.toArray⟩, .string ⟨vv.toArray⟩, .bool gb], u.oneCell' = true := by simp [Value.oneCell']
    have hba := XE.out.k.size
    go_wp2_with (at_builtin; refine wpList_append_own _ rfl _ _ 26 rfl w.heap.size 107 i0 _ 4 48 Tryz.underlying26 hi hz0 hz1 hz2 rfl (by decide) _ _ _ rfl (World.ownsRow.alloc XE.out.o _) ⟨we.heap.size, 0, none⟩ 1 1 [.int .i64 off, .string ⟨kk.toArray⟩, .string ⟨vv.toArray⟩, .bool gb] rfl rfl (World.news_of_block (cs := #[.int .i64 off, .string ⟨kk.toArray⟩, .string ⟨vv.toArray⟩, .bool gb]) (t := 107) (fr := (0, 0)) (heap_alloc_new we _)) hone ?_ ?_ ?_ ?_)
    ·unfold maxLen; omega
    ·omega
    ·first | omega | (rw [World.size_alloc]; omega) | (simp; omega)
    intro v' wB hownB hgB _
    have KB : Hid (Keeps (fun j => w.heap.size ≤ j) we wB) := (Keeps.alloc _ _ _).trans (Keeps.grown hgB (fun j hj => (XE.out.o.lt j hj).1))
    have OB : Hid (wB.ownsRow w.heap.size 107 4 v' (acc ++ [(⟨off, kk, vv, gb⟩ : Cr.Rec)]).length (recCells (acc ++ [⟨off, kk, vv, gb⟩]))) := by
     rw [Hid, recCells_app, List.length_append]
     exact hownB
    have RB := hq' (XE.out.r.keep KB.out (by omega))
    have KPB : Hid (Kp w p wB) := show Keeps (fun k => k = p ∨ w.heap.size ≤ k) w wB from Keeps.trans XE.out.k (KB.out.mono fun j _ e => .inr e)
    obtain ⟨av', cv', hve'⟩ := own_form hownB
    subst hve'
    clear hownB hgB KB XE t0 t1 t2 t3
    go_wp2
    go_roundw
    case rel => exact ⟨acc ++ [⟨off, kk, vv, gb⟩], q6, OB.out, RB.out, KPB.out, HN.out⟩
    case measure => simp only [slLen]; omega
  ·have HEE : Hid (Wi.sMany Wi.tRec 17 q1 = (acc, qq)) := HA.out.stop (by
    cases hm : Bd.sMore qq with
    | false => exact .inl rfl
    | true => right; exact Nat.le_of_not_lt fun h => hgo ⟨hm, h⟩)
   have HC := hq' (refclose_any p l qq w8 hl R8.out)
   clear HA
   cases hm : Bd.sMore qq with
   | true =>
    have hlti : ¬ ((acc.length : Nat) : Int) < 17 := by
     have : ¬ acc.length < 17 := fun h => hgo ⟨hm, h⟩
     omega
    clear hm hgo
    go_wp2_with fail
    refine HC.out.mono ?_
    rintro e w9 ⟨rfl, h9⟩
    have O9 := hq' (ownsRow_keeps O8.out h9.2 hpl)
    have K9 := hq' (Kp.calls K8.out h9)
    have R9 := hq' h9.1
    clear h9
    go_wp2
    go_ret
    refine ⟨_, rfl, ?_, ?_, K9.out⟩
    ·rw [HEE.out]; exact O9.out
    ·rw [HEE.out]; exact R9.out
   | false =>
    clear hm hgo
    go_wp2_with fail
    refine HC.out.mono ?_
    rintro e w9 ⟨rfl, h9⟩
    have O9 := hq' (ownsRow_keeps O8.out h9.2 hpl)
    have K9 := hq' (Kp.calls K8.out h9)
    have R9 := hq' h9.1
    clear h9
    go_wp2
    go_ret
    refine ⟨_, rfl, ?_, ?_, K9.out⟩
    ·rw [HEE.out]; exact O9.out
    ·rw [HEE.out]; exact R9.out
structure RB (w : World) (p : Nat) (l : List UInt8) (bx : Nat) (q : Bd.St) (cs zc : List Value) (t tz : TypeId) (W : World) : Prop where
 r : RU W p l q
 k : Kp w p W
 c : Cl W bx cs t
 z : Cl W w.heap.size zc tz
 hp : p < w.heap.size
 hx : w.heap.size < bx
theorem RB.call {w W W' : World} {p bx : Nat} {l : List UInt8} {q q' : Bd.St} {cs zc : List Value} {t tz : TypeId} (h : RB w p l bx q cs zc t tz W) (k : RUs W p l q' W') : RB w p l bx q' cs zc t tz W' :=
 ⟨k.1, Kp.calls h.k k, h.c.keep k.2 (by have := h.hp; have := h.hx; omega), h.z.keep k.2 (by have := h.hp; omega), h.hp, h.hx⟩
theorem RB.own {w W W' : World} {p bx : Nat} {l : List UInt8} {q q' : Bd.St} {cs zc : List Value} {t tz : TypeId} (h : RB w p l bx q cs zc t tz W) (r : RU W' p l q') (k : Kp W p W') : RB w p l bx q' cs zc t tz W' :=
 ⟨r, Keeps.trans h.k (k.mono fun j _ e => e.imp id (fun e => Nat.le_trans h.k.size e)), h.c.keep k (fun e => by have := h.c.lt; have := h.hp; have := h.hx; rcases e with e | e <;> omega), h.z.keep k (fun e => by have := h.z.lt; have := h.hp; rcases e with e | e <;> omega), h.hp, h.hx⟩
theorem RB.set {w W : World} {p bx : Nat} {l : List UInt8} {q : Bd.St} {cs zc : List Value} {t tz : TypeId} (h : RB w p l bx q cs zc t tz W) (i : Nat) (u : Value) : RB w p l bx q (cs.set i u) zc t tz (W.setCell ⟨bx, i, none⟩ u) :=
 ⟨h.r.keep (Keeps.setCell (fun j => j = bx) _ _ _ rfl) (by have := h.hp; have := h.hx; omega), Keeps.trans h.k (Keeps.setCell (fun j => j = p ∨ w.heap.size ≤ j) W ⟨bx, i, none⟩ u (.inr (Nat.le_of_lt h.hx))), h.c.set i u, h.z.other _ _ (by have := h.hx; simp only; omega), h.hp, h.hx⟩
theorem refreadReq_any (p : Nat) (l : List UInt8) (q : Bd.St) (w : World) (hl : l.length ≤ 4294967296) (h : RU w p l q) :
  Calls Tryz.prog 69 #[.pointer (some ⟨p, 0, none⟩)] w fun e w' => ∃ v, e = .returned (.agg (wreqC (Wi.tReq q).1 v).toArray) ∧ w'.ownsRow w.heap.size 107 4 v (Wi.tReq q).1.recs.length (recCells (Wi.tReq q).1.recs) ∧ RU w' p l (Wi.tReq q).2 ∧ Kp w p w' := by
 have hpl := h.lt
 have HS : Hid (Wi.tReq q = (⟨vN q 0, vN q 1, vN q 2, vN q 3, vN q 4, vN q 5, vN q 6, vN q 7, (Bd.sText 8 (stN q 8)).1, (Bd.sText 8 (Bd.sText 8 (stN q 8)).2).1, (Wi.tRecs (Bd.sText 8 (Bd.sText 8 (stN q 8)).2).2).1⟩, (Wi.tRecs (Bd.sText 8 (Bd.sText 8 (stN q 8)).2).2).2)) := rfl
 have s1 := World.size_alloc w (.cells #[.int .i64 0, .int .i64 0, .int .i64 0, .int .i64 0, .int .i64 0, .int .i64 0, .int .i64 0, .int .i64 0, .string ⟨#[]⟩, .string ⟨#[]⟩, .slice none 0 0] 31)
 have X0 : Hid (RB w p l (w.heap.size + 1) (stN q 0) [.int .i64 0, .int .i64 0, .int .i64 0, .int .i64 0, .int .i64 0, .int .i64 0, .int .i64 0, .int .i64 0, .string ⟨#[]⟩, .string ⟨#[]⟩, .slice none 0 0] [.int .i64 0, .int .i64 0, .int .i64 0, .int .i64 0, .int .i64 0, .int .i64 0, .int .i64 0, .int .i64 0, .string ⟨#[]⟩, .string ⟨#[]⟩, .slice none 0 0] 31 31 ((w.alloc (.cells #[.int .i64 0, .int .i64 0, .int .i64 0, .int .i64 0, .int .i64 0, .int .i64 0, .int .i64 0, .int .i64 0, .string ⟨#[]⟩, .string ⟨#[]⟩, .slice none 0 0] 31)).alloc (.cells #[.int .i64 0, .int .i64 0, .int .i64 0, .int .i64 0, .int .i64 0, .int .i64 0, .int .i64 0, .int .i64 0, .string ⟨#[]⟩, .string ⟨#[]⟩, .slice none 0 0] 31))) := by
  have c := Cl.new (w.alloc (.cells #[.int .i64 0, .int .i64 0, .int .i64 0, .int .i64 0, .int .i64 0, .int .i64 0, .int .i64 0, .int .i64 0, .string ⟨#[]⟩, .string ⟨#[]⟩, .slice none 0 0] 31)) [.int .i64 0, .int .i64 0, .int .i64 0, .int .i64 0, .int .i64 0, .int .i64 0, .int .i64 0, .int .i64 0, .string ⟨#[]⟩, .string ⟨#[]⟩, .slice none 0 0] 31
  rw [s1] at c
  exact ⟨h.keep (S := fun _ => False) ((Keeps.alloc _ _ _).trans (Keeps.alloc _ _ _)) id, (Keeps.alloc _ _ _).trans (Keeps.alloc _ _ _), c, (Cl.new w [.int .i64 0, .int .i64 0, .int .i64 0, .int .i64 0, .int .i64 0, .int .i64 0, .int .i64 0, .int .i64 0, .string ⟨#[]⟩, .string ⟨#[]⟩, .slice none 0 0] 31).alloc _, hpl, Nat.lt_succ_self _⟩
 clear h s1
 generalize Wi.tReq q = tq at HS ⊢
 go_enter Tryz.func69, Tryz.ntmps69
 go_upto_region 2 with (fail)
 generalize (w.alloc (.cells #[.int .i64 0, .int .i64 0, .int .i64 0, .int .i64 0, .int .i64 0, .int .i64 0, .int .i64 0, .int .i64 0, .string ⟨#[]⟩, .string ⟨#[]⟩, .slice none 0 0] 31)).alloc (.cells #[.int .i64 0, .int .i64 0, .int .i64 0, .int .i64 0, .int .i64 0, .int .i64 0, .int .i64 0, .int .i64 0, .string ⟨#[]⟩, .string ⟨#[]⟩, .slice none 0 0] 31) = wx at *
 obtain ⟨bx, hbx⟩ : ∃ bx, bx = w.heap.size + 1 := ⟨_, rfl⟩
 rw [← hbx] at X0
 first | rw [← hbx] | skip
 obtain ⟨pr, hpr⟩ : ∃ pr, pr = w.heap.size := ⟨_, rfl⟩
 first | rw [← hpr] | skip
 have HPR := hq' hpr
 clear hbx hpr
 have N := hq' (refint_any p l (stN q 0) _ hl X0.out.r)
 unfold RIV at N
 rw [show (Bd.sInt (stN q 0)).1 = vN q 0 from rfl, show (Bd.sInt (stN q 0)).2 = stN q 1 from rfl] at N
 go_wp2_with fail
 refine N.out.mono ?_
 rintro e wa ⟨rfl, ha⟩
 have Y := hq' (X0.out.call ha)
 clear ha X0 N
 have c0 : wa.cell? ⟨bx, 0, none⟩ = some (.int .i64 0) := Y.out.c.cell 0
 have f0 := Y.out.c.free 0
 have X1 : Hid (RB w p l bx (stN q 1) [.int .i64 (vN q 0), .int .i64 0, .int .i64 0, .int .i64 0, .int .i64 0, .int .i64 0, .int .i64 0, .int .i64 0, .string ⟨#[]⟩, .string ⟨#[]⟩, .slice none 0 0] [.int .i64 0, .int .i64 0, .int .i64 0, .int .i64 0, .int .i64 0, .int .i64 0, .int .i64 0, .int .i64 0, .string ⟨#[]⟩, .string ⟨#[]⟩, .slice none 0 0] 31 31 (wa.setCell ⟨bx, 0, none⟩ (.int .i64 (vN q 0)))) := Y.out.set 0 _
 generalize vN q 0 = n0 at *
 go_upto_region 3 with (fail)
 clear c0 f0 Y
 generalize wa.setCell ⟨bx, 0, none⟩ (.int .i64 n0) = w1 at *
 have N := hq' (refint_any p l (stN q 1) _ hl X1.out.r)
 unfold RIV at N
 rw [show (Bd.sInt (stN q 1)).1 = vN q 1 from rfl, show (Bd.sInt (stN q 1)).2 = stN q 2 from rfl] at N
 go_wp2_with fail
 refine N.out.mono ?_
 rintro e wa ⟨rfl, ha⟩
 have Y := hq' (X1.out.call ha)
 clear ha X1 N
 have c1 : wa.cell? ⟨bx, 1, none⟩ = some (.int .i64 0) := Y.out.c.cell 1
 have f0 := Y.out.c.free 1
 have X2 : Hid (RB w p l bx (stN q 2) [.int .i64 n0, .int .i64 (vN q 1), .int .i64 0, .int .i64 0, .int .i64 0, .int .i64 0, .int .i64 0, .int .i64 0, .string ⟨#[]⟩, .string ⟨#[]⟩, .slice none 0 0] [.int .i64 0, .int .i64 0, .int .i64 0, .int .i64 0, .int .i64 0, .int .i64 0, .int .i64 0, .int .i64 0, .string ⟨#[]⟩, .string ⟨#[]⟩, .slice none 0 0] 31 31 (wa.setCell ⟨bx, 1, none⟩ (.int .i64 (vN q 1)))) := Y.out.set 1 _
 generalize vN q 1 = n1 at *
 go_upto_region 4 with (fail)
 clear c1 f0 Y
 generalize wa.setCell ⟨bx, 1, none⟩ (.int .i64 n1) = w2 at *
 have N := hq' (refint_any p l (stN q 2) _ hl X2.out.r)
 unfold RIV at N
 rw [show (Bd.sInt (stN q 2)).1 = vN q 2 from rfl, show (Bd.sInt (stN q 2)).2 = stN q 3 from rfl] at N
 go_wp2_with fail
 refine N.out.mono ?_
 rintro e wa ⟨rfl, ha⟩
 have Y := hq' (X2.out.call ha)
 clear ha X2 N
 have c2 : wa.cell? ⟨bx, 2, none⟩ = some (.int .i64 0) := Y.out.c.cell 2
 have f0 := Y.out.c.free 2
 have X3 : Hid (RB w p l bx (stN q 3) [.int .i64 n0, .int .i64 n1, .int .i64 (vN q 2), .int .i64 0, .int .i64 0, .int .i64 0, .int .i64 0, .int .i64 0, .string ⟨#[]⟩, .string ⟨#[]⟩, .slice none 0 0] [.int .i64 0, .int .i64 0, .int .i64 0, .int .i64 0, .int .i64 0, .int .i64 0, .int .i64 0, .int .i64 0, .string ⟨#[]⟩, .string ⟨#[]⟩, .slice none 0 0] 31 31 (wa.setCell ⟨bx, 2, none⟩ (.int .i64 (vN q 2)))) := Y.out.set 2 _
 generalize vN q 2 = n2 at *
 go_upto_region 5 with (fail)
 clear c2 f0 Y
 generalize wa.setCell ⟨bx, 2, none⟩ (.int .i64 n2) = w3 at *
 have N := hq' (refint_any p l (stN q 3) _ hl X3.out.r)
 unfold RIV at N
 rw [show (Bd.sInt (stN q 3)).1 = vN q 3 from rfl, show (Bd.sInt (stN q 3)).2 = stN q 4 from rfl] at N
 go_wp2_with fail
 refine N.out.mono ?_
 rintro e wa ⟨rfl, ha⟩
 have Y := hq' (X3.out.call ha)
 clear ha X3 N
 have c3 : wa.cell? ⟨bx, 3, none⟩ = some (.int .i64 0) := Y.out.c.cell 3
 have f0 := Y.out.c.free 3
 have X4 : Hid (RB w p l bx (stN q 4) [.int .i64 n0, .int .i64 n1, .int .i64 n2, .int .i64 (vN q 3), .int .i64 0, .int .i64 0, .int .i64 0, .int .i64 0, .string ⟨#[]⟩, .string ⟨#[]⟩, .slice none 0 0] [.int .i64 0, .int .i64 0, .int .i64 0, .int .i64 0, .int .i64 0, .int .i64 0, .int .i64 0, .int .i64 0, .string ⟨#[]⟩, .string ⟨#[]⟩, .slice none 0 0] 31 31 (wa.setCell ⟨bx, 3, none⟩ (.int .i64 (vN q 3)))) := Y.out.set 3 _
 generalize vN q 3 = n3 at *
 go_upto_region 6 with (fail)
 clear c3 f0 Y
 generalize wa.setCell ⟨bx, 3, none⟩ (.int .i64 n3) = w4 at *
 have N := hq' (refint_any p l (stN q 4) _ hl X4.out.r)
 unfold RIV at N
 rw [show (Bd.sInt (stN q 4)).1 = vN q 4 from rfl, show (Bd.sInt (stN q 4)).2 = stN q 5 from rfl] at N
 go_wp2_with fail
 refine N.out.mono ?_
 rintro e wa ⟨rfl, ha⟩
 have Y := hq' (X4.out.call ha)
 clear ha X4 N
 have c4 : wa.cell? ⟨bx, 4, none⟩ = some (.int .i64 0) := Y.out.c.cell 4
 have f0 := Y.out.c.free 4
 have X5 : Hid (RB w p l bx (stN q 5) [.int .i64 n0, .int .i64 n1, .int .i64 n2, .int .i64 n3, .int .i64 (vN q 4), .int .i64 0, .int .i64 0, .int .i64 0, .string ⟨#[]⟩, .string ⟨#[]⟩, .slice none 0 0] [.int .i64 0, .int .i64 0, .int .i64 0, .int .i64 0, .int .i64 0, .int .i64 0, .int .i64 0, .int .i64 0, .string ⟨#[]⟩, .string ⟨#[]⟩, .slice none 0 0] 31 31 (wa.setCell ⟨bx, 4, none⟩ (.int .i64 (vN q 4)))) := Y.out.set 4 _
 generalize vN q 4 = n4 at *
 go_upto_region 7 with (fail)
 clear c4 f0 Y
 generalize wa.setCell ⟨bx, 4, none⟩ (.int .i64 n4) = w5 at *
 have N := hq' (refint_any p l (stN q 5) _ hl X5.out.r)
 unfold RIV at N
 rw [show (Bd.sInt (stN q 5)).1 = vN q 5 from rfl, show (Bd.sInt (stN q 5)).2 = stN q 6 from rfl] at N
 go_wp2_with fail
 refine N.out.mono ?_
 rintro e wa ⟨rfl, ha⟩
 have Y := hq' (X5.out.call ha)
 clear ha X5 N
 have c5 : wa.cell? ⟨bx, 5, none⟩ = some (.int .i64 0) := Y.out.c.cell 5
 have f0 := Y.out.c.free 5
 have X6 : Hid (RB w p l bx (stN q 6) [.int .i64 n0, .int .i64 n1, .int .i64 n2, .int .i64 n3, .int .i64 n4, .int .i64 (vN q 5), .int .i64 0, .int .i64 0, .string ⟨#[]⟩, .string ⟨#[]⟩, .slice none 0 0] [.int .i64 0, .int .i64 0, .int .i64 0, .int .i64 0, .int .i64 0, .int .i64 0, .int .i64 0, .int .i64 0, .string ⟨#[]⟩, .string ⟨#[]⟩, .slice none 0 0] 31 31 (wa.setCell ⟨bx, 5, none⟩ (.int .i64 (vN q 5)))) := Y.out.set 5 _
 generalize vN q 5 = n5 at *
 go_upto_region 8 with (fail)
 clear c5 f0 Y
 generalize wa.setCell ⟨bx, 5, none⟩ (.int .i64 n5) = w6 at *
 have N := hq' (refint_any p l (stN q 6) _ hl X6.out.r)
 unfold RIV at N
 rw [show (Bd.sInt (stN q 6)).1 = vN q 6 from rfl, show (Bd.sInt (stN q 6)).2 = stN q 7 from rfl] at N
 go_wp2_with fail
 refine N.out.mono ?_
 rintro e wa ⟨rfl, ha⟩
 have Y := hq' (X6.out.call ha)
 clear ha X6 N
 have c6 : wa.cell? ⟨bx, 6, none⟩ = some (.int .i64 0) := Y.out.c.cell 6
 have f0 := Y.out.c.free 6
 have X7 : Hid (RB w p l bx (stN q 7) [.int .i64 n0, .int .i64 n1, .int .i64 n2, .int .i64 n3, .int .i64 n4, .int .i64 n5, .int .i64 (vN q 6), .int .i64 0, .string ⟨#[]⟩, .string ⟨#[]⟩, .slice none 0 0] [.int .i64 0, .int .i64 0, .int .i64 0, .int .i64 0, .int .i64 0, .int .i64 0, .int .i64 0, .int .i64 0, .string ⟨#[]⟩, .string ⟨#[]⟩, .slice none 0 0] 31 31 (wa.setCell ⟨bx, 6, none⟩ (.int .i64 (vN q 6)))) := Y.out.set 6 _
 generalize vN q 6 = n6 at *
 go_upto_region 9 with (fail)
 clear c6 f0 Y
 generalize wa.setCell ⟨bx, 6, none⟩ (.int .i64 n6) = w7 at *
 have N := hq' (refint_any p l (stN q 7) _ hl X7.out.r)
 unfold RIV at N
 rw [show (Bd.sInt (stN q 7)).1 = vN q 7 from rfl, show (Bd.sInt (stN q 7)).2 = stN q 8 from rfl] at N
 go_wp2_with fail
 refine N.out.mono ?_
 rintro e wa ⟨rfl, ha⟩
 have Y := hq' (X7.out.call ha)
 clear ha X7 N
 have c7 : wa.cell? ⟨bx, 7, none⟩ = some (.int .i64 0) := Y.out.c.cell 7
 have f0 := Y.out.c.free 7
 have X8 : Hid (RB w p l bx (stN q 8) [.int .i64 n0, .int .i64 n1, .int .i64 n2, .int .i64 n3, .int .i64 n4, .int .i64 n5, .int .i64 n6, .int .i64 (vN q 7), .string ⟨#[]⟩, .string ⟨#[]⟩, .slice none 0 0] [.int .i64 0, .int .i64 0, .int .i64 0, .int .i64 0, .int .i64 0, .int .i64 0, .int .i64 0, .int .i64 0, .string ⟨#[]⟩, .string ⟨#[]⟩, .slice none 0 0] 31 31 (wa.setCell ⟨bx, 7, none⟩ (.int .i64 (vN q 7)))) := Y.out.set 7 _
 generalize vN q 7 = n7 at *
 go_upto_region 10 with (fail)
 clear c7 f0 Y
 generalize wa.setCell ⟨bx, 7, none⟩ (.int .i64 n7) = w8 at *
 generalize stN q 8 = q8 at *
 have N := hq' (reftext_any p 8 (by omega) (by omega) l q8 _ hl X8.out.r)
 unfold RTV at N
 generalize (Bd.sText 8 q8).1 = xg at *
 generalize (Bd.sText 8 q8).2 = q9 at *
 go_wp2_with fail
 refine N.out.mono ?_
 rintro e wa ⟨rfl, ha⟩
 have Y := hq' (X8.out.call ha)
 clear ha X8 N
 have c8 : wa.cell? ⟨bx, 8, none⟩ = some (.string ⟨#[]⟩) := Y.out.c.cell 8
 have f0 := Y.out.c.free 8
 have X9 : Hid (RB w p l bx q9 [.int .i64 n0, .int .i64 n1, .int .i64 n2, .int .i64 n3, .int .i64 n4, .int .i64 n5, .int .i64 n6, .int .i64 n7, .string ⟨xg.toArray⟩, .string ⟨#[]⟩, .slice none 0 0] [.int .i64 0, .int .i64 0, .int .i64 0, .int .i64 0, .int .i64 0, .int .i64 0, .int .i64 0, .int .i64 0, .string ⟨#[]⟩, .string ⟨#[]⟩, .slice none 0 0] 31 31 (wa.setCell ⟨bx, 8, none⟩ (.string ⟨xg.toArray⟩))) := Y.out.set 8 _
 go_upto_region 11 with (fail)
 clear c8 f0 Y
 generalize wa.setCell ⟨bx, 8, none⟩ (.string ⟨xg.toArray⟩) = w9 at *
 have N := hq' (reftext_any p 8 (by omega) (by omega) l q9 _ hl X9.out.r)
 unfold RTV at N
 generalize (Bd.sText 8 q9).1 = xm at *
 generalize (Bd.sText 8 q9).2 = q10 at *
 go_wp2_with fail
 refine N.out.mono ?_
 rintro e wa ⟨rfl, ha⟩
 have Y := hq' (X9.out.call ha)
 clear ha X9 N
 have c9 : wa.cell? ⟨bx, 9, none⟩ = some (.string ⟨#[]⟩) := Y.out.c.cell 9
 have f0 := Y.out.c.free 9
 have X10 : Hid (RB w p l bx q10 [.int .i64 n0, .int .i64 n1, .int .i64 n2, .int .i64 n3, .int .i64 n4, .int .i64 n5, .int .i64 n6, .int .i64 n7, .string ⟨xg.toArray⟩, .string ⟨xm.toArray⟩, .slice none 0 0] [.int .i64 0, .int .i64 0, .int .i64 0, .int .i64 0, .int .i64 0, .int .i64 0, .int .i64 0, .int .i64 0, .string ⟨#[]⟩, .string ⟨#[]⟩, .slice none 0 0] 31 31 (wa.setCell ⟨bx, 9, none⟩ (.string ⟨xm.toArray⟩))) := Y.out.set 9 _
 go_upto_region 12 with (fail)
 clear c9 f0 Y
 generalize wa.setCell ⟨bx, 9, none⟩ (.string ⟨xm.toArray⟩) = w10 at *
 have N := hq' (refreadRecs_any p l q10 _ hl X10.out.r)
 generalize htr : Wi.tRecs q10 = tr at *
 obtain ⟨recs, q11⟩ := tr
 have HS2 := hq' HS.out
 clear HS htr
 dsimp only at N HS2
 go_wp2_with fail
 refine N.out.mono ?_
 rintro e wa ⟨v, rfl, ho, hr, hk⟩
 have Y := hq' (X10.out.own hr hk)
 have HO : Hid (wa.ownsRow w.heap.size 107 4 v recs.length (recCells recs)) := ownsRow_weaken ho X10.out.k.size
 have hob : ∀ g', v.ownBlock = some g' → bx < g' := fun g' hv => by
  have := (ho.lt g' hv).1
  have := X10.out.c.lt
  omega
 obtain ⟨rv, rc, hve⟩ := own_form ho
 subst hve
 clear ho hr hk X10 N
 have c10 : wa.cell? ⟨bx, 10, none⟩ = some (.slice none 0 0) := Y.out.c.cell 10
 have f0 := Y.out.c.free 10
 have X11 : Hid (RB w p l bx q11 [.int .i64 n0, .int .i64 n1, .int .i64 n2, .int .i64 n3, .int .i64 n4, .int .i64 n5, .int .i64 n6, .int .i64 n7, .string ⟨xg.toArray⟩, .string ⟨xm.toArray⟩, .slice rv recs.length rc] [.int .i64 0, .int .i64 0, .int .i64 0, .int .i64 0, .int .i64 0, .int .i64 0, .int .i64 0, .int .i64 0, .string ⟨#[]⟩, .string ⟨#[]⟩, .slice none 0 0] 31 31 (wa.setCell ⟨bx, 10, none⟩ (.slice rv recs.length rc))) := Y.out.set 10 _
 have HO2 : Hid ((wa.setCell ⟨bx, 10, none⟩ (.slice rv recs.length rc)).ownsRow w.heap.size 107 4 (.slice rv recs.length rc) recs.length (recCells recs)) := ownsRow_box HO.out (Keeps.setCell (fun j => j = bx) _ _ _ rfl) (fun e => by have := hob bx e.symm; omega)
 go_upto_region 13 with (fail)
 clear c10 f0 Y HO
 generalize wa.setCell ⟨bx, 10, none⟩ (.slice rv recs.length rc) = wy at *
 have R := hq' X11.out.c.range
 have HI := hq' (show (Tryz.prog.info? 31).map (·.size) = some ([.int .i64 n0, .int .i64 n1, .int .i64 n2, .int .i64 n3, .int .i64 n4, .int .i64 n5, .int .i64 n6, .int .i64 n7, .string ⟨xg.toArray⟩, .string ⟨xm.toArray⟩, .slice rv recs.length rc] : List Value).length by kernel_rfl)
 have HI2 := hq' (show (Tryz.prog.info? 31).map (·.size) = some (#[.int .i64 n0, .int .i64 n1, .int .i64 n2, .int .i64 n3, .int .i64 n4, .int .i64 n5, .int .i64 n6, .int .i64 n7, .string ⟨xg.toArray⟩, .string ⟨xm.toArray⟩, .slice rv recs.length rc] : Array Value).size by kernel_rfl)
 have HONE : Hid ((#[.int .i64 n0, .int .i64 n1, .int .i64 n2, .int .i64 n3, .int .i64 n4, .int .i64 n5, .int .i64 n6, .int .i64 n7, .string ⟨xg.toArray⟩, .string ⟨xm.toArray⟩, .slice rv recs.length rc] : Array Value).all (·.oneCell') = true) := by simp [Hid, Value.oneCell']
 have CQ : Hid (Cl wy pr [.int .i64 0, .int .i64 0, .int .i64 0, .int .i64 0, .int .i64 0, .int .i64 0, .int .i64 0, .int .i64 0, .string ⟨#[]⟩, .string ⟨#[]⟩, .slice none 0 0] 31) := by rw [Hid, HPR.out]; exact X11.out.z
 have CF : Hid (Cl (wy.setRow pr #[.int .i64 n0, .int .i64 n1, .int .i64 n2, .int .i64 n3, .int .i64 n4, .int .i64 n5, .int .i64 n6, .int .i64 n7, .string ⟨xg.toArray⟩, .string ⟨xm.toArray⟩, .slice rv recs.length rc]) pr [.int .i64 n0, .int .i64 n1, .int .i64 n2, .int .i64 n3, .int .i64 n4, .int .i64 n5, .int .i64 n6, .int .i64 n7, .string ⟨xg.toArray⟩, .string ⟨xm.toArray⟩, .slice rv recs.length rc] 31) := CQ.out.row _
 have KF : Hid (Keeps (fun j => j = pr) wy (wy.setRow pr #[.int .i64 n0, .int .i64 n1, .int .i64 n2, .int .i64 n3, .int .i64 n4, .int .i64 n5, .int .i64 n6, .int .i64 n7, .string ⟨xg.toArray⟩, .string ⟨xm.toArray⟩, .slice rv recs.length rc])) := Keeps.row _ _ _ rfl
 go_wp2_with (first
  | (refine wpList_load_mid (by rfl) _ _ (by rfl) bx 0 (by rfl) [.int .i64 n0, .int .i64 n1, .int .i64 n2, .int .i64 n3, .int .i64 n4, .int .i64 n5, .int .i64 n6, .int .i64 n7, .string ⟨xg.toArray⟩, .string ⟨xm.toArray⟩, .slice rv recs.length rc] _ R.out Tryz.underlying31 (by rfl) HI.out ?_)
  | (refine wpList_store_row (by rfl) _ _ _ (by rfl) pr #[.int .i64 n0, .int .i64 n1, .int .i64 n2, .int .i64 n3, .int .i64 n4, .int .i64 n5, .int .i64 n6, .int .i64 n7, .string ⟨xg.toArray⟩, .string ⟨xm.toArray⟩, .slice rv recs.length rc] (by rfl) (by rfl) 31 _ CQ.out HI2.out rfl HONE.out ?_))
 refine bodyPost_ret (results_cl rfl _ _ _ _ _ _ rfl CF.out Tryz.underlying31 rfl HI.out) rfl ?_
 rw [HS2.out]
 refine ⟨.slice rv recs.length rc, rfl, ?_, ?_, ?_⟩
 ·exact ownsRow_box HO2.out KF.out (fun e => by
   have := hob pr e.symm
   have := HPR.out
   have := X11.out.hx
   omega)
 ·exact X11.out.r.keep KF.out (by have := HPR.out; omega)
 ·exact Keeps.trans X11.out.k (KF.out.mono fun j _ e => .inr (by rw [e]; exact Nat.le_of_eq HPR.out.symm))
end Go.Proofs.YtjfpbeccpcbpcaaGreatDoor
