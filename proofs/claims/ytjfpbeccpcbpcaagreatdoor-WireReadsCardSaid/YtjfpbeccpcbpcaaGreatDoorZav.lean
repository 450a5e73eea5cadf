/-
  Wm1 / Wm2 / Wm3 / Wm4: texts of one proof, one behind the other.
  Conditions: none of its own.
-/
import Derived.Test.YtjfpbeccpcbpcaaGreatDoorZau
set_option linter.unusedVariables false
set_option linter.unusedSimpArgs false
set_option maxHeartbeats 12800000
set_option maxRecDepth 20000
namespace Go.Proofs.YtjfpbeccpcbpcaaGreatDoor
open Go.RowKit
def slLen : Value → Nat
 | .slice _ n _ => n
 | _ => 0
theorem sMany_cnt {α : Type} (f : Bd.St → α × Bd.St) : ∀ (n : Nat) (q : Bd.St), (Wi.sMany f n q).1.length ≤ n
 | 0, q => Nat.le_refl 0
 | n + 1, q => by
  rw [Wi.sMany]
  split
  ·exact Nat.succ_le_succ (sMany_cnt f n _)
  ·exact Nat.zero_le _
theorem sAll_cnt {α : Type} (f : Bd.St → α × Bd.St) (q : Bd.St) : (Wi.sAll f q).1.length ≤ q.1.length + 1 := sMany_cnt f _ q
theorem own_form {w : World} {b : Nat} {e : TypeId} {size : Nat} {v : Value} {n : Nat} {xs : List Value} (h : w.ownsRow b e size v n xs) : ∃ a c, v = .slice a n c := by
 rcases h.2 with ⟨rfl, h0⟩ | ⟨g, cap, cur, rfl, _⟩
 ·exact ⟨none, 0, by rw [h0]⟩
 ·exact ⟨_, _, rfl⟩
theorem numbers_any (p : Nat) (q : Bd.St) (w : World) (h : Rd w p q) (hl : q.1.length < 4294967281) (hw : ∀ W, Kp w p W → Lw W) :
  Calls Tryz.prog 139 #[.pointer (some ⟨p, 0, none⟩)] w fun e w' => ∃ v, e = .returned v ∧ w'.ownsRow w.heap.size 3 1 v (Wi.sInts q).1.length (iv (Wi.sInts q).1) ∧ Rd w' p (Wi.sInts q).2 ∧ Kp w p w' := by
 have HW := hq' hw
 have HQ := hq' (open_any p q w h)
 have hpl := h.lt
 have hql := sSign_len 108 q
 obtain ⟨i0, hi, hz0, hz1, hz2⟩ := info_parts cinfoInt
 have HS : Hid (Wi.sInts q = ((Wi.sAll Bd.sInt (Bd.sSign 108 q)).1, Bd.sSign 101 (Wi.sAll Bd.sInt (Bd.sSign 108 q)).2)) := rfl
 have hcnt := sAll_cnt Bd.sInt (Bd.sSign 108 q)
 clear h hw
 rw [HS.out]
 generalize Bd.sSign 108 q = q1 at *
 clear HS
 go_enter Tryz.func139, Tryz.ntmps139
 go_wp2_with fail
 refine HQ.out.mono ?_
 rintro e w1 ⟨rfl, h1⟩
 have R1 := hq' h1.1
 have K1 : Hid (Kp w p w1) := h1.2.mono (fun j _ e => .inl e)
 clear h1 HQ
 go_wp2
 go_loopw [2] (fun v wr => ∃ (acc : List Int) (qq : Bd.St), wr.ownsRow w.heap.size 3 1 v acc.length (iv acc) ∧ Rd wr p qq ∧ Kp w p wr ∧ Wi.At Bd.sInt q1 acc qq ∧ qq.1.length ≤ q1.1.length) (fun v _ => q1.1.length + 2 - slLen v)
 case atStart => exact ⟨[], q1, ⟨rfl, .inl ⟨rfl, rfl⟩⟩, R1.out, K1.out, Wi.At.start _ _, Nat.le_refl _⟩
 case round =>
  obtain ⟨acc, qq, ho, hr, hk, ha, hlq⟩ := hrel
  have HO := hq' ho
  have HR := hq' hr
  have HK := hq' hk
  have HA := hq' ha
  have hszr := hk.size
  have hal := Nat.le_trans (ha.len Wi.sInt_shr) hcnt
  have HM := hq' (more_any p qq wr hr)
  obtain ⟨av, cv, hve⟩ := own_form ho
  subst hve
  clear ho hr hk ha
  cases hm : Bd.sMore qq with
  | true =>
   have HN := hq' (HA.out.next Wi.sInt_shr hm)
   have hln := sInt_len qq
   have hal2 := Nat.le_trans (HN.out.len Wi.sInt_shr) hcnt
   rw [List.length_append, List.length_singleton] at hal2
   have HI := hq' (int_any p qq wr HR.out (by omega) (HW.out _ HK.out))
   rw [hm] at HM
   clear hm HA
   generalize (Bd.sInt qq).1 = n at *
   generalize (Bd.sInt qq).2 = q9 at *
   go_wp2_with fail
   refine HM.out.mono ?_
   rintro e w8 ⟨rfl, rfl⟩
   go_wp2_with fail
   refine HI.out.mono ?_
   rintro e w9 ⟨rfl, h9⟩
   have O9 := hq' (ownsRow_keeps HO.out h9.2 hpl)
   have K9 := hq' (HK.out.call h9)
   have R9 := hq' h9.1
   have hs9 := h9.2.size
   clear h9 HM HI HO HK HR
   go_wp2_with (at_builtin; refine wpList_append_own _ rfl _ _ 22 rfl w.heap.size 3 i0 (.int .i64 0) 1 8 Tryz.underlying22 hi hz0 hz1 hz2 rfl (by decide) _ _ _ rfl (World.ownsRow.alloc O9.out _) ⟨w9.heap.size, 0, none⟩ 1 1 (iv [n]) rfl rfl (icells_new _ [n] _) ?_ ?_ ?_ ?_ ?_)
   ·simp [iv, Value.oneCell']
   ·unfold maxLen; omega
   ·omega
   ·simp; omega
   intro v' wB hownB hgB _
   have KB : Hid (Keeps (fun j => w.heap.size ≤ j) w9 wB) := (Keeps.alloc _ _ _).trans (Keeps.grown hgB (fun j hj => (O9.out.lt j hj).1))
   have OB : Hid (wB.ownsRow w.heap.size 3 1 v' (acc ++ [n]).length (iv (acc ++ [n]))) := by
    rw [Hid, iv_append, List.length_append]
    exact hownB
   have RB := hq' (R9.out.keep KB.out (by omega))
   have KPB : Hid (Kp w p wB) := show Keeps (fun k => k = p ∨ w.heap.size ≤ k) w wB from Keeps.trans K9.out (KB.out.mono fun j _ e => .inr e)
   obtain ⟨av', cv', hve'⟩ := own_form hownB
   subst hve'
   clear hownB hgB KB
   go_wp2
   go_roundw
   case rel => exact ⟨acc ++ [n], q9, OB.out, RB.out, KPB.out, HN.out, by omega⟩
   case measure => simp only [slLen]; omega
  | false =>
   have HE := HA.out.stop hm
   have HEE := hq' HE
   rw [hm] at HM
   have HC := hq' (close_any p qq wr HR.out)
   clear hm HA HE
   go_wp2_with fail
   refine HM.out.mono ?_
   rintro e w8 ⟨rfl, rfl⟩
   go_wp2_with fail
   refine HC.out.mono ?_
   rintro e w9 ⟨rfl, h9⟩
   have O9 := hq' (ownsRow_keeps HO.out h9.2 hpl)
   have K9 := hq' (HK.out.call h9)
   have R9 := hq' h9.1
   clear h9
   go_wp2
   go_ret
   refine ⟨_, rfl, ?_, ?_, K9.out⟩
   ·rw [HEE.out]; exact O9.out
   ·rw [HEE.out]; exact R9.out
theorem ownsRow_box {w w' : World} {base j : Nat} {e : TypeId} {size : Nat} {v : Value} {n : Nat} {xs : List Value} (h : w.ownsRow base e size v n xs) (k : Keeps (fun i => i = j) w w') (hj : some j ≠ v.ownBlock) : w'.ownsRow base e size v n xs := by
 refine World.ownsRow.kept (row := some j) h ⟨k.os, k.tape, k.output, k.size, fun i hi hne => k.block i hi (fun e => hne (by rw [e]))⟩ ?_
 rcases hv : v.ownBlock with _ | g
 ·exact .inl rfl
 ·right
  intro e
  exact hj (by rw [hv, e])
theorem readRecs_any (p : Nat) (q : Bd.St) (w : World) (h : Rd w p q) (hl : q.1.length < 4294967281) (hw : ∀ W, Kp w p W → Lw W) :
  Calls Tryz.prog 138 #[.pointer (some ⟨p, 0, none⟩)] w fun e w' => ∃ v, e = .returned (.tuple #[v, .bool (Wi.sRecs q).1.2]) ∧ w'.ownsRow w.heap.size 107 4 v (Wi.sRecs q).1.1.length (recCells (Wi.sRecs q).1.1) ∧ Rd w' p (Wi.sRecs q).2 ∧ Kp w p w' := by
 have HW := hq' hw
 have HQ := hq' (open_any p q w h)
 have hpl := h.lt
 have hql := sSign_len 108 q
 obtain ⟨i0, hi, hz0, hz1, hz2⟩ := info_parts recInfo
 have HS : Hid (Wi.sRecs q = (((Wi.sAll Wi.sRec4 (Bd.sSign 108 q)).1.map (·.1), (Wi.sAll Wi.sRec4 (Bd.sSign 108 q)).1.all (·.2)), Bd.sSign 101 (Wi.sAll Wi.sRec4 (Bd.sSign 108 q)).2)) := rfl
 have hcnt := sAll_cnt Wi.sRec4 (Bd.sSign 108 q)
 clear h hw
 rw [HS.out]
 generalize Bd.sSign 108 q = q1 at *
 clear HS
 go_enter Tryz.func138, Tryz.ntmps138
 go_wp2_with fail
 refine HQ.out.mono ?_
 rintro e w1 ⟨rfl, h1⟩
 have R1 := hq' h1.1
 have K1 : Hid (Kp w p w1) := h1.2.mono (fun j _ e => .inl e)
 clear h1 HQ
 go_wp2
 go_loopw [2, 3] (fun v o wr => ∃ (acc : List (Cr.Rec × Bool)) (qq : Bd.St), o = .bool (acc.all (·.2)) ∧ wr.ownsRow w.heap.size 107 4 v acc.length (recCells (acc.map (·.1))) ∧ Rd wr p qq ∧ Kp w p wr ∧ Wi.At Wi.sRec4 q1 acc qq ∧ qq.1.length ≤ q1.1.length) (fun v _ _ => q1.1.length + 2 - slLen v)
 case atStart => exact ⟨[], q1, rfl, ⟨rfl, .inl ⟨rfl, rfl⟩⟩, R1.out, K1.out, Wi.At.start _ _, Nat.le_refl _⟩
 case round =>
  obtain ⟨acc, qq, rfl, ho, hr, hk, ha, hlq⟩ := hrel
  have HO := hq' ho
  have HR := hq' hr
  have HK := hq' hk
  have HA := hq' ha
  have hszr := hk.size
  have hal := Nat.le_trans (ha.len Wi.sRec4_shr) hcnt
  have HM := hq' (more_any p qq wr hr)
  obtain ⟨av, cv, hve⟩ := own_form ho
  subst hve
  clear ho hr hk ha
  generalize hall : acc.all (·.2) = ob at *
  have HALL := hq' hall
  clear hall
  cases hm : Bd.sMore qq with
  | true =>
   have HN := hq' (HA.out.next Wi.sRec4_shr hm)
   have hal2 := Nat.le_trans (HN.out.len Wi.sRec4_shr) hcnt
   rw [List.length_append, List.length_singleton] at hal2
   have l2 := sInt_len qq
   have l3 := sText_len 16 (Bd.sInt qq).2
   have l4 := sText_len 64 (Bd.sText 16 (Bd.sInt qq).2).2
   have l5 := sInt_len (Bd.sText 64 (Bd.sText 16 (Bd.sInt qq).2).2).2
   have HE4 : Hid (Wi.sRec4 qq = ((⟨(Bd.sInt qq).1, (Bd.sText 16 (Bd.sInt qq).2).1, (Bd.sText 64 (Bd.sText 16 (Bd.sInt qq).2).2).1, (Bd.sInt (Bd.sText 64 (Bd.sText 16 (Bd.sInt qq).2).2).2).1 == 1⟩, (Bd.sInt (Bd.sText 64 (Bd.sText 16 (Bd.sInt qq).2).2).2).1 == Cr.flag ((Bd.sInt (Bd.sText 64 (Bd.sText 16 (Bd.sInt qq).2).2).2).1 == 1)), (Bd.sInt (Bd.sText 64 (Bd.sText 16 (Bd.sInt qq).2).2).2).2)) := rfl
   have HI2 := hq' (int_any p qq wr HR.out (by omega) (HW.out _ HK.out))
   have HT3 := hq' (fun W (hR : Rd W p (Bd.sInt qq).2) (hL : Lw W) => text_any p 16 (Bd.sInt qq).2 W hR (by omega) hL)
   have HT4 := hq' (fun W (hR : Rd W p (Bd.sText 16 (Bd.sInt qq).2).2) (hL : Lw W) => text_any p 64 (Bd.sText 16 (Bd.sInt qq).2).2 W hR (by omega) hL)
   have HI5 := hq' (fun W (hR : Rd W p (Bd.sText 64 (Bd.sText 16 (Bd.sInt qq).2).2).2) (hL : Lw W) => int_any p (Bd.sText 64 (Bd.sText 16 (Bd.sInt qq).2).2).2 W hR (by omega) hL)
   rw [HE4.out] at HN
   rw [hm] at HM
   clear hm HA HE4
   generalize (Bd.sInt (Bd.sText 64 (Bd.sText 16 (Bd.sInt qq).2).2).2).1 = g at *
   generalize (Bd.sInt (Bd.sText 64 (Bd.sText 16 (Bd.sInt qq).2).2).2).2 = q5 at *
   generalize (Bd.sText 64 (Bd.sText 16 (Bd.sInt qq).2).2).1 = vv at *
   generalize (Bd.sText 64 (Bd.sText 16 (Bd.sInt qq).2).2).2 = q4 at *
   generalize (Bd.sText 16 (Bd.sInt qq).2).1 = kk at *
   generalize (Bd.sText 16 (Bd.sInt qq).2).2 = q3 at *
   generalize (Bd.sInt qq).1 = off at *
   generalize (Bd.sInt qq).2 = q2 at *
   go_wp2_with fail
   refine HM.out.mono ?_
   rintro e w8 ⟨rfl, rfl⟩
   go_wp2_with fail
   refine HI2.out.mono ?_
   rintro e w2 ⟨rfl, h2⟩
   have O2 := hq' (ownsRow_keeps HO.out h2.2 hpl)
   have K2 := hq' (HK.out.call h2)
   have R2 := hq' h2.1
   clear h2 HM HI2 HO HK HR
   go_wp2_with fail
   refine (HT3.out _ R2.out (HW.out _ K2.out)).mono ?_
   rintro e w3 ⟨rfl, h3⟩
   have O3 := hq' (ownsRow_keeps O2.out h3.2 hpl)
   have K3 := hq' (K2.out.call h3)
   have R3 := hq' h3.1
   clear h3 HT3 O2 K2 R2
   go_wp2_with fail
   refine (HT4.out _ R3.out (HW.out _ K3.out)).mono ?_
   rintro e w4 ⟨rfl, h4⟩
   have O4 := hq' (ownsRow_keeps O3.out h4.2 hpl)
   have K4 := hq' (K3.out.call h4)
   have R4 := hq' h4.1
   clear h4 HT4 O3 K3 R3
   have hs4 := K4.out.size
   have OA := hq' (World.ownsRow.alloc O4.out (.cells #[.int .i64 off, .string ⟨kk.toArray⟩, .string ⟨vv.toArray⟩, .bool false] 107))
   have XA : Hid (Rx w p w4.heap.size (w4.alloc (.cells #[.int .i64 off, .string ⟨kk.toArray⟩, .string ⟨vv.toArray⟩, .bool false] 107)) q4 [.int .i64 off, .string ⟨kk.toArray⟩, .string ⟨vv.toArray⟩, .bool false] 107) :=
    ⟨R4.out.keep (S := fun _ => False) (Keeps.alloc _ _ _) id, Cl.new _ _ _, by have := R4.out.lt; omega, hs4, K4.out.trans (Keeps.alloc _ _ _)⟩
   have hnb : some w4.heap.size ≠ (Value.slice av acc.length cv).ownBlock := fun e => by
    have := (O4.out.lt _ e.symm).2
    omega
   go_upto_region 5 with (fail)
   clear O4 K4 R4
   generalize w4.alloc (.cells #[.int .i64 off, .string ⟨kk.toArray⟩, .string ⟨vv.toArray⟩, .bool false] 107) = wA at *
   generalize w4.heap.size = gx at *
   have HNB := hq' hnb
   clear hnb
   go_wp2_with fail
   refine (HI5.out _ XA.out.1 (HW.out _ XA.out.2.2.2.2)).mono ?_
   rintro e w5 ⟨rfl, h5⟩
   have O5 := hq' (ownsRow_keeps OA.out h5.2 hpl)
   have X5 := hq' (XA.out.call h5)
   clear h5 HI5 OA XA
   have f3 := X5.out.2.1.free 3
   have c3 := X5.out.2.1.cell 3
   simp only [g0', gs'] at c3
   have X6 : Hid (Rx w p gx (w5.setCell ⟨gx, 3, none⟩ (.bool (g == 1))) q5 [.int .i64 off, .string ⟨kk.toArray⟩, .string ⟨vv.toArray⟩, .bool (g == 1)] 107) := X5.out.store 3 (.bool (g == 1))
   have O6 := hq' (ownsRow_box (j := gx) O5.out (Keeps.setCell _ _ _ _ rfl : Keeps (fun i => i = gx) w5 (w5.setCell ⟨gx, 3, none⟩ (.bool (g == 1)))) HNB.out)
   go_upto_region 7 with (fail)
   clear X5 O5 f3 c3
   generalize w5.setCell ⟨gx, 3, none⟩ (.bool (g == 1)) = w6 at *
   generalize hgb : (g == 1) = gb at *
   have HFL := hq' (wflag_any gb w6)
   generalize hfl : Cr.flag gb = fl at *
   obtain ⟨c0, c1, c2, c3⟩ := X6.out.2.1.cell4
   have HGB := hq' hgb
   have HFL2 := hq' hfl
   clear hgb hfl
   have HAL2 : Hid ((acc ++ [((⟨off, kk, vv, gb⟩ : Cr.Rec), g == fl)]).all (·.2) = (ob && (g == fl))) := by
    rw [Hid, List.all_append, HALL.out]; simp
   have hs6 := X6.out.2.2.2.2.size
   cases ob <;>
   ·go_wp2_with (first
     | (go_at_call 126; refine HFL.out.mono ?_; rintro e w7 ⟨rfl, rfl⟩)
     | (at_builtin; refine wpList_append_own _ rfl _ _ 26 rfl w.heap.size 107 i0 _ 4 48 Tryz.underlying26 hi hz0 hz1 hz2 rfl (by decide) _ _ _ rfl (World.ownsRow.alloc O6.out _) ⟨w6.heap.size, 0, none⟩ 1 1 [.int .i64 off, .string ⟨kk.toArray⟩, .string ⟨vv.toArray⟩, .bool gb] rfl rfl (World.news_of_block (cs := #[.int .i64 off, .string ⟨kk.toArray⟩, .string ⟨vv.toArray⟩, .bool gb]) (t := 107) (fr := (0, 0)) (heap_alloc_new w6 _)) (by simp [Value.oneCell']) ?_ ?_ ?_ ?_))
    ·unfold maxLen; omega
    ·omega
    ·simp; omega
    intro v' wB hownB hgB _
    have KB : Hid (Keeps (fun j => w.heap.size ≤ j) w6 wB) := (Keeps.alloc _ _ _).trans (Keeps.grown hgB (fun j hj => (O6.out.lt j hj).1))
    have OB : Hid (wB.ownsRow w.heap.size 107 4 v' (acc ++ [((⟨off, kk, vv, gb⟩ : Cr.Rec), g == fl)]).length (recCells ((acc ++ [((⟨off, kk, vv, gb⟩ : Cr.Rec), g == fl)]).map (·.1)))) := by
     rw [Hid, List.map_append, List.map_singleton, recCells_app, List.length_append]
     exact hownB
    have RB := hq' (X6.out.1.keep KB.out (by omega))
    have KPB : Hid (Kp w p wB) := show Keeps (fun k => k = p ∨ w.heap.size ≤ k) w wB from Keeps.trans X6.out.2.2.2.2 (KB.out.mono fun j _ e => .inr e)
    obtain ⟨av', cv', hve'⟩ := own_form hownB
    subst hve'
    clear hownB hgB KB c0 c1 c2 c3
    go_wp2
    go_roundw
    case rel => exact ⟨acc ++ [((⟨off, kk, vv, gb⟩ : Cr.Rec), g == fl)], q5, by rw [HAL2.out] <;> simp, OB.out, RB.out, KPB.out, HN.out, by omega⟩
    case measure => simp only [slLen]; omega
  | false =>
   have HE := HA.out.stop hm
   have HEE := hq' HE
   rw [hm] at HM
   have HC := hq' (close_any p qq wr HR.out)
   clear hm HA HE
   go_wp2_with fail
   refine HM.out.mono ?_
   rintro e w8 ⟨rfl, rfl⟩
   go_wp2_with fail
   refine HC.out.mono ?_
   rintro e w9 ⟨rfl, h9⟩
   have O9 := hq' (ownsRow_keeps HO.out h9.2 hpl)
   have K9 := hq' (HK.out.call h9)
   have R9 := hq' h9.1
   clear h9
   go_wp2
   go_ret2
   refine ⟨.slice av acc.length cv, ?_, ?_, ?_, K9.out⟩
   ·rw [HEE.out, HALL.out]; rfl
   ·rw [HEE.out]; simp only [List.length_map]; exact O9.out
   ·rw [HEE.out]; exact R9.out
def cellsQ (q : Bd.St) (k : Nat) : List Value := [upN q k 0, upN q k 1, upN q k 2, upN q k 3, upN q k 4, upN q k 5, upN q k 6, upN q k 7, .string ⟨#[]⟩, .string ⟨#[]⟩, .slice none 0 0]
theorem cellsQ_get (q : Bd.St) (k : Nat) (hk : k < 8) : (cellsQ q k)[k]? = some (.int .i64 0) := by
 match k, hk with
 | 0, _ => rfl
 | 1, _ => rfl
 | 2, _ => rfl
 | 3, _ => rfl
 | 4, _ => rfl
 | 5, _ => rfl
 | 6, _ => rfl
 | 7, _ => rfl
theorem cellsQ_set (q : Bd.St) (k : Nat) (hk : k < 8) : (cellsQ q k).set k (.int .i64 (vN q k)) = cellsQ q (k + 1) := by
 match k, hk with
 | 0, _ => rfl
 | 1, _ => rfl
 | 2, _ => rfl
 | 3, _ => rfl
 | 4, _ => rfl
 | 5, _ => rfl
 | 6, _ => rfl
 | 7, _ => rfl
def ptrsQ (x : Nat) : List Value := [.pointer (some ⟨x, 0, none⟩), .pointer (some ⟨x, 1, none⟩), .pointer (some ⟨x, 2, none⟩), .pointer (some ⟨x, 3, none⟩), .pointer (some ⟨x, 4, none⟩), .pointer (some ⟨x, 5, none⟩), .pointer (some ⟨x, 6, none⟩), .pointer (some ⟨x, 7, none⟩)]
theorem ptrsQ_get (x k : Nat) (hk : k < 8) : (ptrsQ x)[k]? = some (.pointer (some ⟨x, k, none⟩)) := by
 match k, hk with
 | 0, _ => rfl
 | 1, _ => rfl
 | 2, _ => rfl
 | 3, _ => rfl
 | 4, _ => rfl
 | 5, _ => rfl
 | 6, _ => rfl
 | 7, _ => rfl
theorem Rx.own {w W W' : World} {p x : Nat} {q q' : Bd.St} {cs : List Value} {t : TypeId} (h : Rx w p x W q cs t) (hr : Rd W' p q') (k : Kp W p W') : Rx w p x W' q' cs t :=
 ⟨hr, h.2.1.keep k (fun e => by have := h.2.1.lt; rcases e with e | e; exact h.2.2.1 e; omega), h.2.2.1, h.2.2.2.1, h.2.2.2.2.trans k⟩
theorem Rx.rowed {w W : World} {p x : Nat} {q : Bd.St} {cs : List Value} {t : TypeId} (h : Rx w p x W q cs t) (ds : Array Value) : Rx w p x (W.setRow x ds) q ds.toList t :=
 have k : Keeps (fun j => j = x) W (W.setRow x ds) := Keeps.row _ _ _ rfl
 ⟨h.1.keep k (fun e => h.2.2.1 e.symm), h.2.1.row _, h.2.2.1, h.2.2.2.1, Keeps.trans h.2.2.2.2 (k.mono fun j _ e => .inr (by rw [e]; exact h.2.2.2.1))⟩
theorem readReq_any (p : Nat) (q : Bd.St) (w : World) (h : Rd w p q) (hl : q.1.length < 4294967281) (hw : ∀ W, Kp w p W → Lw W) :
  Calls Tryz.prog 112 #[.pointer (some ⟨p, 0, none⟩)] w fun e w' => ∃ v, e = .returned (.tuple #[.agg (wreqC (Wi.sReq q).1.1 v).toArray, .bool (Wi.sReq q).1.2]) ∧ w'.ownsRow w.heap.size 107 4 v (Wi.sReq q).1.1.recs.length (recCells (Wi.sReq q).1.1.recs) ∧ Rd w' p (Wi.sReq q).2 ∧ Kp w p w' := by
 have HW := hq' hw
 have HS : Hid (Wi.sReq q = ((⟨vN q 0, vN q 1, vN q 2, vN q 3, vN q 4, vN q 5, vN q 6, vN q 7, (Bd.sText 8 (stN q 8)).1, (Bd.sText 8 (Bd.sText 8 (stN q 8)).2).1, (Wi.sRecs (Bd.sText 8 (Bd.sText 8 (stN q 8)).2).2).1.1⟩, (Wi.sRecs (Bd.sText 8 (Bd.sText 8 (stN q 8)).2).2).1.2), (Wi.sRecs (Bd.sText 8 (Bd.sText 8 (stN q 8)).2).2).2)) := rfl
 have X1 : Hid (Rx w p w.heap.size (w.alloc (.cells #[.int .i64 0, .int .i64 0, .int .i64 0, .int .i64 0, .int .i64 0, .int .i64 0, .int .i64 0, .int .i64 0, .string ⟨#[]⟩, .string ⟨#[]⟩, .slice none 0 0] 31)) (stN q 0) (cellsQ q 0) 31) := Rx.new h (cellsQ q 0) _
 have hpl := h.lt
 have hs1 := World.size_alloc w (.cells #[.int .i64 0, .int .i64 0, .int .i64 0, .int .i64 0, .int .i64 0, .int .i64 0, .int .i64 0, .int .i64 0, .string ⟨#[]⟩, .string ⟨#[]⟩, .slice none 0 0] 31)
 clear h hw
 go_enter Tryz.func112, Tryz.ntmps112
 go_upto_region 1 with (fail)
 generalize w.alloc (.cells #[.int .i64 0, .int .i64 0, .int .i64 0, .int .i64 0, .int .i64 0, .int .i64 0, .int .i64 0, .int .i64 0, .string ⟨#[]⟩, .string ⟨#[]⟩, .slice none 0 0] 31) = w1 at *
 generalize hx : w.heap.size = x at *
 have P3 : Hid (Cl (w1.alloc (.cells #[.pointer (some ⟨x, 0, none⟩), .pointer (some ⟨x, 1, none⟩), .pointer (some ⟨x, 2, none⟩), .pointer (some ⟨x, 3, none⟩), .pointer (some ⟨x, 4, none⟩), .pointer (some ⟨x, 5, none⟩), .pointer (some ⟨x, 6, none⟩), .pointer (some ⟨x, 7, none⟩)] 153)) w1.heap.size (ptrsQ x) 153) := Cl.new w1 (ptrsQ x) _
 have X3 := hq' (X1.out.alloc (.cells #[.pointer (some ⟨x, 0, none⟩), .pointer (some ⟨x, 1, none⟩), .pointer (some ⟨x, 2, none⟩), .pointer (some ⟨x, 3, none⟩), .pointer (some ⟨x, 4, none⟩), .pointer (some ⟨x, 5, none⟩), .pointer (some ⟨x, 6, none⟩), .pointer (some ⟨x, 7, none⟩)] 153))
 have hpx : p ≠ w1.heap.size := by omega
 have hxx : x ≠ w1.heap.size := by omega
 have HX := hq' hx
 clear X1 hs1 hx
 go_wp2_with fail
 generalize w1.alloc (.cells #[.pointer (some ⟨x, 0, none⟩), .pointer (some ⟨x, 1, none⟩), .pointer (some ⟨x, 2, none⟩), .pointer (some ⟨x, 3, none⟩), .pointer (some ⟨x, 4, none⟩), .pointer (some ⟨x, 5, none⟩), .pointer (some ⟨x, 6, none⟩), .pointer (some ⟨x, 7, none⟩)] 153) = w3 at *
 generalize w1.heap.size = pb at *
 go_loopw [16] (fun i wr => ∃ k : Nat, i = .int .i64 k ∧ k ≤ 8 ∧ Rx w p x wr (stN q k) (cellsQ q k) 31 ∧ Cl wr pb (ptrsQ x) 153) (fun i _ => 8 - (intOf i).toNat)
 case atStart => exact ⟨0, rfl, by omega, X3.out, P3.out⟩
 case round =>
  obtain ⟨k, rfl, hk, hrx, hcl⟩ := hrel
  have X4 := hq' hrx
  have P4 := hq' hcl
  clear hrx hcl X3 P3
  by_cases hlt : k < 8
  ·have hc1 := (P4.out.cell k).trans (ptrsQ_get x k hlt)
   have hln := stN_len q k
   have HN : Hid (Calls Tryz.prog 111 #[.pointer (some ⟨p, 0, none⟩)] wr (RdV (.int .i64 (vN q k)) wr p (stN q (k + 1)))) := int_any p (stN q k) wr X4.out.1 (by omega) (HW.out _ X4.out.2.2.2.2)
   have HCS := cellsQ_set q k hlt
   have HCG := cellsQ_get q k hlt
   go_wp2_with fail
   refine HN.out.mono ?_
   rintro e w5 ⟨rfl, h5⟩
   have X5 := hq' (X4.out.call h5)
   have P5 := hq' (P4.out.keep h5.2 (fun e => hpx e.symm))
   have d0 := (X5.out.2.1.cell k).trans HCG
   have f0 := X5.out.2.1.free k
   have X6 : Hid (Rx w p x (w5.setCell ⟨x, k, none⟩ (.int .i64 (vN q k))) (stN q (k + 1)) (cellsQ q (k + 1)) 31) := by
    rw [← HCS]
    exact X5.out.store k _
   have P6 := hq' (P5.out.other ⟨x, k, none⟩ (.int .i64 (vN q k)) hxx)
   clear h5 X4 P4 HN HCS HCG X5 P5
   generalize vN q k = n at *
   go_wp2
   go_roundw
   case rel => exact ⟨k + 1, by go_num, by omega, X6.out, P6.out⟩
   case measure => simp [intOf]; omega
  ·obtain rfl : k = 8 := by omega
   have hln := stN_len q 8
   have X5 : Hid (Rx w p x wr (stN q 8) [.int .i64 (vN q 0), .int .i64 (vN q 1), .int .i64 (vN q 2), .int .i64 (vN q 3), .int .i64 (vN q 4), .int .i64 (vN q 5), .int .i64 (vN q 6), .int .i64 (vN q 7), .string ⟨#[]⟩, .string ⟨#[]⟩, .slice none 0 0] 31) := X4.out
   clear X4 P4
   rw [show ((8 : Nat) : Int) = 8 from rfl]
   have l1 := sText_len 8 (stN q 8)
   have l2 := sText_len 8 (Bd.sText 8 (stN q 8)).2
   have HT1 := hq' (text_any p 8 (stN q 8) wr X5.out.1 (by omega) (HW.out _ X5.out.2.2.2.2))
   have HT2 := hq' (fun W (hR : Rd W p (Bd.sText 8 (stN q 8)).2) (hL : Lw W) => text_any p 8 (Bd.sText 8 (stN q 8)).2 W hR (by omega) hL)
   have HRR := hq' (fun W (hR : Rd W p (Bd.sText 8 (Bd.sText 8 (stN q 8)).2).2) (hL : ∀ W', Kp W p W' → Lw W') => readRecs_any p (Bd.sText 8 (Bd.sText 8 (stN q 8)).2).2 W hR (by omega) hL)
   generalize vN q 0 = n0 at *
   generalize vN q 1 = n1 at *
   generalize vN q 2 = n2 at *
   generalize vN q 3 = n3 at *
   generalize vN q 4 = n4 at *
   generalize vN q 5 = n5 at *
   generalize vN q 6 = n6 at *
   generalize vN q 7 = n7 at *
   generalize (Wi.sRecs (Bd.sText 8 (Bd.sText 8 (stN q 8)).2).2).1.1 = rs at *
   generalize (Wi.sRecs (Bd.sText 8 (Bd.sText 8 (stN q 8)).2).2).1.2 = ok at *
   generalize (Wi.sRecs (Bd.sText 8 (Bd.sText 8 (stN q 8)).2).2).2 = qz at *
   generalize (Bd.sText 8 (Bd.sText 8 (stN q 8)).2).1 = me at *
   generalize (Bd.sText 8 (Bd.sText 8 (stN q 8)).2).2 = q10 at *
   generalize (Bd.sText 8 (stN q 8)).1 = gr at *
   generalize (Bd.sText 8 (stN q 8)).2 = q9 at *
   generalize stN q 8 = q8 at *
   generalize wr = w7 at *
   go_wp2_with fail
   refine HT1.out.mono ?_
   rintro e w8 ⟨rfl, h8⟩
   have X8 := hq' (X5.out.call h8)
   clear h8 X5 HT1
   go_wp2_with fail
   refine (HT2.out _ X8.out.1 (HW.out _ X8.out.2.2.2.2)).mono ?_
   rintro e w9 ⟨rfl, h9⟩
   have X9 := hq' (X8.out.call h9)
   clear h9 X8 HT2
   have c8 := X9.out.2.1.cell 8
   have c9 := X9.out.2.1.cell 9
   have f8 := X9.out.2.1.free 8
   have f9 := X9.out.2.1.free 9
   simp only [g0', gs'] at c8 c9
   have XA : Hid (Rx w p x ((w9.setCell ⟨x, 8, none⟩ (.string ⟨gr.toArray⟩)).setCell ⟨x, 9, none⟩ (.string ⟨me.toArray⟩)) q10 [.int .i64 n0, .int .i64 n1, .int .i64 n2, .int .i64 n3, .int .i64 n4, .int .i64 n5, .int .i64 n6, .int .i64 n7, .string ⟨gr.toArray⟩, .string ⟨me.toArray⟩, .slice none 0 0] 31) := (X9.out.store 8 (.string ⟨gr.toArray⟩)).store 9 (.string ⟨me.toArray⟩)
   go_upto_region 7 with (fail)
   clear X9 c8 c9 f8 f9
   generalize (w9.setCell ⟨x, 8, none⟩ (.string ⟨gr.toArray⟩)).setCell ⟨x, 9, none⟩ (.string ⟨me.toArray⟩) = wA at *
   go_wp2_with fail
   refine (HRR.out _ XA.out.1 (fun W' k => HW.out _ (XA.out.2.2.2.2.trans k))).mono ?_
   rintro e wB ⟨v, rfl, ho, hr, hk⟩
   have XB := hq' (XA.out.own hr hk)
   have hxl := XA.out.2.1.lt
   have OB := hq' ho
   have hba : w.heap.size ≤ wA.heap.size := XA.out.2.2.2.2.size
   clear ho hr hk HRR XA
   have c10 := XB.out.2.1.cell 10
   have f10 := XB.out.2.1.free 10
   simp only [g0', gs'] at c10
   have XC : Hid (Rx w p x (wB.setCell ⟨x, 10, none⟩ v) qz [.int .i64 n0, .int .i64 n1, .int .i64 n2, .int .i64 n3, .int .i64 n4, .int .i64 n5, .int .i64 n6, .int .i64 n7, .string ⟨gr.toArray⟩, .string ⟨me.toArray⟩, v] 31) := XB.out.store 10 v
   have OC := hq' (ownsRow_cell OB.out ⟨x, 10, none⟩ v (by simp only; omega))
   obtain ⟨av, cv, hve⟩ := own_form OB.out
   subst hve
   go_upto_region 8 with (fail)
   clear XB OB c10 f10
   generalize wB.setCell ⟨x, 10, none⟩ (.slice av rs.length cv) = wC at *
   obtain ⟨cs, hcs⟩ : ∃ cs : List Value, cs = [.int .i64 n0, .int .i64 n1, .int .i64 n2, .int .i64 n3, .int .i64 n4, .int .i64 n5, .int .i64 n6, .int .i64 n7, .string ⟨gr.toArray⟩, .string ⟨me.toArray⟩, .slice av rs.length cv] := ⟨_, rfl⟩
   have HI1 : Hid ((Tryz.prog.info? 31).map (·.size) = some cs.length) := by rw [Hid, hcs]; kernel_rfl
   have HI2 : Hid ((Tryz.prog.info? 31).map (·.size) = some (cs.toArray : Array Value).size) := by rw [Hid, hcs]; kernel_rfl
   have HONE : Hid ((cs.toArray : Array Value).all (·.oneCell') = true) := by rw [Hid, hcs]; simp [Value.oneCell']
   have HSZ : Hid ((cs.toArray : Array Value).size = (cs.toArray : Array Value).size) := rfl
   have HCS := hq' hcs
   rw [← hcs] at XC
   clear hcs
   have R7 := hq' XC.out.2.1.range
   have CQ : Hid (wC.heap[x]? = some (.cells cs.toArray 31 (0, 0))) := XC.out.2.1
   have XD := hq' (XC.out.rowed cs.toArray)
   have OD := hq' (ownsRow_keeps (j := x) OC.out (Keeps.row _ _ _ rfl : Keeps (fun i => i = x) wC (wC.setRow x cs.toArray)) hxl)
   go_wp2_with (first
    | (refine wpList_load_mid (by rfl) _ _ (by rfl) x 0 (by rfl) cs _ R7.out Tryz.underlying31 (by rfl) HI1.out ?_)
    | (refine wpList_store_row (by rfl) _ _ _ (by rfl) x cs.toArray (by rfl) (by rfl) 31 _ CQ.out HI2.out HSZ.out HONE.out ?_))
   refine bodyPost_ret (results_cl_tmp rfl _ _ _ _ _ _ rfl XD.out.2.1 Tryz.underlying31 rfl HI1.out) rfl ?_
   refine ⟨.slice av rs.length cv, ?_, ?_, ?_, XD.out.2.2.2.2⟩
   ·rw [HS.out, HCS.out]; rfl
   ·rw [HS.out]; exact ownsRow_weaken OD.out (by have := HX.out; omega)
   ·rw [HS.out]; exact XD.out.1
theorem readResp_any (p : Nat) (q : Bd.St) (w : World) (h : Rd w p q) (hl : q.1.length < 4294967281) (hw : ∀ W, Kp w p W → Lw W) :
  Calls Tryz.prog 113 #[.pointer (some ⟨p, 0, none⟩)] w fun e w' => ∃ pv v, e = .returned (.tuple #[.agg (wrespC (Wi.sResp q).1.1 pv v).toArray, .bool (Wi.sResp q).1.2]) ∧ w'.ownsRow w.heap.size 3 1 pv (Wi.sResp q).1.1.parts.length (iv (Wi.sResp q).1.1.parts) ∧
   w'.ownsRow w.heap.size 107 4 v (Wi.sResp q).1.1.recs.length (recCells (Wi.sResp q).1.1.recs) ∧ Rd w' p (Wi.sResp q).2 ∧ Kp w p w' := by
 have HW := hq' hw
 have HS : Hid (Wi.sResp q = ((⟨vN q 0, vN q 1, vN q 2, vN q 3, vN q 4, vN q 5, (Wi.sInts (stN q 6)).1, (Wi.sRecs (Wi.sInts (stN q 6)).2).1.1⟩, (Wi.sRecs (Wi.sInts (stN q 6)).2).1.2), (Wi.sRecs (Wi.sInts (stN q 6)).2).2)) := rfl
 have X1 : Hid (Rx w p w.heap.size (w.alloc (.cells #[.int .i64 0, .int .i64 0, .int .i64 0, .int .i64 0, .int .i64 0, .int .i64 0, .slice none 0 0, .slice none 0 0] 34)) (stN q 0) [.int .i64 0, .int .i64 0, .int .i64 0, .int .i64 0, .int .i64 0, .int .i64 0, .slice none 0 0, .slice none 0 0] 34) := Rx.new h [.int .i64 0, .int .i64 0, .int .i64 0, .int .i64 0, .int .i64 0, .int .i64 0, .slice none 0 0, .slice none 0 0] _
 have hpl := h.lt
 have HN : Hid (∀ k W, Rd W p (stN q k) → Lw W → Calls Tryz.prog 111 #[.pointer (some ⟨p, 0, none⟩)] W (RdV (.int .i64 (vN q k)) W p (stN q (k + 1)))) := fun k W hr hL => int_any p (stN q k) W hr (by have := stN_len q k; omega) hL
 have I0 := hq' (HN.out 0)
 have I1 := hq' (HN.out 1)
 have I2 := hq' (HN.out 2)
 have I3 := hq' (HN.out 3)
 have I4 := hq' (HN.out 4)
 have I5 := hq' (HN.out 5)
 have hl6 := stN_len q 6
 have hl7 := Wi.sInts_len (stN q 6)
 have HIS := hq' (fun W (hR : Rd W p (stN q 6)) (hL : ∀ W', Kp W p W' → Lw W') => numbers_any p (stN q 6) W hR (by omega) hL)
 have HRR := hq' (fun W (hR : Rd W p (Wi.sInts (stN q 6)).2) (hL : ∀ W', Kp W p W' → Lw W') => readRecs_any p (Wi.sInts (stN q 6)).2 W hR (by omega) hL)
 clear h hw HN
 simp only [Nat.zero_add, Nat.reduceAdd] at I0 I1 I2 I3 I4 I5
 generalize vN q 0 = n0 at *
 generalize vN q 1 = n1 at *
 generalize vN q 2 = n2 at *
 generalize vN q 3 = n3 at *
 generalize vN q 4 = n4 at *
 generalize vN q 5 = n5 at *
 generalize (Wi.sRecs (Wi.sInts (stN q 6)).2).1.1 = rs at *
 generalize (Wi.sRecs (Wi.sInts (stN q 6)).2).1.2 = ok at *
 generalize (Wi.sRecs (Wi.sInts (stN q 6)).2).2 = qz at *
 generalize (Wi.sInts (stN q 6)).1 = pts at *
 generalize (Wi.sInts (stN q 6)).2 = q7 at *
 generalize stN q 6 = q6 at *
 generalize stN q 5 = q5 at *
 generalize stN q 4 = q4 at *
 generalize stN q 3 = q3 at *
 generalize stN q 2 = q2 at *
 generalize stN q 1 = q1 at *
 generalize stN q 0 = q0 at *
 go_enter Tryz.func113, Tryz.ntmps113
 go_upto_region 1 with (fail)
 generalize w.alloc (.cells #[.int .i64 0, .int .i64 0, .int .i64 0, .int .i64 0, .int .i64 0, .int .i64 0, .slice none 0 0, .slice none 0 0] 34) = w1 at *
 generalize hx : w.heap.size = x at *
 have HX := hq' hx
 clear hx
 go_wp2_with fail
 refine (I0.out _ X1.out.1 (HW.out _ X1.out.2.2.2.2)).mono ?_
 rintro e w2 ⟨rfl, h2⟩
 have X2 := hq' (X1.out.call h2)
 clear h2 X1 I0
 go_wp2_with fail
 refine (I1.out _ X2.out.1 (HW.out _ X2.out.2.2.2.2)).mono ?_
 rintro e w3 ⟨rfl, h3⟩
 have X3 := hq' (X2.out.call h3)
 clear h3 X2 I1
 go_wp2_with fail
 refine (I2.out _ X3.out.1 (HW.out _ X3.out.2.2.2.2)).mono ?_
 rintro e w4 ⟨rfl, h4⟩
 have X4 := hq' (X3.out.call h4)
 clear h4 X3 I2
 have c0 := X4.out.2.1.cell 0
 have c1 := X4.out.2.1.cell 1
 have c2 := X4.out.2.1.cell 2
 have f0 := X4.out.2.1.free 0
 have f1 := X4.out.2.1.free 1
 have f2 := X4.out.2.1.free 2
 simp only [g0', gs'] at c0 c1 c2
 have X5 : Hid (Rx w p x (((w4.setCell ⟨x, 0, none⟩ (.int .i64 n0)).setCell ⟨x, 1, none⟩ (.int .i64 n1)).setCell ⟨x, 2, none⟩ (.int .i64 n2)) q3 [.int .i64 n0, .int .i64 n1, .int .i64 n2, .int .i64 0, .int .i64 0, .int .i64 0, .slice none 0 0, .slice none 0 0] 34) := ((X4.out.store 0 (.int .i64 n0)).store 1 (.int .i64 n1)).store 2 (.int .i64 n2)
 go_upto_region 2 with (fail)
 clear X4 c0 c1 c2 f0 f1 f2
 generalize ((w4.setCell ⟨x, 0, none⟩ (.int .i64 n0)).setCell ⟨x, 1, none⟩ (.int .i64 n1)).setCell ⟨x, 2, none⟩ (.int .i64 n2) = w5 at *
 go_wp2_with fail
 refine (I3.out _ X5.out.1 (HW.out _ X5.out.2.2.2.2)).mono ?_
 rintro e w6 ⟨rfl, h6⟩
 have X6 := hq' (X5.out.call h6)
 clear h6 X5 I3
 go_wp2_with fail
 refine (I4.out _ X6.out.1 (HW.out _ X6.out.2.2.2.2)).mono ?_
 rintro e w7 ⟨rfl, h7⟩
 have X7 := hq' (X6.out.call h7)
 clear h7 X6 I4
 go_wp2_with fail
 refine (I5.out _ X7.out.1 (HW.out _ X7.out.2.2.2.2)).mono ?_
 rintro e w8 ⟨rfl, h8⟩
 have X8 := hq' (X7.out.call h8)
 clear h8 X7 I5
 have c3 := X8.out.2.1.cell 3
 have c4 := X8.out.2.1.cell 4
 have c5 := X8.out.2.1.cell 5
 have f3 := X8.out.2.1.free 3
 have f4 := X8.out.2.1.free 4
 have f5 := X8.out.2.1.free 5
 simp only [g0', gs'] at c3 c4 c5
 have X9 : Hid (Rx w p x (((w8.setCell ⟨x, 3, none⟩ (.int .i64 n3)).setCell ⟨x, 4, none⟩ (.int .i64 n4)).setCell ⟨x, 5, none⟩ (.int .i64 n5)) q6 [.int .i64 n0, .int .i64 n1, .int .i64 n2, .int .i64 n3, .int .i64 n4, .int .i64 n5, .slice none 0 0, .slice none 0 0] 34) := ((X8.out.store 3 (.int .i64 n3)).store 4 (.int .i64 n4)).store 5 (.int .i64 n5)
 go_upto_region 3 with (fail)
 clear X8 c3 c4 c5 f3 f4 f5
 generalize ((w8.setCell ⟨x, 3, none⟩ (.int .i64 n3)).setCell ⟨x, 4, none⟩ (.int .i64 n4)).setCell ⟨x, 5, none⟩ (.int .i64 n5) = w9 at *
 go_wp2_with fail
 refine (HIS.out _ X9.out.1 (fun W' k => HW.out _ (X9.out.2.2.2.2.trans k))).mono ?_
 rintro e wa ⟨pv, rfl, ho, hr, hk⟩
 have XA := hq' (X9.out.own hr hk)
 have hxl := X9.out.2.1.lt
 have OA := hq' ho
 have hba : w.heap.size ≤ w9.heap.size := X9.out.2.2.2.2.size
 clear ho hr hk HIS X9
 have c6 := XA.out.2.1.cell 6
 have f6 := XA.out.2.1.free 6
 simp only [g0', gs'] at c6
 have XB : Hid (Rx w p x (wa.setCell ⟨x, 6, none⟩ pv) q7 [.int .i64 n0, .int .i64 n1, .int .i64 n2, .int .i64 n3, .int .i64 n4, .int .i64 n5, pv, .slice none 0 0] 34) := XA.out.store 6 pv
 have OB := hq' (ownsRow_cell OA.out ⟨x, 6, none⟩ pv (by simp only; omega))
 obtain ⟨ap, cp, hpe⟩ := own_form OA.out
 subst hpe
 go_upto_region 4 with (fail)
 clear XA OA c6 f6
 generalize wa.setCell ⟨x, 6, none⟩ (.slice ap pts.length cp) = wB at *
 go_wp2_with fail
 refine (HRR.out _ XB.out.1 (fun W' k => HW.out _ (XB.out.2.2.2.2.trans k))).mono ?_
 rintro e wc ⟨v, rfl, ho, hr, hk⟩
 have XC := hq' (XB.out.own hr hk)
 have hxl2 := XB.out.2.1.lt
 have OC := hq' ho
 have hbb : w.heap.size ≤ wB.heap.size := XB.out.2.2.2.2.size
 have PC := hq' (OB.out.kept (row := some p) ⟨hk.os, hk.tape, hk.output, hk.size, fun i hi hne => hk.block i hi (fun e => e.elim (fun e => hne (by rw [e])) (fun e => by omega))⟩ (by
  rcases hv : (Value.slice ap pts.length cp).ownBlock with _ | g
  ·exact .inl rfl
  ·right
   intro e
   have := (OB.out.lt g hv).1
   injection e with e
   omega))
 clear ho hr hk HRR XB OB
 have c7 := XC.out.2.1.cell 7
 have f7 := XC.out.2.1.free 7
 simp only [g0', gs'] at c7
 have XD : Hid (Rx w p x (wc.setCell ⟨x, 7, none⟩ v) qz [.int .i64 n0, .int .i64 n1, .int .i64 n2, .int .i64 n3, .int .i64 n4, .int .i64 n5, .slice ap pts.length cp, v] 34) := XC.out.store 7 v
 have OD := hq' (ownsRow_cell OC.out ⟨x, 7, none⟩ v (by simp only; omega))
 have PD := hq' (ownsRow_cell PC.out ⟨x, 7, none⟩ v (by simp only; omega))
 obtain ⟨av, cv, hve⟩ := own_form OC.out
 subst hve
 go_upto_region 5 with (fail)
 clear XC OC PC c7 f7
 generalize wc.setCell ⟨x, 7, none⟩ (.slice av rs.length cv) = wD at *
 obtain ⟨cs, hcs⟩ : ∃ cs : List Value, cs = [.int .i64 n0, .int .i64 n1, .int .i64 n2, .int .i64 n3, .int .i64 n4, .int .i64 n5, .slice ap pts.length cp, .slice av rs.length cv] := ⟨_, rfl⟩
 have HI1 : Hid ((Tryz.prog.info? 34).map (·.size) = some cs.length) := by rw [Hid, hcs]; kernel_rfl
 have HI2 : Hid ((Tryz.prog.info? 34).map (·.size) = some (cs.toArray : Array Value).size) := by rw [Hid, hcs]; kernel_rfl
 have HONE : Hid ((cs.toArray : Array Value).all (·.oneCell') = true) := by rw [Hid, hcs]; simp [Value.oneCell']
 have HSZ : Hid ((cs.toArray : Array Value).size = (cs.toArray : Array Value).size) := rfl
 have HCS := hq' hcs
 rw [← hcs] at XD
 clear hcs
 have R7 := hq' XD.out.2.1.range
 have CQ : Hid (wD.heap[x]? = some (.cells cs.toArray 34 (0, 0))) := XD.out.2.1
 have XE := hq' (XD.out.rowed cs.toArray)
 have KR : Hid (Keeps (fun i => i = x) wD (wD.setRow x cs.toArray)) := Keeps.row _ _ _ rfl
 have OE := hq' (ownsRow_keeps (j := x) OD.out KR.out (by omega))
 have PE := hq' (ownsRow_keeps (j := x) PD.out KR.out (by omega))
 go_wp2_with (first
  | (refine wpList_load_mid (by rfl) _ _ (by rfl) x 0 (by rfl) cs _ R7.out Tryz.underlying34 (by rfl) HI1.out ?_)
  | (refine wpList_store_row (by rfl) _ _ _ (by rfl) x cs.toArray (by rfl) (by rfl) 34 _ CQ.out HI2.out HSZ.out HONE.out ?_))
 refine bodyPost_ret (results_cl_tmp rfl _ _ _ _ _ _ rfl XE.out.2.1 Tryz.underlying34 rfl HI1.out) rfl ?_
 refine ⟨.slice ap pts.length cp, .slice av rs.length cv, ?_, ?_, ?_, ?_, XE.out.2.2.2.2⟩
 ·rw [HS.out, HCS.out]; rfl
 ·rw [HS.out]; exact ownsRow_weaken PE.out (by have := HX.out; omega)
 ·rw [HS.out]; exact ownsRow_weaken OE.out (by have := HX.out; omega)
 ·rw [HS.out]; exact XE.out.1
end Go.Proofs.YtjfpbeccpcbpcaaGreatDoor
