/-
  Gr: texts of one proof, one behind the other.
  Conditions: none of its own.
-/
import Derived.Test.YtbljbdjmgogknaaGreatDoorZbv
import Derived.Test.YtbljbdjmgogknaaGreatDoorZbw
set_option linter.unusedVariables false
set_option linter.unusedSimpArgs false
namespace Go.Proofs.YtbljbdjmgogknaaGreatDoor
open Go.RowKit
theorem infoMsg : (Tryz.prog.info? 44).map (fun i => (i.zero, i.size, i.bytes)) = some (some (.agg (.int .i64 0 :: .int .i64 0 :: .int .i64 0 :: .int .i64 0 :: .int .i64 0 :: .int .i64 0 :: .int .i64 0 :: .int .i64 0 :: .int .i64 0 :: .slice none 0 0 :: .int .i64 0 :: .slice none 0 0 :: .int .i64 0 :: .int .i64 0 :: .int .i64 0 :: .int .i64 0 :: .int .i64 0 :: .slice none 0 0 :: .slice none 0 0 :: .int .i64 0 :: .int .i64 0 :: .int .i64 0 :: .int .i64 0 :: .int .i64 0 :: .int .i64 0 :: .int .i64 0 :: .int .i64 0 :: .string ⟨#[]⟩ :: .string ⟨#[]⟩ :: .slice none 0 0 :: .int .i64 0 :: .int .i64 0 :: .int .i64 0 :: .int .i64 0 :: .int .i64 0 :: .int .i64 0 :: .slice none 0 0 :: .slice none 0 0 :: []).toArray), 38, 432) := by kernel_rfl
theorem infoM : ∃ i z, Tryz.prog.info? 44 = some i ∧ i.zero = some z ∧ i.size = 38 ∧ i.bytes = 432 ∧ z.cells.size = 38 := by
 obtain ⟨i, hi, h0, h1, h2⟩ := info_parts infoMsg
 exact ⟨i, _, hi, h0, h1, h2, rfl⟩
theorem Sl.atX {w : World} {B : Nat} {v : Value} {n : Nat} {xs : List Value} {size : Nat} (h : Sl w B size v n xs) (hn : 0 < n) : ∃ g off cap, v = .slice (some ⟨g, off, none⟩) n cap ∧ g < w.heap.size ∧ ∀ j u, xs[j]? = some u → w.cell? ⟨g, off + j, none⟩ = some u := by
 rcases h.2 with ⟨rfl, h0⟩ | ⟨g, off, cap, rfl, hB, hg, hc, hm, hr, ht⟩
 ·omega
 ·exact ⟨g, off, cap, rfl, hg, hr⟩
def mdn (x : Int) (n : Nat) : Int := (IntKind.u64.wrap x).tmod (n : Int)
theorem mdn_in (x : Int) (n : Nat) (h : 0 < n) : 0 ≤ mdn x n ∧ mdn x n < n := by
 have hw := IntKind.wrap_u64 x
 unfold mdn
 rw [hw, Int.tmod_eq_emod_of_nonneg (by omega)]
 exact ⟨Int.emod_nonneg _ (by omega), Int.emod_lt_of_pos _ (by omega)⟩
theorem boxRow (w : World) (cs : List Value) (hl : cs.length = 38) :
  (w.alloc (.cells (.int .i64 0 :: .int .i64 0 :: .int .i64 0 :: .int .i64 0 :: .int .i64 0 :: .int .i64 0 :: .int .i64 0 :: .int .i64 0 :: .int .i64 0 :: .slice none 0 0 :: .int .i64 0 :: .slice none 0 0 :: .int .i64 0 :: .int .i64 0 :: .int .i64 0 :: .int .i64 0 :: .int .i64 0 :: .slice none 0 0 :: .slice none 0 0 :: .int .i64 0 :: .int .i64 0 :: .int .i64 0 :: .int .i64 0 :: .int .i64 0 :: .int .i64 0 :: .int .i64 0 :: .int .i64 0 :: .string ⟨#[]⟩ :: .string ⟨#[]⟩ :: .slice none 0 0 :: .int .i64 0 :: .int .i64 0 :: .int .i64 0 :: .int .i64 0 :: .int .i64 0 :: .int .i64 0 :: .slice none 0 0 :: .slice none 0 0 :: []).toArray 44)).heap[w.heap.size]? = some (.cells (.int .i64 0 :: .int .i64 0 :: .int .i64 0 :: .int .i64 0 :: .int .i64 0 :: .int .i64 0 :: .int .i64 0 :: .int .i64 0 :: .int .i64 0 :: .slice none 0 0 :: .int .i64 0 :: .slice none 0 0 :: .int .i64 0 :: .int .i64 0 :: .int .i64 0 :: .int .i64 0 :: .int .i64 0 :: .slice none 0 0 :: .slice none 0 0 :: .int .i64 0 :: .int .i64 0 :: .int .i64 0 :: .int .i64 0 :: .int .i64 0 :: .int .i64 0 :: .int .i64 0 :: .int .i64 0 :: .string ⟨#[]⟩ :: .string ⟨#[]⟩ :: .slice none 0 0 :: .int .i64 0 :: .int .i64 0 :: .int .i64 0 :: .int .i64 0 :: .int .i64 0 :: .int .i64 0 :: .slice none 0 0 :: .slice none 0 0 :: []).toArray 44 (0, 0)) ∧
  Cl ((w.alloc (.cells (.int .i64 0 :: .int .i64 0 :: .int .i64 0 :: .int .i64 0 :: .int .i64 0 :: .int .i64 0 :: .int .i64 0 :: .int .i64 0 :: .int .i64 0 :: .slice none 0 0 :: .int .i64 0 :: .slice none 0 0 :: .int .i64 0 :: .int .i64 0 :: .int .i64 0 :: .int .i64 0 :: .int .i64 0 :: .slice none 0 0 :: .slice none 0 0 :: .int .i64 0 :: .int .i64 0 :: .int .i64 0 :: .int .i64 0 :: .int .i64 0 :: .int .i64 0 :: .int .i64 0 :: .int .i64 0 :: .string ⟨#[]⟩ :: .string ⟨#[]⟩ :: .slice none 0 0 :: .int .i64 0 :: .int .i64 0 :: .int .i64 0 :: .int .i64 0 :: .int .i64 0 :: .int .i64 0 :: .slice none 0 0 :: .slice none 0 0 :: []).toArray 44)).setRow w.heap.size cs.toArray) w.heap.size cs 44 ∧
  Below w.heap.size w ((w.alloc (.cells (.int .i64 0 :: .int .i64 0 :: .int .i64 0 :: .int .i64 0 :: .int .i64 0 :: .int .i64 0 :: .int .i64 0 :: .int .i64 0 :: .int .i64 0 :: .slice none 0 0 :: .int .i64 0 :: .slice none 0 0 :: .int .i64 0 :: .int .i64 0 :: .int .i64 0 :: .int .i64 0 :: .int .i64 0 :: .slice none 0 0 :: .slice none 0 0 :: .int .i64 0 :: .int .i64 0 :: .int .i64 0 :: .int .i64 0 :: .int .i64 0 :: .int .i64 0 :: .int .i64 0 :: .int .i64 0 :: .string ⟨#[]⟩ :: .string ⟨#[]⟩ :: .slice none 0 0 :: .int .i64 0 :: .int .i64 0 :: .int .i64 0 :: .int .i64 0 :: .int .i64 0 :: .int .i64 0 :: .slice none 0 0 :: .slice none 0 0 :: []).toArray 44)).setRow w.heap.size cs.toArray) ∧ ((.int .i64 0 :: .int .i64 0 :: .int .i64 0 :: .int .i64 0 :: .int .i64 0 :: .int .i64 0 :: .int .i64 0 :: .int .i64 0 :: .int .i64 0 :: .slice none 0 0 :: .int .i64 0 :: .slice none 0 0 :: .int .i64 0 :: .int .i64 0 :: .int .i64 0 :: .int .i64 0 :: .int .i64 0 :: .slice none 0 0 :: .slice none 0 0 :: .int .i64 0 :: .int .i64 0 :: .int .i64 0 :: .int .i64 0 :: .int .i64 0 :: .int .i64 0 :: .int .i64 0 :: .int .i64 0 :: .string ⟨#[]⟩ :: .string ⟨#[]⟩ :: .slice none 0 0 :: .int .i64 0 :: .int .i64 0 :: .int .i64 0 :: .int .i64 0 :: .int .i64 0 :: .int .i64 0 :: .slice none 0 0 :: .slice none 0 0 :: []).toArray : Array Value).size = (cs.toArray : Array Value).size := by
 refine ⟨Cl.new w (.int .i64 0 :: .int .i64 0 :: .int .i64 0 :: .int .i64 0 :: .int .i64 0 :: .int .i64 0 :: .int .i64 0 :: .int .i64 0 :: .int .i64 0 :: .slice none 0 0 :: .int .i64 0 :: .slice none 0 0 :: .int .i64 0 :: .int .i64 0 :: .int .i64 0 :: .int .i64 0 :: .int .i64 0 :: .slice none 0 0 :: .slice none 0 0 :: .int .i64 0 :: .int .i64 0 :: .int .i64 0 :: .int .i64 0 :: .int .i64 0 :: .int .i64 0 :: .int .i64 0 :: .int .i64 0 :: .string ⟨#[]⟩ :: .string ⟨#[]⟩ :: .slice none 0 0 :: .int .i64 0 :: .int .i64 0 :: .int .i64 0 :: .int .i64 0 :: .int .i64 0 :: .int .i64 0 :: .slice none 0 0 :: .slice none 0 0 :: []) _, ?_, ((Below.refl _ _).alloc (Nat.le_refl _) _).trans ((Keeps.row (S := fun j => j = w.heap.size) _ w.heap.size _ rfl).toBelow (by simp) (fun k hk e => by omega)), ?_⟩
 ·have := Cl.row (Cl.new w (.int .i64 0 :: .int .i64 0 :: .int .i64 0 :: .int .i64 0 :: .int .i64 0 :: .int .i64 0 :: .int .i64 0 :: .int .i64 0 :: .int .i64 0 :: .slice none 0 0 :: .int .i64 0 :: .slice none 0 0 :: .int .i64 0 :: .int .i64 0 :: .int .i64 0 :: .int .i64 0 :: .int .i64 0 :: .slice none 0 0 :: .slice none 0 0 :: .int .i64 0 :: .int .i64 0 :: .int .i64 0 :: .int .i64 0 :: .int .i64 0 :: .int .i64 0 :: .int .i64 0 :: .int .i64 0 :: .string ⟨#[]⟩ :: .string ⟨#[]⟩ :: .slice none 0 0 :: .int .i64 0 :: .int .i64 0 :: .int .i64 0 :: .int .i64 0 :: .int .i64 0 :: .int .i64 0 :: .slice none 0 0 :: .slice none 0 0 :: []) 44) cs.toArray
  rwa [List.toList_toArray] at this
 ·rw [List.size_toArray, List.size_toArray, hl]
  rfl
set_option maxRecDepth 20000 in
set_option maxHeartbeats 12800000 in
theorem bagKeeps_walk (v u : Value) (xs : List MX) (zs : List Int) (w : World) (hz : MsgsAt w v xs) (hl : xs.length ≤ maxLen) (ho : ∀ x ∈ xs, MxOk x) (hy : Ints w u zs) (hyl : zs.length ≤ maxLen) (hw : Lw w) :
  Calls Tryz.prog 5 #[v, u] w fun e w' => e = .returned (.bool true) ∧ Below w.heap.size w w' := by
 have HZ := Lib.hid hz
 have HY := Lib.hid hy
 have HW := Lib.hid hw
 have HO := Lib.hid ho
 obtain ⟨az, capz, rfl, _⟩ := id hz
 obtain ⟨ay, capy, rfl⟩ := hy.form
 clear hz hw ho hy
 unfold maxLen at hl hyl
 obtain ⟨i0, z0, hi, hz0, hz1, hz2, hz3⟩ := infoM
 go_enter Tryz.func5, Tryz.ntmps5
 go_wp2_with fail
 refine (awakeM_any w HW.out).mono ?_
 rintro e w1 ⟨rfl, hb1⟩
 have B1 := Lib.hid hb1
 clear hb1
 go_wp2_with fail
 refine (bagNew_any w1).mono ?_
 rintro e w2 ⟨rfl, h, hb⟩
 have C3 : Hid (KsW w (w2.alloc (.cells #[] 44)) w1.heap.size (.slice none 0 0) (.slice (some ⟨w2.heap.size, 0, none⟩) 0 0) []) := by
  have b2 : Below w.heap.size w w2 := bt B1.out hb
  have h2 : BagW w2 w.heap.size w1.heap.size (.slice none 0 0) [] := ⟨h.c, Sl.nil _ _ _, h.n, B1.out.size, h.m⟩
  have h1 : (w2.alloc (.cells #[] 44)).ownsRow w.heap.size 44 38 (.slice (some ⟨w2.heap.size, 0, none⟩) 0 0) 0 [] := World.ownsRow_made w2 #[] 0 b2.size (by unfold maxLen; omega) rfl
  have b3 : Below w2.heap.size w2 (w2.alloc (.cells #[] 44)) := (Below.refl _ _).alloc (Nat.le_refl _) _
  refine ⟨h2.below b3, Sl.ofOwn h1, fun j hj => ?_, bt b2 b3⟩
  simp [Value.ownBlock] at hj
  exact h2.apart (by omega)
 clear h hb
 go_upto_region 5 with (fail)
 generalize w2.alloc (.cells #[] 44) = w3 at *
 generalize (Value.slice (some ⟨w2.heap.size, 0, none⟩) 0 0) = wv0 at *
 generalize w1.heap.size = pb at *
 go_wp2
 go_loopw [6, 7] (fun tw ti wr => ∃ (k : Nat) (lv : Value) (L : List MX), ti = .int .i64 k ∧ k ≤ xs.length ∧ k ≤ 100 ∧ L.length ≤ k ∧ (∀ x ∈ L, Wi.good x.m = true ∧ MxOk x ∧ MsgAt w x.m x.v) ∧ KsW w wr pb lv tw L) (fun _ ti _ => xs.length - (intOf ti).toNat)
 case atStart => exact ⟨0, _, [], rfl, by omega, by omega, Nat.le_refl _, by simp, C3.out⟩
 case round =>
  obtain ⟨k, lv, L, rfl, hk, hk2, hLk, hL, hC⟩ := hrel
  have CK := Lib.hid hC
  have HL := Lib.hid hL
  clear hC C3 hL
  obtain ⟨aw, capw, hwv, hcapw, _⟩ := CK.out.s.form
  subst hwv
  by_cases hgo : k < xs.length ∧ k < 100
  ·obtain ⟨hlt, h60⟩ := hgo
   have hlti : (k : Int) < (xs.length : Int) := by omega
   have h60i : (k : Int) < 100 := by omega
   obtain ⟨x, hx⟩ : ∃ x, xs[k]? = some x := ⟨xs[k], by simp [hlt]⟩
   have OX := Lib.hid (HO.out x (List.mem_of_getElem? hx))
   obtain ⟨az', capz', he, hzz⟩ := HZ.out
   obtain ⟨g, off, e1, hg, hr, hm⟩ := hzz k x hx
   injection he with f1 f2 f3
   subst f1 f3 e1
   obtain ⟨cs, hcs, hcv, h2, HLN, HIL, HIA, HON, HONE⟩ := mx_cells x w hm
   rw [hcs] at hr
   have RG : Hid (∀ W, Below w.heap.size w W → W.rangeAt g (off + k * 38) cs) := fun W hW j y hy => (hW.cell (p := ⟨g, off + k * 38 + j, none⟩) hg).trans (hr j y hy)
   have HM : Hid (∀ W, Below w.heap.size w W → MsgAt W x.m x.v) := fun W hW => hm.kept hW
   have HCS := Lib.hid hcs
   clear hx hzz hr hm hcv h2 f2 hcs
   have RK := Lib.hid (RG.out wr CK.out.bel)
   go_wp2_with (refine wpList_load_mid (by rfl) _ _ (by rfl) g (off + k * 38) (by rfl) cs _ RK.out Tryz.underlying44 (by rfl) HIL.out ?_)
   refine (small_any x wr (HM.out wr CK.out.bel) OX.out.1 cs HCS.out).mono ?_
   rintro e w4 ⟨b, rfl, hb⟩
   have C4 := Lib.hid (CK.out.below hb)
   clear hb CK RK
   cases b with
   | false =>
    go_wp2
    go_ret
    exact ⟨rfl, C4.out.bel⟩
   | true =>
    have R4 := Lib.hid (RG.out w4 C4.out.bel)
    cases hgd : Wi.good x.m with
    | false =>
     have HP := Lib.hid (bagPut_bad x cs HCS.out w.heap.size pb lv (itsX L) w4 C4.out.h C4.out.bel.size (HM.out w4 C4.out.bel) OX.out hgd (HW.out.below C4.out.bel))
     go_wp2_with (refine wpList_load_mid (by rfl) _ _ (by rfl) g (off + k * 38) (by rfl) cs _ R4.out Tryz.underlying44 (by rfl) HIL.out ?_)
     refine HP.out.mono ?_
     rintro e w5 ⟨rfl, _, hb⟩
     have C5 := Lib.hid (C4.out.below hb)
     clear hb C4 HP R4
     go_wp2
     go_roundw
     case rel => exact ⟨k + 1, lv, L, by go_num, by omega, by omega, by omega, HL.out, C5.out⟩
     case measure => simp [intOf]; omega
    | true =>
     have HP := bagPut_m x cs HCS.out w.heap.size pb lv (itsX L) w4 C4.out.h C4.out.bel.size (HM.out w4 C4.out.bel) OX.out hgd (HW.out.below C4.out.bel)
     unfold PutPost at HP
     rw [itsX_len, if_pos (by omega), if_pos (by omega), ← itsX_snoc] at HP
     have HPP := Lib.hid HP
     clear HP
     go_wp2_with (refine wpList_load_mid (by rfl) _ _ (by rfl) g (off + k * 38) (by rfl) cs _ R4.out Tryz.underlying44 (by rfl) HIL.out ?_)
     refine HPP.out.mono ?_
     rintro e w5 ⟨rfl, lv5, h, hb⟩
     have C5 := Lib.hid (C4.out.bag h hb)
     clear h hb C4 HPP R4
     have R5 := Lib.hid (RG.out w5 C5.out.bel)
     have SL5 : Hid (Sl (w5.alloc (.cells cs.toArray 44)) w.heap.size 38 (.slice aw L.length capw) L.length (cellsX L)) := C5.out.s.kept (Keeps.alloc (fun _ => False) _ _) (fun _ _ => id)
     have hsrc : Hid (SrcIs (w5.alloc (.cells cs.toArray 44)) 38 (.slice (some ⟨w5.heap.size, 0, none⟩) 1 1) 1 cs) := (Cl.new w5 cs 44).src 38 1 1 (by rw [HLN.out])
     have hbs := C5.out.bel.size
     have hc1 : 0 < cs.length := by rw [HLN.out]; omega
     have hc2 : cs.length ≤ 1000 := by rw [HLN.out]; omega
     have hc3 : i0.size = cs.length := by rw [HLN.out]; exact hz1
     go_wp2_with (first
      | (refine wpList_load_mid (by rfl) _ _ (by rfl) g (off + k * 38) (by rfl) cs _ R5.out Tryz.underlying44 (by rfl) HIL.out ?_)
      | (refine wpList_build_wide (by rfl) _ 44 _ (by rfl) cs (by rfl) i0 z0 Tryz.underlying27 hi hz0 hc3 hc1 hc2 ?_)
      | (at_builtin; refine wpList_append_sl rfl (.tmp 40) (.tmp 45) 27 rfl 44 i0 z0 38 432 Tryz.underlying27 hi hz0 hz1 hz2 hz3 (by decide) w.heap.size _ _ _ rfl SL5.out _ _ _ rfl hsrc.out HONE.out ?_ ?_ ?_ ?_))
     ·unfold maxLen; omega
     ·omega
     ·simp; omega
     intro wv' w9 hown hgr hnew
     have C9 : Hid (KsW w w9 pb lv5 wv' (L ++ [x])) := C5.out.put (L' := L ++ [x]) ((Keeps.alloc _ _ _).trans (Keeps.grown hgr (fun j hj => hj))) (by
       rw [cellsX_snoc, List.length_append, HCS.out]
       exact hown) (fun j hj => hnew.elim (fun e => .inl (e ▸ hj)) (fun e => .inr (by have := e j hj; omega)))
     obtain ⟨aw9, capw9, hwv9, _⟩ := C9.out.s.form
     have hwv9' : wv' = .slice aw9 (L.length + 1) capw9 := by simpa using hwv9
     clear hwv9
     subst hwv9'
     have HL9 : Hid (∀ y ∈ L ++ [x], Wi.good y.m = true ∧ MxOk y ∧ MsgAt w y.m y.v) := fun y hy => by
      rcases List.mem_append.1 hy with h | h
      ·exact HL.out y h
      ·simp only [List.mem_cons, List.not_mem_nil, or_false] at h
       subst h
       exact ⟨hgd, OX.out, HM.out w (Below.refl _ _)⟩
     clear hown hgr hnew SL5 hsrc C5 hgd
     go_wp2
     go_roundw
     case rel => exact ⟨k + 1, lv5, L ++ [x], by go_num, by omega, by omega, by simp; omega, HL9.out, C9.out⟩
     case measure => simp [intOf]; omega
  ·go_upto_region 6 with (fail)
   go_cut [24] (fun t wz => t = .bool false ∧ wz = wr)
   case first =>
    by_cases hkl : k < xs.length
    ·have hkli : (k : Int) < (xs.length : Int) := by omega
     have hk2 : ¬ ((k : Int) < 100) := by omega
     go_wp2
     go_meet
     case rel => exact ⟨rfl, rfl⟩
    ·have hkli : ¬ ((k : Int) < (xs.length : Int)) := by omega
     go_wp2
     go_meet
     case rel => exact ⟨rfl, rfl⟩
   case rest =>
    obtain ⟨rfl, hwc⟩ := hcut
    have hwc' := hwc.symm
    clear hwc
    subst hwc'
    have hL100 : L.length ≤ 100 := by omega
    clear hgo hLk hk hk2 hcapw
    go_wp2
    go_loopw [6, 8] (fun tw ti wr => ∃ (j : Nat) (lv : Value) (L : List MX), ti = .int .i64 j ∧ j ≤ zs.length ∧ j ≤ 100 ∧ L.length ≤ 100 ∧ (∀ x ∈ L, Wi.good x.m = true ∧ MxOk x ∧ MsgAt w x.m x.v) ∧ KsW w wr pb lv tw L) (fun _ ti _ => zs.length - (intOf ti).toNat)
    case atStart => exact ⟨0, _, L, rfl, by omega, by omega, hL100, HL.out, CK.out⟩
    case round =>
     clear CK HL hL100
     obtain ⟨j, lv, L, rfl, hj, hj2, hL100, hL, hC⟩ := hrel
     have CK := Lib.hid hC
     have HL := Lib.hid hL
     clear hC hL
     obtain ⟨aw, capw, hwv, hcapw, _⟩ := CK.out.s.form
     subst hwv
     by_cases hgo : j < zs.length ∧ j < 100 ∧ 0 < L.length
     ·obtain ⟨hlt, h60, hpos⟩ := hgo
      have hlti : (j : Int) < (zs.length : Int) := by omega
      have h60i : (j : Int) < 100 := by omega
      have hposi : (0 : Int) < (L.length : Int) := by omega
      have hpos0 : ¬ (L.length : Int) = 0 := by omega
      obtain ⟨q, hq⟩ : ∃ q, zs[j]? = some q := ⟨zs[j], by simp [hlt]⟩
      obtain ⟨g, off, cap', he, hg, p0⟩ := HY.out.get (Below.refl _ w) hq
      injection he with e1 e2 e3
      subst e1 e3
      clear e2 hq
      have q0 : wr.cell? ⟨g, off + j, none⟩ = some (.int .i64 q) := (CK.out.bel.cell (p := ⟨g, off + j, none⟩) hg).trans p0
      obtain ⟨hn0, hn1⟩ := mdn_in q L.length hpos
      obtain ⟨nn, hnn⟩ := Int.eq_ofNat_of_zero_le hn0
      have hw0 : IntKind.u64.wrap (L.length : Int) = (L.length : Int) := by rw [IntKind.wrap_u64]; omega
      have hw1 : (IntKind.u64.wrap q).tmod (L.length : Int) = (nn : Int) := hnn
      have hw2 : IntKind.u64.wrap (nn : Int) = (nn : Int) := by rw [IntKind.wrap_u64]; omega
      have hw3 : IntKind.i64.wrap (nn : Int) = (nn : Int) := by rw [IntKind.wrap_i64]; omega
      have hnl : nn < L.length := by omega
      have hnli : (nn : Int) < (L.length : Int) := by omega
      obtain ⟨y, hy⟩ : ∃ y, L[nn]? = some y := ⟨L[nn], by simp [hnl]⟩
      obtain ⟨hgy, hoy, hmy⟩ := HL.out y (List.mem_of_getElem? hy)
      have HYY := Lib.hid hy
      have HT := bagTake_m w.heap.size pb lv (itsX L) nn y.m (by simp [itsX, hy]) hgy wr CK.out.h CK.out.bel.size (HW.out.below CK.out.bel)
      unfold TkPost at HT
      rw [itsX_erase] at HT
      have HTT := Lib.hid HT
      have OY := Lib.hid hoy
      have HMY := Lib.hid hmy
      clear HT hn0 hn1 hnn hy hgy hoy hmy p0
      go_upto_region 16 with (fail)
      clear hw0 hw1 hw2 hw3 q0
      go_wp2_with fail
      refine HTT.out.mono ?_
      rintro e w6 ⟨v6, lv6, rfl, hat, hok, h, hb⟩
      have C6 := Lib.hid (CK.out.bag h hb)
      have M6 := Lib.hid hat
      obtain ⟨cs, hcs, hcv, h2, HLN, HIL, HIA, HON, HONE⟩ := mx_cells ⟨y.m, v6⟩ w6 hat
      rw [show msgC y.m v6 = cs from hcs]
      obtain ⟨cs2, hcs2, hcv2, _, HLN2, HIL2, HIA2, HON2, HONE2⟩ := mx_cells y w HMY.out
      have HCV := Lib.hid hcv
      have HCV2 := Lib.hid hcv2
      have HCS2 := Lib.hid hcs2
      clear h hb HTT CK hat hcs hcv h2 hcs2 hcv2
      obtain ⟨hbx, hcl, hbl, hsz⟩ := boxRow w6 cs HLN.out
      have CM := Lib.hid hbx
      have M7 := Lib.hid hcl
      have B7 := Lib.hid hbl
      have HSZ := Lib.hid hsz
      clear hbx hcl hbl hsz
      go_upto_region 17 with (refine wpList_store_row (by rfl) _ _ _ (by rfl) w6.heap.size cs.toArray (by rfl) (by rfl) 44 _ CM.out HIA.out HSZ.out HON.out ?_)
      generalize (w6.alloc (.cells (.int .i64 0 :: .int .i64 0 :: .int .i64 0 :: .int .i64 0 :: .int .i64 0 :: .int .i64 0 :: .int .i64 0 :: .int .i64 0 :: .int .i64 0 :: .slice none 0 0 :: .int .i64 0 :: .slice none 0 0 :: .int .i64 0 :: .int .i64 0 :: .int .i64 0 :: .int .i64 0 :: .int .i64 0 :: .slice none 0 0 :: .slice none 0 0 :: .int .i64 0 :: .int .i64 0 :: .int .i64 0 :: .int .i64 0 :: .int .i64 0 :: .int .i64 0 :: .int .i64 0 :: .int .i64 0 :: .string ⟨#[]⟩ :: .string ⟨#[]⟩ :: .slice none 0 0 :: .int .i64 0 :: .int .i64 0 :: .int .i64 0 :: .int .i64 0 :: .int .i64 0 :: .int .i64 0 :: .slice none 0 0 :: .slice none 0 0 :: []).toArray 44)).setRow w6.heap.size cs.toArray = w7 at *
      have C7 := Lib.hid (C6.out.below B7.out)
      have M8 := Lib.hid (M6.out.kept B7.out)
      clear C6 CM B7 M6 HSZ HIA HON HONE
      generalize w6.heap.size = pm at *
      obtain ⟨gw, offw, capw2, hv2, hgw, hcw⟩ := C7.out.s.atX (by omega)
      injection hv2 with e1 e2 e3
      subst e1 e3
      have RA : Hid (∀ W, (∃ b : BelowOf w7, W = b.1) → W.rangeAt pm 0 cs) := by
       rintro W ⟨b, rfl⟩
       exact (M7.out.below b.2).range
      have RB : Hid (∀ W, (∃ b : BelowOf w7, W = b.1) → W.rangeAt gw (offw + nn * 38) cs2) := by
       rintro W ⟨b, rfl⟩ i s hs
       rw [← HCS2.out] at hs
       have := hcw _ _ (cellsX_at L nn y HYY.out i s hs)
       rw [Nat.add_assoc]
       exact (b.2.cell (p := ⟨gw, offw + (nn * 38 + i), none⟩) hgw).trans this
      have HSM : Hid (∀ b : BelowOf w7, Calls Tryz.prog 22 #[.agg cs.toArray, .agg cs2.toArray] b.1 fun e w' => e = .returned (.bool true) ∧ ∃ c : BelowOf w7, w' = c.1) := by
       intro b
       have := wsame_any y.m y.m v6 y.v b.1 (M8.out.kept b.2) (HMY.out.kept (bt C7.out.bel b.2)) OY.out.1 OY.out.1
       rw [show msgV y.m v6 = _ from HCV.out, HCV2.out, Wi.same_refl] at this
       refine this.mono ?_
       rintro e w' ⟨rfl, hb⟩
       exact ⟨rfl, ⟨⟨w', bt b.2 hb⟩, rfl⟩⟩
      clear e2 hcw M7 M8
      refine wp_region_below (by kernel_rfl) (by kernel_rfl) ?_
      go_big_quiet_step (fail)
      go_big_quiet_step (fail)
      go_big_quiet_step (fail)
      go_big_quiet_want
      refine quiet_load_mid _ _ (by rfl) pm (0) (by rfl) cs _ RA.out Tryz.underlying44 (by rfl) HIL.out ?_
      simp only [Act.put, List.setIfInBounds_toArray, List.set_cons_succ, List.set_cons_zero]
      go_big_quiet_on
      go_big_quiet_step (fail)
      go_big_quiet_step (fail)
      go_big_quiet_step (fail)
      go_big_quiet_want
      refine quiet_load_mid _ _ (by rfl) gw (offw + nn * 38) (by rfl) cs2 _ RB.out Tryz.underlying44 (by rfl) HIL2.out ?_
      simp only [Act.put, List.setIfInBounds_toArray, List.set_cons_succ, List.set_cons_zero]
      go_big_quiet_on
      go_big_quiet_step ((exact HSM.out _))
      repeat (go_big_quiet_step (fail))
      refine wpQuiet_nil ?_
      intro w8 h8
      obtain ⟨⟨w8, hb8⟩, rfl⟩ := h8
      have C8 : Hid (KsB w w8 pb lv6 (.slice (some ⟨gw, offw, none⟩) L.length capw) (itsX (L.eraseIdx nn)) L) := C7.out.below hb8
      clear hb8 C7 RA RB HSM hgw HIL HIL2 HIA2 HON2 HONE2 HLN HLN2 HCV HCV2 HCS2
      have HS8 : Hid (∀ j u, (cellsX L)[j]? = some u → w8.cell? ⟨gw, offw + j, none⟩ = some u) := by
       obtain ⟨gw', offw', capw', hv2, _, hcw⟩ := C8.out.s.atX (by omega)
       injection hv2 with e1 e2 e3
       injection e1 with e1
       injection e1 with e1 e4
       subst e1 e4
       exact hcw
      have hgb := C8.out.bel.size
      have hslP := fun W => slice_to (P := Tryz.prog) 27 44 i0 Tryz.underlying27 hi (some ⟨gw, offw, none⟩) L.length capw nn (nn : Int) .i64 rfl (by omega) (.inr ⟨gw, offw, rfl⟩) W
      have hslS := fun W => slice_fromN (P := Tryz.prog) 27 44 i0 Tryz.underlying27 hi 38 hz1 gw offw L.length capw (nn + 1) (by omega) ((nn : Int) + 1) (by omega) W
      obtain ⟨AS, hAS⟩ : ∃ A : Addr, (if capw = nn + 1 then (⟨gw, offw, none⟩ : Addr) else ⟨gw, offw + (nn + 1) * 38, none⟩) = A := ⟨_, rfl⟩
      have hmade : Hid (Sl (w8.alloc (.cells #[] 44)) w.heap.size 38 (.slice (some ⟨w8.heap.size, 0, none⟩) 0 0) 0 []) := Sl.ofOwn (e := 44) (World.ownsRow_made w8 #[] 0 hgb (by unfold maxLen; omega) rfl)
      have hsrcP : Hid (SrcIs (w8.alloc (.cells #[] 44)) 38 (.slice (some ⟨gw, offw, none⟩) nn capw) nn (cellsX (L.take nn))) := srcXP (fun j u hu => (((Below.refl _ _).alloc (Nat.le_refl _) _).cell (p := ⟨gw, offw + j, none⟩) (World.block_lt_of_cell? w8 _ (HS8.out j u hu))).trans (HS8.out j u hu)) (by omega)
      have HER : Hid (cellsX (L.eraseIdx nn) = cellsX (L.take nn) ++ cellsX (L.drop (nn + 1))) := cellsX_erase L nn
      have HEL : Hid ((L.eraseIdx nn).length = L.length - 1) := List.length_eraseIdx_of_lt hnl
      rw [hAS] at hslS
      have HAS := Lib.hid hAS
      have hone1 := Lib.hid (cellsX_one w (L.take nn) (fun x hx => (HL.out x (List.mem_of_mem_take hx)).2.2))
      have hone2 := Lib.hid (cellsX_one w (L.drop (nn + 1)) (fun x hx => (HL.out x (List.mem_of_mem_drop hx)).2.2))
      clear hAS
      go_wp2_with (at_builtin; refine wpList_append_sl rfl (.tmp 89) (.tmp 92) 27 rfl 44 i0 z0 38 432 Tryz.underlying27 hi hz0 hz1 hz2 hz3 (by decide) w.heap.size _ _ _ rfl hmade.out _ _ _ rfl hsrcP.out hone1.out ?_ ?_ ?_ ?_)
      ·unfold maxLen; omega
      ·omega
      ·simp; omega
      intro rv w10 hown10 hgr10 hnew10
      have b10 : Below w8.heap.size w8 w10 := ((Below.refl _ _).alloc (Nat.le_refl _) _).grown hgr10 (by simp) (fun k hk => by simp [Value.ownBlock] at hk; omega)
      have hfr : Hid (∀ j, rv.ownBlock = some j → w8.heap.size ≤ j) := fun j hj => by
       rcases hnew10 with e | e
       ·rw [e] at hj; simp [Value.ownBlock] at hj; omega
       ·have := e j hj; omega
      have B10 := Lib.hid b10
      have SL10 : Hid (Sl w10 w.heap.size 38 rv nn (cellsX (L.take nn))) := by
       show Sl _ _ _ _ _ _
       simpa using hown10
      have C10 := Lib.hid (C8.out.below b10)
      have hsrcS : Hid (SrcIs w10 38 (.slice (some AS) (L.length - (nn + 1)) (capw - (nn + 1))) (L.length - (nn + 1)) (cellsX (L.drop (nn + 1)))) := by
       have := srcXA (w := w10) (g := gw) (off := offw) (k := nn + 1) (cap := capw) (n := L.length) (L := L) (fun j u hu => (b10.cell (p := ⟨gw, offw + j, none⟩) (World.block_lt_of_cell? w8 _ (HS8.out j u hu))).trans (HS8.out j u hu)) rfl (by omega) hcapw
       rw [HAS.out] at this
       exact this
      have hgb10 := C10.out.bel.size
      obtain ⟨ar, capr, hrv, _⟩ := SL10.out.form
      subst hrv
      clear hown10 hgr10 hnew10 b10 hmade hsrcP hslP C10
      go_wp2_with (at_builtin; refine wpList_append_sl rfl (.tmp 94) (.tmp 98) 27 rfl 44 i0 z0 38 432 Tryz.underlying27 hi hz0 hz1 hz2 hz3 (by decide) w.heap.size _ _ _ rfl SL10.out _ _ _ rfl hsrcS.out hone2.out ?_ ?_ ?_ ?_)
      ·unfold maxLen; omega
      ·omega
      ·omega
      intro wv' w11 hown hgr hnew
      have b11 : Below w8.heap.size w8 w11 := B10.out.grown hgr B10.out.size (fun k hk => hfr.out k hk)
      have C11 : Hid (KsW w w11 pb lv6 wv' (L.eraseIdx nn)) := C8.out.put (Keeps.below _ b11) (by
        rw [HER.out, HEL.out, show L.length - 1 = nn + (L.length - (nn + 1)) by omega]
        exact hown) (fun j hj => .inr (by
        rcases hnew with e | e
        ·exact hfr.out j (e ▸ hj)
        ·exact Nat.le_trans B10.out.size (e j hj)))
      obtain ⟨aw9, capw9, hwv9, _⟩ := C11.out.s.form
      have hwv9' : wv' = .slice aw9 (nn + (L.length - (nn + 1))) capw9 := by rw [HEL.out] at hwv9; rw [hwv9]; congr 1; omega
      clear hwv9
      subst hwv9'
      clear hown hgr hnew SL10 hsrcS b11 B10 C8
      have HL9 : Hid (∀ x ∈ L.eraseIdx nn, Wi.good x.m = true ∧ MxOk x ∧ MsgAt w x.m x.v) := fun x hx => HL.out x (List.mem_of_mem_eraseIdx hx)
      go_wp2
      go_roundw
      case rel => exact ⟨j + 1, lv6, L.eraseIdx nn, by go_num, by omega, by omega, by rw [HEL.out]; omega, HL9.out, C11.out⟩
      case measure => simp [intOf]; omega
     ·go_upto_region 13 with (fail)
      go_cut [59] (fun t wz => t = .bool false ∧ wz = wr)
      case first =>
       by_cases hkl : j < zs.length
       ·have hkli : (j : Int) < (zs.length : Int) := by omega
        by_cases hkm : j < 100
        ·have hkmi : (j : Int) < 100 := by omega
         have hpn : ¬ 0 < L.length := by omega
         go_wp2
         go_meet
         case rel => exact ⟨by first | rfl | rw [decide_eq_false hpn], rfl⟩
        ·have hkmi : ¬ ((j : Int) < 100) := by omega
         go_wp2
         go_meet
         case rel => exact ⟨rfl, rfl⟩
       ·have hkli : ¬ ((j : Int) < (zs.length : Int)) := by omega
        go_wp2
        go_meet
        case rel => exact ⟨rfl, rfl⟩
      case rest =>
       obtain ⟨rfl, hwc⟩ := hcut
       have hwc' := hwc.symm
       clear hwc
       subst hwc'
       have HLN := bagLen_any w.heap.size pb lv _ wr CK.out.h
       rw [itsX_len] at HLN
       have HLL := Lib.hid HLN
       clear hgo HLN
       go_wp2_with fail
       refine HLL.out.mono ?_
       rintro e w13 ⟨rfl, hw13⟩
       subst hw13
       go_wp2
       go_ret
       exact ⟨by simp, CK.out.bel⟩
end Go.Proofs.YtbljbdjmgogknaaGreatDoor
