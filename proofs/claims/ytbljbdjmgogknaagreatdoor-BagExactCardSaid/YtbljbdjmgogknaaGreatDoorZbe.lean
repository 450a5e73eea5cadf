/-
  Gq: texts of one proof, one behind the other.
  Conditions: none of its own.
-/
import Derived.Test.YtbljbdjmgogknaaGreatDoorZbd
set_option linter.unusedVariables false
set_option linter.unusedSimpArgs false
set_option maxHeartbeats 6400000
set_option maxRecDepth 20000
namespace Go.Proofs.YtbljbdjmgogknaaGreatDoor
open Go.RowKit
def bM (n : Int) : Item := mIt (beatM 1 0 n)
theorem bagPut_y (B pb : Nat) (lv : Value) (l : List Item) (n : Int) (hg : Wi.good (beatM 1 0 n) = true) (n0 : 0 ≤ n) (n1 : n ≤ 1073741824) (hl : l.length < 256) (w : World) (h : BagW w B pb lv l) (hB : B ≤ w.heap.size) (hw : Lw w) :
  Calls Tryz.prog 10 #[.pointer (some ⟨pb,0,none⟩),msgV (beatM 1 0 n) zeroV] w fun e w' => e = .returned (.int .i64 0) ∧ ∃ lv',BagW w' B pb lv' (l ++ [bM n]) ∧ BagK pb lv lv' w w' := by
 refine (bagPut_m ⟨beatM 1 0 n,zeroV⟩ _ rfl B pb lv l w h hB (beat_at 1 0 n w) ⟨beat_ok (by decide) (by decide) n0 n1,fun a n cap e => by injection e with e1 e2 e3; omega⟩ hg hw).mono ?_
 rintro e w' ⟨rfl,lv',h1,h2⟩
 rw [if_pos hl] at h1
 exact ⟨by rw [if_pos hl],lv',h1,h2⟩
theorem beat_take (n : Int) (v : MsgV) (w : World) (h : MsgAt w (beatM 1 0 n) v) : ∃ cs : List Value,msgC (beatM 1 0 n) v = cs ∧ cs[7]? = some (.int .i64 n) ∧
  Hid ((Tryz.prog.info? 44).map (·.size) = some (cs.toArray : Array Value).size) ∧ Hid (((zt0).toArray : Array Value).size = (cs.toArray : Array Value).size) ∧ Hid ((cs.toArray : Array Value).all (·.oneCell') = true) := by
 obtain ⟨cs,hc,_,_,HL,_,HI,HO,_⟩ := mx_cells ⟨beatM 1 0 n,v⟩ w h
 refine ⟨cs,hc,by rw [← hc]; rfl,HI,?_,HO⟩
 rw [Hid,List.size_toArray,List.size_toArray,HL.out]
 rfl
theorem awakeM_any (w : World) (hw : Lw w) : Calls Tryz.prog 7 #[] w fun e w' => e = .returned (.bool true) ∧ Below w.heap.size w w' := by
 have HW := hq' hw
 clear hw
 go_enter Tryz.func7,Tryz.ntmps7
 go_wp2_with fail
 refine (bagNew_any w).mono ?_
 rintro e w0 ⟨rfl,h,hb⟩
 have H0 := hq' h
 have B0 := hq' hb
 clear h hb
 obtain ⟨pb,hpb⟩ : ∃ pb,pb = w.heap.size := ⟨_,rfl⟩
 have H0' : Hid (BagW w0 w.heap.size pb (.slice none 0 0) []) := by rw [hpb]; exact H0.out
 rw [← hpb]
 clear H0
 have H0 := H0'
 clear H0'
 have HPB := hq' hpb
 clear hpb
 go_upto_region 2 with (fail)
 go_wp2_with fail
 refine (beat_any 1 _).mono ?_
 rintro e w0b ⟨rfl,hb⟩
 have H0b := hq' (H0.out.below hb)
 have B0b := hq' (blw B0.out hb)
 clear hb
 go_wp2_with fail
 refine (bagPut_y w.heap.size pb _ [] 1 (by decide +kernel) (by decide) (by decide) (by decide) w0b H0b.out B0b.out.size (HW.out.below B0b.out)).mono ?_
 rintro e w1 ⟨rfl,lv1,h,hb⟩
 have H1 := hq' h
 have B1 := hq' (B0b.out.trans (hb.below H0b.out B0b.out.size))
 clear h hb H0 B0 H0b B0b
 go_upto_region 3 with (fail)
 go_wp2_with fail
 refine (beat_any 2 _).mono ?_
 rintro e w1b ⟨rfl,hb⟩
 have H1b := hq' (H1.out.below hb)
 have B1b := hq' (blw B1.out hb)
 clear hb
 go_wp2_with fail
 refine (bagPut_y w.heap.size pb _ [bM 1] 2 (by decide +kernel) (by decide) (by decide) (by decide) w1b H1b.out B1b.out.size (HW.out.below B1b.out)).mono ?_
 rintro e w2 ⟨rfl,lv2,h,hb⟩
 have H2 := hq' h
 have B2 := hq' (B1b.out.trans (hb.below H1b.out B1b.out.size))
 clear h hb H1 B1 H1b B1b
 go_upto_region 4 with (fail)
 go_wp2_with fail
 refine (beat_any 3 _).mono ?_
 rintro e w2b ⟨rfl,hb⟩
 have H2b := hq' (H2.out.below hb)
 have B2b := hq' (blw B2.out hb)
 clear hb
 go_wp2_with fail
 refine (bagPut_y w.heap.size pb _ [bM 1,bM 2] 3 (by decide +kernel) (by decide) (by decide) (by decide) w2b H2b.out B2b.out.size (HW.out.below B2b.out)).mono ?_
 rintro e w3 ⟨rfl,lv3,h,hb⟩
 have H3 := hq' h
 have B3 := hq' (B2b.out.trans (hb.below H2b.out B2b.out.size))
 clear h hb H2 B2 H2b B2b
 go_upto_region 5 with (fail)
 have HTT := hq' (bagTake_m w.heap.size pb _ [bM 1,bM 2,bM 3] 1 (beatM 1 0 2) rfl (by decide +kernel) w3 H3.out B3.out.size (HW.out.below B3.out))
 unfold TkPost at HTT
 go_wp2_with fail
 refine HTT.out.mono ?_
 rintro e w4 ⟨v2,lv4,rfl,hat,_,h,hb⟩
 obtain ⟨cs2,hc2,h27,HIA2,HSZ2,HON2⟩ := beat_take 2 v2 w4 hat
 rw [hc2]
 clear hat hc2
 have H4 : Hid (BagW w4 w.heap.size pb lv4 [bM 1,bM 3]) := hq' h
 clear HTT
 have B4 := hq' (B3.out.trans (hb.below H3.out B3.out.size))
 have CM4 : Hid ((w4.alloc (.cells (zt0).toArray 44)).heap[w4.heap.size]? = some (.cells (zt0).toArray 44 (0,0))) := Cl.new w4 (zt0) _
 clear h hb
 go_upto_region 6 with (refine wpList_store_row (by rfl) _ _ _ (by rfl) w4.heap.size cs2.toArray (by rfl) (by rfl) 44 _ CM4.out HIA2.out HSZ2.out HON2.out ?_)
 have C1 : Hid (Cl ((w4.alloc (.cells (zt0).toArray 44)).setRow w4.heap.size cs2.toArray) w4.heap.size cs2 44) := by
  have := Cl.row (Cl.new w4 (zt0) 44) cs2.toArray
  rwa [List.toList_toArray] at this
 have K1 : Hid (Below w4.heap.size w4 ((w4.alloc (.cells (zt0).toArray 44)).setRow w4.heap.size cs2.toArray)) := ((Below.refl _ _).alloc (Nat.le_refl _) _).trans ((Keeps.row (S := fun j => j = w4.heap.size) _ w4.heap.size _ rfl).toBelow (by simp) (fun k hk e => by omega))
 generalize (w4.alloc (.cells (zt0).toArray 44)).setRow w4.heap.size cs2.toArray = w5 at *
 have A1 := hq' (H4.out.apart (p := w4.heap.size) (Nat.le_refl _))
 have H5 := hq' (H4.out.below K1.out)
 have B5 := hq' (blw B4.out K1.out)
 clear CM4 H4 B4 K1
 obtain ⟨p1,hp1⟩ : ∃ p,p = w4.heap.size := ⟨_,rfl⟩
 rw [← hp1] at C1 A1 ⊢
 have HP1 := hq' hp1
 clear hp1
 go_upto_region 6 with (fail)
 have HCO : Hid (Calls Tryz.prog 15 #[.pointer (some ⟨pb,0,none⟩),.int .i64 0] w5 (CopyPost w.heap.size pb lv4 [bM 1,bM 3,bM 1] w5)) := hq' (bagCopy_any w.heap.size pb _ [bM 1,bM 3] 0 (bM 1) rfl (by decide) w5 H5.out B5.out.size)
 go_wp2_with fail
 refine HCO.out.mono ?_
 rintro e w6 ⟨rfl,lv6,h,hb⟩
 have H6 := hq' h
 have B6 := hq' (B5.out.trans (hb.below H5.out B5.out.size))
 have C6 := hq' (A1.out.cl hb C1.out)
 have A6 := hq' (A1.out.next hb C1.out.lt)
 clear h hb HCO H5 B5 C1 A1
 go_upto_region 7 with (fail)
 have HTT := hq' (bagTake_m w.heap.size pb _ [bM 1,bM 3,bM 1] 2 (beatM 1 0 1) rfl (by decide +kernel) w6 H6.out B6.out.size (HW.out.below B6.out))
 unfold TkPost at HTT
 go_wp2_with fail
 refine HTT.out.mono ?_
 rintro e w7 ⟨v1,lv7,rfl,hat,_,h,hb⟩
 obtain ⟨cs1,hc1,h17,HIA1,HSZ1,HON1⟩ := beat_take 1 v1 w7 hat
 rw [hc1]
 clear hat hc1
 have H7 : Hid (BagW w7 w.heap.size pb lv7 [bM 1,bM 3]) := hq' h
 clear HTT
 have B7 := hq' (B6.out.trans (hb.below H6.out B6.out.size))
 have C7 := hq' (A6.out.cl hb C6.out)
 have CM7 : Hid ((w7.alloc (.cells (zt0).toArray 44)).heap[w7.heap.size]? = some (.cells (zt0).toArray 44 (0,0))) := Cl.new w7 (zt0) _
 clear h hb
 go_upto_region 8 with (refine wpList_store_row (by rfl) _ _ _ (by rfl) w7.heap.size cs1.toArray (by rfl) (by rfl) 44 _ CM7.out HIA1.out HSZ1.out HON1.out ?_)
 have C2 : Hid (Cl ((w7.alloc (.cells (zt0).toArray 44)).setRow w7.heap.size cs1.toArray) w7.heap.size cs1 44) := by
  have := Cl.row (Cl.new w7 (zt0) 44) cs1.toArray
  rwa [List.toList_toArray] at this
 have K2 : Hid (Below w7.heap.size w7 ((w7.alloc (.cells (zt0).toArray 44)).setRow w7.heap.size cs1.toArray)) := ((Below.refl _ _).alloc (Nat.le_refl _) _).trans ((Keeps.row (S := fun j => j = w7.heap.size) _ w7.heap.size _ rfl).toBelow (by simp) (fun k hk e => by omega))
 generalize (w7.alloc (.cells (zt0).toArray 44)).setRow w7.heap.size cs1.toArray = w8 at *
 have A2 := hq' (H7.out.apart (p := w7.heap.size) (Nat.le_refl _))
 have H8 := hq' (H7.out.below K2.out)
 have B8 := hq' (blw B7.out K2.out)
 have C8 := hq' (C7.out.below K2.out)
 clear CM7 H7 B7 K2
 obtain ⟨p2,hp2⟩ : ∃ p,p = w7.heap.size := ⟨_,rfl⟩
 rw [← hp2] at C2 A2 ⊢
 have HP2 := hq' hp2
 clear hp2
 have m7 : w8.cell? ⟨p1,7,none⟩ = some (.int .i64 2) := (C8.out.cell 7).trans h27
 have l7 : w8.cell? ⟨p2,7,none⟩ = some (.int .i64 1) := (C2.out.cell 7).trans h17
 have HL : Hid (Calls Tryz.prog 19 #[.pointer (some ⟨pb,0,none⟩)] w8 fun e w' => e = .returned (.int .i64 2) ∧ w' = w8) := hq' (bagLen_any _ _ _ _ w8 H8.out)
 have HP := hq' (bagPut_zero _ _ _ _ w8 H8.out B8.out.size)
 go_upto_region 8 with (fail)
 go_wp2_with fail
 refine HL.out.mono ?_
 rintro e w9 ⟨rfl,hw9⟩
 subst hw9
 go_wp2_with fail
 refine HP.out.mono ?_
 rintro e w10 ⟨rfl,_,hb⟩
 have BZ := hq' (blw B8.out hb)
 clear hb
 go_wp2
 go_ret
 exact ⟨rfl,BZ.out⟩
end Go.Proofs.YtbljbdjmgogknaaGreatDoor
