/-
  Wf8 / Wf9 / Wfa / Wu1 / Wu2 / Cwg / Cwf: texts of one proof, one behind the other.
  Conditions: none of its own.
-/
import Derived.Test.YtbljbdjmgogknaaGreatDoorZau
import Derived.Lib.SlicesMore
set_option linter.unusedVariables false
set_option linter.unusedSimpArgs false
set_option maxHeartbeats 6400000
set_option maxRecDepth 20000
namespace Go.Proofs.YtbljbdjmgogknaaGreatDoor
open Go.RowKit
theorem wfields_k8 (m : Wi.Msg) (v : MsgV) (w : World) (h : MsgAt w m v) (ok : MsgOk m) (hk : m.kind = 8) (hg : Wi.good m = true) (hw : Lw w) :
  Calls Tryz.prog 47 #[msgV m v] w (WStrs w (Wi.fieldsL m)) := by
 have HW := hq' hw
 have HM := hq' h
 have HO := hq' ok
 have hn := ok.n
 simp only [List.mem_cons,List.not_mem_nil,or_false,forall_eq_or_imp,forall_eq] at hn
 obtain ⟨n0,n1,n2,n3,n4,n5,n6,n7,_⟩ := hn
 obtain ⟨i0,hi,hz0,hz1,hz2⟩ := info_parts cinfoStr
 obtain ⟨s0,c0,s1,c1,s2,c2,s3,c3,s4,c4,s5,c5,s6,c6,rfl⟩ := h.slices
 obtain ⟨x_kind,x_frm,x_to,x_part,x_ep,x_off,x_high,x_life,x_pep,x_chain,x_learner,x_lives,x_batch,x_table,x_req,x_resp⟩ := m
 dsimp only at *
 subst hk
 have GB : Hid (Wi.tableB x_table = true) := by have := hg; simp [Wi.good,Wi.lastB] at this; exact this.2
 have HEL : Hid ((Wi.encTable x_table).length ≤ 140737488355328) := Nat.le_trans (Wi.encTable_le GB.out) (by decide)
 clear h ok hw hg
 have HFM : Hid (Wi.fieldsL ⟨8,x_frm,x_to,x_part,x_ep,x_off,x_high,x_life,x_pep,x_chain,x_learner,x_lives,x_batch,x_table,x_req,x_resp⟩ = [8,x_frm,x_to].map Bd.bInt ++ [x_part,x_ep].map Bd.bInt ++ [Bd.bInt x_off,Bd.bText (Wi.encTable x_table)]) := by rw [Hid]; simp [Wi.fieldsL,Wi.headL,Wi.tailL]
 unfold msgV msgC
 dsimp only
 go_enter Tryz.func47,Tryz.ntmps47
 obtain ⟨w1,hw1,CA,B1⟩ := oneBox (w := w) (.int .i64 8::.int .i64 x_frm::.int .i64 x_to::xt x_part x_ep x_off x_high x_life x_pep x_chain x_learner x_lives x_batch x_table x_req x_resp s0 c0 s1 c1 s2 c2 s3 c3 s4 c4 s5 c5 s6 c6) 44
 have HW1 := hq' hw1
 clear hw1
 go_upto_region 1 with (fail)
 first | rw [HW1.out] | skip
 clear HW1
 have hpa := CA.out.lt
 have HI : Hid (∀ W,Below w1.heap.size w1 W → w1.heap.size ≤ W.heap.size) := fun W h => h.size
 have BW : Hid (∀ W,Below w1.heap.size w1 W → Below w.heap.size w W) := fun W h => bt B1.out h
 have LW1 := hq' (HW.out.below B1.out)
 have HSW : Hid (w.heap.size ≤ w1.heap.size) := B1.out.size
 have B0 : Hid (Below w1.heap.size w1 w1) := Below.refl _ _
 obtain ⟨pa,hpa2⟩ : ∃ pa,pa = w.heap.size := ⟨_,rfl⟩
 rw [← hpa2] at CA ⊢
 have HPA := hq' hpa2
 clear hpa2 hpa
 have CX := hq' (CA.out.below B0.out)
 have a0 := CX.out.cell 0
 have a1 := CX.out.cell 1
 have a2 := CX.out.cell 2
 simp only [g0',gs'] at a0 a1 a2
 have C1 : Hid (Cl (w1.alloc (.cells #[.int .i64 8,.int .i64 x_frm,.int .i64 x_to] 3)) w1.heap.size [.int .i64 8,.int .i64 x_frm,.int .i64 x_to] 3) := Cl.new w1 _ _
 have D1 : Hid (Below w1.heap.size w1 (w1.alloc (.cells #[.int .i64 8,.int .i64 x_frm,.int .i64 x_to] 3))) := (Below.refl _ _).alloc (Nat.le_refl _) _
 have HC1 := hq' (wints_any [8,x_frm,x_to] (by simp) (by simp only [List.mem_cons,List.not_mem_nil,or_false,forall_eq_or_imp,forall_eq]; exact ⟨n0,n1,n2⟩) _ _ (ints3_cl C1.out) (LW1.out.below (bt B0.out D1.out)))
 go_wp2_with fail
 refine HC1.out.mono ?_
 rintro e w11 ⟨v11,rfl,ho1,hb1⟩
 have B10 := hq' (bt D1.out hb1)
 have B1 := hq' (bt B0.out B10.out)
 have hs1 := HI.out _ B1.out
 have HR1 := hq' (ownsRow_weaken ho1 (show w1.heap.size ≤ (w1.alloc (.cells #[.int .i64 8,.int .i64 x_frm,.int .i64 x_to] 3)).heap.size by have := HI.out _ (bt B0.out D1.out); exact this))
 clear hb1 ho1 HC1 C1 D1
 clear CX a0 a1 a2
 have kx := (CA.out.below B1.out).cell 0
 simp only [g0',gs'] at kx
 have CX := hq' (CA.out.below B1.out)
 have a3 := CX.out.cell 3
 have a4 := CX.out.cell 4
 simp only [g0',gs'] at a3 a4
 have C2 : Hid (Cl (w11.alloc (.cells #[.int .i64 x_part,.int .i64 x_ep] 3)) w11.heap.size [.int .i64 x_part,.int .i64 x_ep] 3) := Cl.new w11 _ _
 have D2 : Hid (Below w11.heap.size w11 (w11.alloc (.cells #[.int .i64 x_part,.int .i64 x_ep] 3))) := (Below.refl _ _).alloc (Nat.le_refl _) _
 have HC2 := hq' (wints_any [x_part,x_ep] (by simp) (by simp only [List.mem_cons,List.not_mem_nil,or_false,forall_eq_or_imp,forall_eq]; exact ⟨n3,n4⟩) _ _ (ints2_cl C2.out) (LW1.out.below (bt B1.out D2.out)))
 go_wp2_with fail
 refine HC2.out.mono ?_
 rintro e w12 ⟨v12,rfl,ho2,hb2⟩
 have B20 := hq' (bt D2.out hb2)
 have B2 := hq' (bt B1.out B20.out)
 have hs2 := HI.out _ B2.out
 have HR2 := hq' (ownsRow_weaken ho2 (show w1.heap.size ≤ (w11.alloc (.cells #[.int .i64 x_part,.int .i64 x_ep] 3)).heap.size by have := HI.out _ (bt B1.out D2.out); exact this))
 clear hb2 ho2 HC2 C2 D2
 clear CX a3 a4
 have HO2 := hq' (ownsRow_below HR1.out B20.out)
 clear HR1
 clear kx
 have HS3 := hq' (own_slice HR2.out (by simp))
 obtain ⟨g3,cap3,hv3,hc3⟩ := HS3.out
 subst hv3
 clear HS3
 go_wp2_with (at_builtin; refine wpList_append_own _ rfl _ _ 93 rfl w1.heap.size 9 i0 (.string ⟨#[]⟩) 1 16 Tryz.underlying93 hi hz0 hz1 hz2 rfl (by decide) _ _ _ rfl HO2.out ⟨g3,0,none⟩ _ _ (sv ([x_part,x_ep].map Bd.bInt)) rfl (by simp [sv]) hc3 ?_ ?_ ?_ ?_ ?_)
 ·simp [sv,Value.oneCell']
 ·unfold maxLen; simp
 ·simp
 ·omega
 intro v13 w13 hown3 hg3 _
 have HO3 : Hid (w13.ownsRow w1.heap.size 9 1 v13 (([8,x_frm,x_to].map Bd.bInt) ++ ([x_part,x_ep].map Bd.bInt)).length (sv (([8,x_frm,x_to].map Bd.bInt) ++ ([x_part,x_ep].map Bd.bInt)))) := by rw [Hid,sv_append]; exact hown3
 have B3 : Hid (Below w1.heap.size w1 w13) := B2.out.grown hg3 B2.out.size (fun kk hkk => (HO2.out.lt kk hkk).1)
 clear hown3 hg3 hc3
 have kx := (CA.out.below B3.out).cell 0
 simp only [g0',gs'] at kx
 have CX := hq' (CA.out.below B3.out)
 have a18 := CX.out.cell 18
 simp only [g0',gs'] at a18
 have LW4 := hq' (LW1.out.below B3.out)
 have HJ4 := hq' (lenc_yes x_table HO.out.t _ w13 (HM.out.kept (BW.out _ B3.out)).table LW4.out GB.out)
 go_wp2_with fail
 refine HJ4.out.mono ?_
 rintro e w14 ⟨rfl,hb4⟩
 have HO4 := hq' (ownsRow_below HO3.out hb4)
 have B4 := hq' (bt B3.out hb4)
 have hs4 := HI.out _ B4.out
 clear hb4 HJ4 HO3
 clear CX a18
 clear kx
 have CX := hq' (CA.out.below B4.out)
 have a5 := CX.out.cell 5
 simp only [g0',gs'] at a5
 have LW6 := hq' (LW1.out.below B4.out)
 have HJ6 := hq' (beadInt_any x_off n5 w14 LW6.out)
 generalize hbl6 : Bd.bInt x_off = bl6 at HJ6 HFM
 clear hbl6
 go_wp2_with fail
 refine HJ6.out.mono ?_
 rintro e w16 ⟨rfl,hb6⟩
 have HO6 := hq' (ownsRow_below HO4.out hb6)
 have B6 := hq' (bt B4.out hb6)
 have hs6 := HI.out _ B6.out
 clear hb6 HJ6 HO4
 clear CX a5
 have LW7 := hq' (LW1.out.below B6.out)
 have HJ7 := hq' (beadText_any (Wi.encTable x_table) HEL.out w16 LW7.out)
 generalize hbl7 : Bd.bText (Wi.encTable x_table) = bl7 at HJ7 HFM
 clear hbl7
 go_wp2_with fail
 refine HJ7.out.mono ?_
 rintro e w17 ⟨rfl,hb7⟩
 have HO7 := hq' (ownsRow_below HO6.out hb7)
 have B7 := hq' (bt B6.out hb7)
 have hs7 := HI.out _ B7.out
 clear hb7 HJ7 HO6
 go_wp2_with (at_builtin; refine wpList_append_own _ rfl _ _ 93 rfl w1.heap.size 9 i0 (.string ⟨#[]⟩) 1 16 Tryz.underlying93 hi hz0 hz1 hz2 rfl (by decide) _ _ _ rfl (World.ownsRow.alloc HO7.out _) ⟨w17.heap.size,0,none⟩ 2 2 [.string ⟨bl6.toArray⟩,.string ⟨bl7.toArray⟩] rfl rfl (cells_new _ [bl6,bl7] _) ?_ ?_ ?_ ?_ ?_)
 ·simp [Value.oneCell']
 ·unfold maxLen; simp
 ·simp
 ·simp; omega
 intro v25 w25 hown5 hg5 _
 have HO5 : Hid (w25.ownsRow w1.heap.size 9 1 v25 ((([8,x_frm,x_to].map Bd.bInt) ++ ([x_part,x_ep].map Bd.bInt)) ++ [bl6,bl7]).length (sv ((([8,x_frm,x_to].map Bd.bInt) ++ ([x_part,x_ep].map Bd.bInt)) ++ [bl6,bl7]))) := by rw [Hid,sv_append]; exact hown5
 have B5 : Hid (Below w1.heap.size w1 w25) := (B7.out.alloc hs7 _).grown hg5 (by simp; omega) (fun kk hkk => (HO7.out.lt kk hkk).1)
 clear hown5 hg5 HO7
 go_wp2
 go_ret
 refine ⟨_,rfl,?_,BW.out _ B5.out⟩
 rw [HFM.out]
 exact ownsRow_weaken HO5.out HSW.out
theorem wfields_k9 (m : Wi.Msg) (v : MsgV) (w : World) (h : MsgAt w m v) (ok : MsgOk m) (hk : m.kind = 9) (hg : Wi.good m = true) (hw : Lw w) :
  Calls Tryz.prog 47 #[msgV m v] w (WStrs w (Wi.fieldsL m)) := by
 have HW := hq' hw
 have HM := hq' h
 have HO := hq' ok
 have hn := ok.n
 simp only [List.mem_cons,List.not_mem_nil,or_false,forall_eq_or_imp,forall_eq] at hn
 obtain ⟨n0,n1,n2,n3,n4,n5,n6,n7,_⟩ := hn
 obtain ⟨i0,hi,hz0,hz1,hz2⟩ := info_parts cinfoStr
 obtain ⟨s0,c0,s1,c1,s2,c2,s3,c3,s4,c4,s5,c5,s6,c6,rfl⟩ := h.slices
 obtain ⟨x_kind,x_frm,x_to,x_part,x_ep,x_off,x_high,x_life,x_pep,x_chain,x_learner,x_lives,x_batch,x_table,x_req,x_resp⟩ := m
 dsimp only at *
 subst hk
 clear h ok hw hg
 have HFM : Hid (Wi.fieldsL ⟨9,x_frm,x_to,x_part,x_ep,x_off,x_high,x_life,x_pep,x_chain,x_learner,x_lives,x_batch,x_table,x_req,x_resp⟩ = [9,x_frm,x_to].map Bd.bInt ++ [x_part,x_ep].map Bd.bInt ++ [Bd.bInt x_off]) := by rw [Hid]; simp [Wi.fieldsL,Wi.headL,Wi.tailL]
 unfold msgV msgC
 dsimp only
 go_enter Tryz.func47,Tryz.ntmps47
 obtain ⟨w1,hw1,CA,B1⟩ := oneBox (w := w) (.int .i64 9::.int .i64 x_frm::.int .i64 x_to::xt x_part x_ep x_off x_high x_life x_pep x_chain x_learner x_lives x_batch x_table x_req x_resp s0 c0 s1 c1 s2 c2 s3 c3 s4 c4 s5 c5 s6 c6) 44
 have HW1 := hq' hw1
 clear hw1
 go_upto_region 1 with (fail)
 first | rw [HW1.out] | skip
 clear HW1
 have hpa := CA.out.lt
 have HI : Hid (∀ W,Below w1.heap.size w1 W → w1.heap.size ≤ W.heap.size) := fun W h => h.size
 have BW : Hid (∀ W,Below w1.heap.size w1 W → Below w.heap.size w W) := fun W h => bt B1.out h
 have LW1 := hq' (HW.out.below B1.out)
 have HSW : Hid (w.heap.size ≤ w1.heap.size) := B1.out.size
 have B0 : Hid (Below w1.heap.size w1 w1) := Below.refl _ _
 obtain ⟨pa,hpa2⟩ : ∃ pa,pa = w.heap.size := ⟨_,rfl⟩
 rw [← hpa2] at CA ⊢
 have HPA := hq' hpa2
 clear hpa2 hpa
 have CX := hq' (CA.out.below B0.out)
 have a0 := CX.out.cell 0
 have a1 := CX.out.cell 1
 have a2 := CX.out.cell 2
 simp only [g0',gs'] at a0 a1 a2
 have C1 : Hid (Cl (w1.alloc (.cells #[.int .i64 9,.int .i64 x_frm,.int .i64 x_to] 3)) w1.heap.size [.int .i64 9,.int .i64 x_frm,.int .i64 x_to] 3) := Cl.new w1 _ _
 have D1 : Hid (Below w1.heap.size w1 (w1.alloc (.cells #[.int .i64 9,.int .i64 x_frm,.int .i64 x_to] 3))) := (Below.refl _ _).alloc (Nat.le_refl _) _
 have HC1 := hq' (wints_any [9,x_frm,x_to] (by simp) (by simp only [List.mem_cons,List.not_mem_nil,or_false,forall_eq_or_imp,forall_eq]; exact ⟨n0,n1,n2⟩) _ _ (ints3_cl C1.out) (LW1.out.below (bt B0.out D1.out)))
 go_wp2_with fail
 refine HC1.out.mono ?_
 rintro e w11 ⟨v11,rfl,ho1,hb1⟩
 have B10 := hq' (bt D1.out hb1)
 have B1 := hq' (bt B0.out B10.out)
 have hs1 := HI.out _ B1.out
 have HR1 := hq' (ownsRow_weaken ho1 (show w1.heap.size ≤ (w1.alloc (.cells #[.int .i64 9,.int .i64 x_frm,.int .i64 x_to] 3)).heap.size by have := HI.out _ (bt B0.out D1.out); exact this))
 clear hb1 ho1 HC1 C1 D1
 clear CX a0 a1 a2
 have kx := (CA.out.below B1.out).cell 0
 simp only [g0',gs'] at kx
 have CX := hq' (CA.out.below B1.out)
 have a3 := CX.out.cell 3
 have a4 := CX.out.cell 4
 simp only [g0',gs'] at a3 a4
 have C2 : Hid (Cl (w11.alloc (.cells #[.int .i64 x_part,.int .i64 x_ep] 3)) w11.heap.size [.int .i64 x_part,.int .i64 x_ep] 3) := Cl.new w11 _ _
 have D2 : Hid (Below w11.heap.size w11 (w11.alloc (.cells #[.int .i64 x_part,.int .i64 x_ep] 3))) := (Below.refl _ _).alloc (Nat.le_refl _) _
 have HC2 := hq' (wints_any [x_part,x_ep] (by simp) (by simp only [List.mem_cons,List.not_mem_nil,or_false,forall_eq_or_imp,forall_eq]; exact ⟨n3,n4⟩) _ _ (ints2_cl C2.out) (LW1.out.below (bt B1.out D2.out)))
 go_wp2_with fail
 refine HC2.out.mono ?_
 rintro e w12 ⟨v12,rfl,ho2,hb2⟩
 have B20 := hq' (bt D2.out hb2)
 have B2 := hq' (bt B1.out B20.out)
 have hs2 := HI.out _ B2.out
 have HR2 := hq' (ownsRow_weaken ho2 (show w1.heap.size ≤ (w11.alloc (.cells #[.int .i64 x_part,.int .i64 x_ep] 3)).heap.size by have := HI.out _ (bt B1.out D2.out); exact this))
 clear hb2 ho2 HC2 C2 D2
 clear CX a3 a4
 have HO2 := hq' (ownsRow_below HR1.out B20.out)
 clear HR1
 clear kx
 have HS3 := hq' (own_slice HR2.out (by simp))
 obtain ⟨g3,cap3,hv3,hc3⟩ := HS3.out
 subst hv3
 clear HS3
 go_wp2_with (at_builtin; refine wpList_append_own _ rfl _ _ 93 rfl w1.heap.size 9 i0 (.string ⟨#[]⟩) 1 16 Tryz.underlying93 hi hz0 hz1 hz2 rfl (by decide) _ _ _ rfl HO2.out ⟨g3,0,none⟩ _ _ (sv ([x_part,x_ep].map Bd.bInt)) rfl (by simp [sv]) hc3 ?_ ?_ ?_ ?_ ?_)
 ·simp [sv,Value.oneCell']
 ·unfold maxLen; simp
 ·simp
 ·omega
 intro v13 w13 hown3 hg3 _
 have HO3 : Hid (w13.ownsRow w1.heap.size 9 1 v13 (([9,x_frm,x_to].map Bd.bInt) ++ ([x_part,x_ep].map Bd.bInt)).length (sv (([9,x_frm,x_to].map Bd.bInt) ++ ([x_part,x_ep].map Bd.bInt)))) := by rw [Hid,sv_append]; exact hown3
 have B3 : Hid (Below w1.heap.size w1 w13) := B2.out.grown hg3 B2.out.size (fun kk hkk => (HO2.out.lt kk hkk).1)
 clear hown3 hg3 hc3
 have kx := (CA.out.below B3.out).cell 0
 simp only [g0',gs'] at kx
 have CX := hq' (CA.out.below B3.out)
 have a5 := CX.out.cell 5
 simp only [g0',gs'] at a5
 have LW5 := hq' (LW1.out.below B3.out)
 have HJ5 := hq' (beadInt_any x_off n5 w13 LW5.out)
 generalize hbl5 : Bd.bInt x_off = bl5 at HJ5 HFM
 clear hbl5
 go_wp2_with fail
 refine HJ5.out.mono ?_
 rintro e w15 ⟨rfl,hb5⟩
 have HO5 := hq' (ownsRow_below HO3.out hb5)
 have B5 := hq' (bt B3.out hb5)
 have hs5 := HI.out _ B5.out
 clear hb5 HJ5 HO3
 clear CX a5
 go_wp2_with (at_builtin; refine wpList_append_own _ rfl _ _ 93 rfl w1.heap.size 9 i0 (.string ⟨#[]⟩) 1 16 Tryz.underlying93 hi hz0 hz1 hz2 rfl (by decide) _ _ _ rfl (World.ownsRow.alloc HO5.out _) ⟨w15.heap.size,0,none⟩ 1 1 [.string ⟨bl5.toArray⟩] rfl rfl (cells_new _ [bl5] _) ?_ ?_ ?_ ?_ ?_)
 ·simp [Value.oneCell']
 ·unfold maxLen; simp
 ·simp
 ·simp; omega
 intro v24 w24 hown4 hg4 _
 have HO4 : Hid (w24.ownsRow w1.heap.size 9 1 v24 ((([9,x_frm,x_to].map Bd.bInt) ++ ([x_part,x_ep].map Bd.bInt)) ++ [bl5]).length (sv ((([9,x_frm,x_to].map Bd.bInt) ++ ([x_part,x_ep].map Bd.bInt)) ++ [bl5]))) := by rw [Hid,sv_append]; exact hown4
 have B4 : Hid (Below w1.heap.size w1 w24) := (B5.out.alloc hs5 _).grown hg4 (by simp; omega) (fun kk hkk => (HO5.out.lt kk hkk).1)
 clear hown4 hg4 HO5
 clear kx
 go_wp2
 go_ret
 refine ⟨_,rfl,?_,BW.out _ B4.out⟩
 rw [HFM.out]
 exact ownsRow_weaken HO4.out HSW.out
theorem wfields_any (m : Wi.Msg) (v : MsgV) (w : World) (h : MsgAt w m v) (ok : MsgOk m) (hg : Wi.good m = true) (hw : Lw w) :
  Calls Tryz.prog 47 #[msgV m v] w (WStrs w (Wi.fieldsL m)) := by
 obtain ⟨hk,-⟩ := Wi.good_first hg
 rcases (show m.kind = 1 ∨ m.kind = 2 ∨ m.kind = 3 ∨ m.kind = 4 ∨ m.kind = 5 ∨ m.kind = 6 ∨ m.kind = 7 ∨ m.kind = 8 ∨ m.kind = 9 by omega) with e | e | e | e | e | e | e | e | e
 ·exact wfields_k1 m v w h ok e hg hw
 ·exact wfields_k2 m v w h ok e hg hw
 ·exact wfields_k3 m v w h ok e hg hw
 ·exact wfields_k4 m v w h ok e hg hw
 ·exact wfields_k5 m v w h ok e hg hw
 ·exact wfields_k6 m v w h ok e hg hw
 ·exact wfields_k7 m v w h ok e hg hw
 ·exact wfields_k8 m v w h ok e hg hw
 ·exact wfields_k9 m v w h ok e hg hw
theorem fieldsL_len (m : Wi.Msg) : (Wi.fieldsL m).length ≤ 16 := by
 have h1 : (Wi.headL m).length ≤ 5 := by unfold Wi.headL; split <;> simp
 have h2 : (Wi.tailL m).length ≤ 11 := by unfold Wi.tailL; (repeat' split) <;> simp [Wi.reqNumsL,Wi.respNumsL]
 rw [Wi.fieldsL,List.length_append]; omega
theorem wgood_true (m : Wi.Msg) (v : MsgV) (w : World) (h : MsgAt w m v) (ok : MsgOk m) (hcap : CapOk v.arecs) (hw : Lw w) (hg : Wi.good m = true) :
  Calls Tryz.prog 44 #[msgV m v] w fun e w' => e = .returned (.bool true) ∧ Below w.heap.size w w' := by
 have := wgood_any m v w h ok hcap hw
 rw [hg] at this
 exact this
theorem wencode_of (m : Wi.Msg) (v : MsgV) (w : World) (h : MsgAt w m v) (ok : MsgOk m) (hcap : CapOk v.arecs) (hf : Wi.good m = true) (hw : Lw w) (hfd : ∀ W,Below w.heap.size w W → Calls Tryz.prog 47 #[msgV m v] W (WStrs W (Wi.fieldsL m))) :
  Calls Tryz.prog 23 #[msgV m v] w fun e w' => e = .returned (.tuple #[.string ⟨(Frm.put (Wi.enc m)).toArray⟩,.int .i64 0]) ∧ Below w.heap.size w w' := by
 have HW := hq' hw
 have HM := hq' h
 have HO := hq' ok
 have HF := hq' hf
 have HLN := hq' (Wi.enc_le hf)
 have HCP := hq' hcap
 obtain ⟨s0,c0,s1,c1,s2,c2,s3,c3,s4,c4,s5,c5,s6,c6,rfl⟩ := h.slices
 obtain ⟨x_kind,x_frm,x_to,x_part,x_ep,x_off,x_high,x_life,x_pep,x_chain,x_learner,x_lives,x_batch,x_table,x_req,x_resp⟩ := m
 dsimp only at *
 clear h ok hw hf hcap
 have HI38 := hq' (show (Tryz.prog.info? 44).map (·.size) = some ((.int .i64 x_kind::.int .i64 x_frm::.int .i64 x_to::xt x_part x_ep x_off x_high x_life x_pep x_chain x_learner x_lives x_batch x_table x_req x_resp s0 c0 s1 c1 s2 c2 s3 c3 s4 c4 s5 c5 s6 c6) : List Value).length by kernel_rfl)
 have HU := hq' Tryz.underlying44
 have HG := hq' (fun (W : World) (hW : Below w.heap.size w W) => wgood_true ⟨x_kind,x_frm,x_to,x_part,x_ep,x_off,x_high,x_life,x_pep,x_chain,x_learner,x_lives,x_batch,x_table,x_req,x_resp⟩ ⟨.slice s0 x_chain.length c0,.slice s1 x_lives.length c1,.slice s2 x_batch.recs.length c2,.slice s3 x_table.length c3,.slice s4 x_req.recs.length c4,.slice s5 x_resp.parts.length c5,.slice s6 x_resp.recs.length c6⟩ W (HM.out.kept hW) HO.out HCP.out (HW.out.below hW) HF.out)
 have HFD := hq' hfd
 clear hfd
 have HBL : Hid (∀ W v,Strs W v (Wi.fieldsL ⟨x_kind,x_frm,x_to,x_part,x_ep,x_off,x_high,x_life,x_pep,x_chain,x_learner,x_lives,x_batch,x_table,x_req,x_resp⟩) → Calls Tryz.prog 46 #[v] W fun e w' => e = .returned (.string ⟨(Wi.enc ⟨x_kind,x_frm,x_to,x_part,x_ep,x_off,x_high,x_life,x_pep,x_chain,x_learner,x_lives,x_batch,x_table,x_req,x_resp⟩).toArray⟩) ∧ Below W.heap.size W w') := fun W v hv => by
  have h1 : (Wi.listB (Wi.fieldsL ⟨x_kind,x_frm,x_to,x_part,x_ep,x_off,x_high,x_life,x_pep,x_chain,x_learner,x_lives,x_batch,x_table,x_req,x_resp⟩).flatten).length ≤ 16384 := HLN.out
  unfold Wi.listB at h1
  simp only [List.length_cons,List.length_append] at h1
  exact beadList_any v _ W hv (Nat.le_trans (fieldsL_len _) (by decide)) (by omega)
 have HPT := hq' (fun (W : World) => put_any (Wi.enc ⟨x_kind,x_frm,x_to,x_part,x_ep,x_off,x_high,x_life,x_pep,x_chain,x_learner,x_lives,x_batch,x_table,x_req,x_resp⟩) W HLN.out)
 generalize Wi.enc ⟨x_kind,x_frm,x_to,x_part,x_ep,x_off,x_high,x_life,x_pep,x_chain,x_learner,x_lives,x_batch,x_table,x_req,x_resp⟩ = bb at *
 generalize hbf : Wi.fieldsL ⟨x_kind,x_frm,x_to,x_part,x_ep,x_off,x_high,x_life,x_pep,x_chain,x_learner,x_lives,x_batch,x_table,x_req,x_resp⟩ = bf at *
 clear hbf HLN HF
 unfold msgV msgC at HG HFD ⊢
 dsimp only at HG HFD ⊢
 go_enter Tryz.func23,Tryz.ntmps23
 obtain ⟨w1,hw1,CA,B1⟩ := oneBox (w := w) (.int .i64 x_kind::.int .i64 x_frm::.int .i64 x_to::xt x_part x_ep x_off x_high x_life x_pep x_chain x_learner x_lives x_batch x_table x_req x_resp s0 c0 s1 c1 s2 c2 s3 c3 s4 c4 s5 c5 s6 c6) 44
 have HW1 := hq' hw1
 clear hw1
 go_upto_region 1 with (fail)
 first | rw [HW1.out] | skip
 clear HW1
 have BW : Hid (∀ W,Below w1.heap.size w1 W → Below w.heap.size w W) := fun W h => bt B1.out h
 obtain ⟨pa,hpa2⟩ : ∃ pa,pa = w.heap.size := ⟨_,rfl⟩
 rw [← hpa2] at CA
 first | rw [← hpa2] | skip
 have HPA := hq' hpa2
 clear hpa2
 have R1 := hq' CA.out.range
 go_wp2_with (refine wpList_load_mid (by rfl) _ _ (by rfl) pa 0 (by rfl) (.int .i64 x_kind::.int .i64 x_frm::.int .i64 x_to::xt x_part x_ep x_off x_high x_life x_pep x_chain x_learner x_lives x_batch x_table x_req x_resp s0 c0 s1 c1 s2 c2 s3 c3 s4 c4 s5 c5 s6 c6) _ R1.out HU.out (by rfl) HI38.out ?_)
 refine (HG.out _ B1.out).mono ?_
 rintro e w2 ⟨rfl,hb2⟩
 have B2 := hq' (bt B1.out hb2)
 have R2 := hq' (CA.out.below hb2).range
 clear hb2 R1 HG
 go_wp2_with (refine wpList_load_mid (by rfl) _ _ (by rfl) pa 0 (by rfl) (.int .i64 x_kind::.int .i64 x_frm::.int .i64 x_to::xt x_part x_ep x_off x_high x_life x_pep x_chain x_learner x_lives x_batch x_table x_req x_resp s0 c0 s1 c1 s2 c2 s3 c3 s4 c4 s5 c5 s6 c6) _ R2.out HU.out (by rfl) HI38.out ?_)
 refine (HFD.out _ B2.out).mono ?_
 rintro e w3 ⟨v3,rfl,ho3,hb3⟩
 have B3 := hq' (bt B2.out hb3)
 have S3 := hq' (strs_own ho3)
 clear hb3 ho3 R2 HFD
 go_wp2_with fail
 refine (HBL.out _ _ S3.out).mono ?_
 rintro e w4 ⟨rfl,hb4⟩
 have B4 := hq' (bt B3.out hb4)
 clear hb4 S3 HBL
 go_wp2_with fail
 refine (HPT.out _).mono ?_
 rintro e w5 ⟨rfl,hb5⟩
 have B5 := hq' (bt B4.out hb5)
 clear hb5 HPT
 go_wp2
 go_ret2
 exact ⟨rfl,B5.out⟩
theorem wencode_yes (m : Wi.Msg) (v : MsgV) (w : World) (h : MsgAt w m v) (ok : MsgOk m) (hcap : CapOk v.arecs) (hf : Wi.good m = true) (hw : Lw w) :
  Calls Tryz.prog 23 #[msgV m v] w fun e w' => e = .returned (.tuple #[.string ⟨(Frm.put (Wi.enc m)).toArray⟩,.int .i64 0]) ∧ Below w.heap.size w w' :=
 wencode_of m v w h ok hcap hf hw (fun W hW => wfields_any m v W (h.kept hW) ok hf (hw.below hW))
def wencR (m : Wi.Msg) : Value := if Wi.good m then .tuple #[.string ⟨(Frm.put (Wi.enc m)).toArray⟩,.int .i64 0] else .tuple #[.string ⟨#[]⟩,.int .i64 1]
theorem wencode_any (m : Wi.Msg) (v : MsgV) (w : World) (h : MsgAt w m v) (ok : MsgOk m) (hcap : CapOk v.arecs) (hw : Lw w) :
  Calls Tryz.prog 23 #[msgV m v] w fun e w' => e = .returned (wencR m) ∧ Below w.heap.size w w' := by
 unfold wencR
 cases hg : Wi.good m
 ·refine encode_no (msgC m v) rfl w fun W hW => ?_
  have := wgood_any m v W (h.kept hW) ok hcap (hw.below hW)
  rw [hg] at this
  exact this
 ·exact wencode_yes m v w h ok hcap hg hw
theorem recInfo : (Tryz.prog.info? 67).map (fun i => (i.zero,i.size,i.bytes)) = some (some (.agg #[.int .i64 0,.string ⟨#[]⟩,.string ⟨#[]⟩,.bool false]),4,48) := by kernel_rfl
def recCells (l : List Cr.Rec) : List Value := l.flatMap fun x => [.int .i64 x.off,.string ⟨x.key.toArray⟩,.string ⟨x.val.toArray⟩,.bool x.gone]
theorem recCells_get : ∀ (l : List Cr.Rec) (k : Nat) (x : Cr.Rec),l[k]? = some x → (recCells l)[k * 4]? = some (.int .i64 x.off) ∧ (recCells l)[k * 4 + 1]? = some (.string ⟨x.key.toArray⟩) ∧ (recCells l)[k * 4 + 2]? = some (.string ⟨x.val.toArray⟩) ∧ (recCells l)[k * 4 + 3]? = some (.bool x.gone) := by
 intro l
 induction l with
 | nil => intro k x h; simp at h
 | cons y l ih =>
  intro k x h
  cases k with
  | zero =>
   simp at h
   subst h
   exact ⟨rfl,rfl,rfl,rfl⟩
  | succ k =>
   have e : recCells (y::l) = [.int .i64 y.off,.string ⟨y.key.toArray⟩,.string ⟨y.val.toArray⟩,.bool y.gone] ++ recCells l := rfl
   have hk := ih k x (by simpa using h)
   rw [e,show (k + 1) * 4 = 4 + k * 4 by omega]
   simp only [List.cons_append,List.nil_append,Nat.add_assoc,Nat.add_comm 4,List.getElem?_cons_succ]
   exact hk
theorem Sl.recs {w : World} {B : Nat} {v : Value} {l : List Cr.Rec} (h : Sl w B 4 v l.length (recCells l)) : Recs w v l := by
 rcases h.2 with ⟨rfl,h0⟩ | ⟨g,off,cap,rfl,hB,hg,hn,hm,hr,ht⟩
 ·exact ⟨none,0,by rw [h0],fun i x hx => by
   have := (List.getElem?_eq_some_iff.1 hx).1
   omega⟩
 ·refine ⟨_,cap,rfl,fun i x hx => ⟨g,off,rfl,hg,?_⟩⟩
  obtain ⟨h0,h1,h2,h3⟩ := recCells_get l i x hx
  exact ⟨hr _ _ h0,by rw [Nat.add_assoc]; exact hr _ _ h1,by rw [Nat.add_assoc]; exact hr _ _ h2,by rw [Nat.add_assoc]; exact hr _ _ h3⟩
def zeroBat : Cr.Batch := ⟨0,0,0,0,0,[]⟩
def BatR (w : World) (o : Option Cr.Batch) (bad : Int) (e : Ending) (w' : World) : Prop :=
 ∃ rv,e = .returned (.tuple #[batV (o.getD zeroBat) rv,.int .i64 (if o.isSome then 0 else bad)]) ∧ Recs w' rv (o.getD zeroBat).recs ∧ Below w.heap.size w w'
theorem recs_none (w : World) : Recs w (.slice none 0 0) [] := ⟨none,0,rfl,fun i x h => by simp at h⟩
def zeroCells : List Value := [.int .i64 0,.int .i64 0,.int .i64 0,.int .i64 0,.int .i64 0,.slice none 0 0]
theorem BatR.no {w w' : World} {bad : Int} (h : Below w.heap.size w w') : BatR w none bad (.returned (.tuple #[.agg zeroCells.toArray,.int .i64 bad])) w' := ⟨.slice none 0 0,rfl,recs_none w',h⟩
theorem rec_any (p : Nat) (q : Bd.St) (w : World) (h : Rd w p q) (hl : q.1.length < 4294967281) (hw : ∀ W,Kp w p W → Lw W) :
  Calls Tryz.prog 123 #[.pointer (some ⟨p,0,none⟩)] w fun e w' => e = .returned (.tuple #[recV (Cr.sRec q).1,.bool (Cr.sRec q).2.1]) ∧ Rds w p (Cr.sRec q).2.2 w' := by
 have HLW := hq' hw
 have X0 : Hid (Rx w p w.heap.size (w.alloc (.cells #[.int .i64 0,.string ⟨#[]⟩,.string ⟨#[]⟩,.bool false] 67)) q [.int .i64 0,.string ⟨#[]⟩,.string ⟨#[]⟩,.bool false] 67) := Rx.new h _ _
 have l1 := sSign_len 108 q
 have l2 := sInt_len (Bd.sSign 108 q)
 have l3 := sText_len 16 (Bd.sInt (Bd.sSign 108 q)).2
 have l4 := sText_len 64 (Bd.sText 16 (Bd.sInt (Bd.sSign 108 q)).2).2
 have HS : Hid (Cr.sRec q = (let q1 := Bd.sSign 108 q
  let o := Bd.sInt q1
  let k := Bd.sText 16 o.2
  let v := Bd.sText 64 k.2
  let g := Bd.sInt v.2
  (⟨o.1,k.1,v.1,g.1 == 1⟩,g.1 == Cr.flag (g.1 == 1),Bd.sSign 101 g.2))) := rfl
 clear h hw
 generalize hq1 : Bd.sSign 108 q = q1 at *
 have HQ1 := hq' hq1
 clear hq1
 generalize hi : Bd.sInt q1 = o1 at *
 obtain ⟨o,q2⟩ := o1
 generalize hk : Bd.sText 16 q2 = o2 at *
 obtain ⟨k,q3⟩ := o2
 generalize hv : Bd.sText 64 q3 = o3 at *
 obtain ⟨v,q4⟩ := o3
 generalize hg : Bd.sInt q4 = o4 at *
 obtain ⟨g,q5⟩ := o4
 dsimp only at *
 have HI := hq' hi
 have HK := hq' hk
 have HV := hq' hv
 have HG := hq' hg
 clear hi hk hv hg
 have HO := hq' (open_any p q _ X0.out.1)
 rw [HQ1.out] at HO
 go_enter Tryz.func123,Tryz.ntmps123
 go_wp2_with fail
 refine HO.out.mono ?_
 rintro e w1 ⟨rfl,h1⟩
 have X1 := hq' (X0.out.call h1)
 clear h1 X0 HO
 generalize hx : w.heap.size = x at *
 have C2 := hq' (int_any p q1 w1 X1.out.1 (by omega) (HLW.out _ X1.out.2.2.2.2))
 rw [HI.out] at C2
 go_wp2_with fail
 refine C2.out.mono ?_
 rintro e w2 ⟨rfl,h2⟩
 have Y2 := hq' (X1.out.call h2)
 clear h2 X1 C2
 obtain ⟨c0,c1,c2,c3⟩ := Y2.out.2.1.cell4
 have f0 := Y2.out.2.1.free 0
 have Z2 := hq' (Y2.out.store 0 (.int .i64 o))
 go_wp2_with fail
 have X2 : Hid (Rx w p x (w2.setCell ⟨x,0,none⟩ (.int .i64 o)) _ [.int .i64 o,.string ⟨#[]⟩,.string ⟨#[]⟩,.bool false] 67) := Z2.out
 clear Y2 Z2 c0 c1 c2 c3 f0
 generalize w2.setCell ⟨x,0,none⟩ (.int .i64 o) = w2 at *
 have C3 := hq' (text_any p 16 q2 w2 X2.out.1 (by omega) (HLW.out _ X2.out.2.2.2.2))
 rw [HK.out] at C3
 go_wp2_with fail
 refine C3.out.mono ?_
 rintro e w3 ⟨rfl,h3⟩
 have Y3 := hq' (X2.out.call h3)
 clear h3 X2 C3
 obtain ⟨c0,c1,c2,c3⟩ := Y3.out.2.1.cell4
 have f0 := Y3.out.2.1.free 1
 have Z3 := hq' (Y3.out.store 1 (.string ⟨k.toArray⟩))
 go_wp2_with fail
 have X3 : Hid (Rx w p x (w3.setCell ⟨x,1,none⟩ (.string ⟨k.toArray⟩)) _ [.int .i64 o,.string ⟨k.toArray⟩,.string ⟨#[]⟩,.bool false] 67) := Z3.out
 clear Y3 Z3 c0 c1 c2 c3 f0
 generalize w3.setCell ⟨x,1,none⟩ (.string ⟨k.toArray⟩) = w3 at *
 have C4 := hq' (text_any p 64 q3 w3 X3.out.1 (by omega) (HLW.out _ X3.out.2.2.2.2))
 rw [HV.out] at C4
 go_wp2_with fail
 refine C4.out.mono ?_
 rintro e w4 ⟨rfl,h4⟩
 have Y4 := hq' (X3.out.call h4)
 clear h4 X3 C4
 obtain ⟨c0,c1,c2,c3⟩ := Y4.out.2.1.cell4
 have f0 := Y4.out.2.1.free 2
 have Z4 := hq' (Y4.out.store 2 (.string ⟨v.toArray⟩))
 go_wp2_with fail
 have X4 : Hid (Rx w p x (w4.setCell ⟨x,2,none⟩ (.string ⟨v.toArray⟩)) _ [.int .i64 o,.string ⟨k.toArray⟩,.string ⟨v.toArray⟩,.bool false] 67) := Z4.out
 clear Y4 Z4 c0 c1 c2 c3 f0
 generalize w4.setCell ⟨x,2,none⟩ (.string ⟨v.toArray⟩) = w4 at *
 have C5 := hq' (int_any p q4 w4 X4.out.1 (by omega) (HLW.out _ X4.out.2.2.2.2))
 rw [HG.out] at C5
 refine C5.out.mono ?_
 rintro e w5 ⟨rfl,h5⟩
 have X5 := hq' (X4.out.call h5)
 clear h5 X4 C5
 go_wp2_with fail
 refine (close_any p _ w5 X5.out.1).mono ?_
 rintro e w7 ⟨rfl,h7⟩
 have X7 := hq' (X5.out.call h7)
 clear h7 X5
 obtain ⟨c0,c1,c2,c3⟩ := X7.out.2.1.cell4
 have f0 := X7.out.2.1.free 3
 have X8 : Hid (Rx w p x (w7.setCell ⟨x,3,none⟩ (.bool (g == 1))) _ [.int .i64 o,.string ⟨k.toArray⟩,.string ⟨v.toArray⟩,.bool (g == 1)] 67) := X7.out.store 3 (.bool (g == 1))
 clear X7
 go_wp2_with fail
 clear c0 c1 c2 c3 f0
 generalize w7.setCell ⟨x,3,none⟩ (.bool (g == 1)) = w8 at *
 generalize hgb : (g == 1) = gb at *
 have hgf : Cr.flag gb = if gb then 1 else 0 := rfl
 have X9 := hq' X8.out.drew
 obtain ⟨c0,c1,c2,c3⟩ := X9.out.2.1.cell4
 obtain ⟨f0,f1,f2,f3,-,-⟩ := X9.out.2.1.free6
 obtain ⟨d0,d1,d2,d3⟩ := X8.out.2.1.cell4
 obtain ⟨g0,g1,g2,g3,-,-⟩ := X8.out.2.1.free6
 have XA : Hid (Rx w p x ((((w8.drew.setCell ⟨x,0,none⟩ (.int .i64 o)).setCell ⟨x,1,none⟩ (.string ⟨k.toArray⟩)).setCell ⟨x,2,none⟩ (.string ⟨v.toArray⟩)).setCell ⟨x,3,none⟩ (.bool gb)) _ [.int .i64 o,.string ⟨k.toArray⟩,.string ⟨v.toArray⟩,.bool gb] 67) :=
  (((X9.out.store 0 (.int .i64 o)).store 1 (.string ⟨k.toArray⟩)).store 2 (.string ⟨v.toArray⟩)).store 3 (.bool gb)
 have HSA := hq' XA.out.2.1.cell4
 have HS9 := hq' X9.out.2.1.cell4
 generalize hfl : Cr.flag gb = fl at *
 have HFL := hq' (fun W => flag_any gb W)
 rw [hfl] at HFL
 clear hgf
 go_region_held3 (fun W => W.cell? ⟨x,0,none⟩ = some (.int .i64 o) ∧ W.cell? ⟨x,1,none⟩ = some (.string ⟨k.toArray⟩) ∧ W.cell? ⟨x,2,none⟩ = some (.string ⟨v.toArray⟩) ∧ W.cell? ⟨x,3,none⟩ = some (.bool gb)) (first | assumption | exact HS9.out | exact HSA.out) (first
  | (go_at_call 114; refine (HFL.out _).mono ?_; rintro e w94 ⟨rfl,rfl⟩)
  | fail)
 go_wp2
 refine bodyPost_ret (results_cl_tmp rfl _ _ _ _ _ _ rfl XA.out.2.1 Tryz.underlying67 rfl (by kernel_rfl)) rfl ?_
 refine ⟨?_,?_⟩
 ·rw [HS.out]
  simp only [HI.out,HK.out,HV.out,HG.out,hgb,hfl]
  rfl
 ·rw [HS.out]
  simp only [HI.out,HK.out,HV.out,HG.out]
  exact XA.out.done
end Go.Proofs.YtbljbdjmgogknaaGreatDoor
