/-
  Wf8 / Wf9 / Wfa / Wu1 / Wu2 / Cwg / Cwf / Cwh / Wm1 / Wm2 / Wm3 / Wm4 / Wm5 / Wm6: texts of one proof, one behind the other.
  Conditions: none of its own.
-/
import Derived.Test.YtjfpbeccpcbpcaaGreatDoorZab
import Derived.Test.YtjfpbeccpcbpcaaGreatDoorZaf
import Derived.Test.YtjfpbeccpcbpcaaGreatDoorZak
import Derived.Test.YtjfpbeccpcbpcaaGreatDoorZaq
import Derived.Test.YtjfpbeccpcbpcaaGreatDoorZaw
import Derived.Test.YtjfpbeccpcbpcaaGreatDoorZax
import Derived.Test.YtjfpbeccpcbpcaaGreatDoorZay
import Derived.Lib.SlicesMore
import Derived.Deep.RegionHeld3
import Derived.Deep.AppendLies
import Derived.Deep.Cut
import Derived.RangeFuncNested
import Derived.RangeFuncBound
import Derived.RangeFuncCalls
import Derived.RangeFuncLeaves
import Derived.Shelf.Abstract
import Derived.Shelf.RegionOpen
import Derived.WalkKit
import Derived.OwnWalkIn
import Derived.TacticsInMore
import Derived.LoopNIn
import Derived.LoopIn
import Derived.BigRegionIn
import Derived.RangeFuncBox
import Derived.RangeFuncOwn
set_option linter.unusedVariables false
set_option linter.unusedSimpArgs false
namespace Go.Proofs.YtjfpbeccpcbpcaaGreatDoor
open Go.RowKit
set_option maxRecDepth 20000 in
set_option maxHeartbeats 6400000 in
theorem wfields_k8 (m : Wi.Msg) (v : MsgV) (w : World) (h : MsgAt w m v) (ok : MsgOk m) (hk : m.kind = 8) (hg : Wi.good m = true) (hw : Lw w) :
  Calls Tryz.prog 23 #[msgV m v] w (WStrs w (Wi.fieldsL m)) := by
 have HW := Lib.hid hw
 have HM := Lib.hid h
 have HO := Lib.hid ok
 have hn := ok.n
 simp only [List.mem_cons, List.not_mem_nil, or_false, forall_eq_or_imp, forall_eq] at hn
 obtain ⟨n0, n1, n2, n3, n4, n5, n6, n7, _⟩ := hn
 obtain ⟨i0, hi, hz0, hz1, hz2⟩ := info_parts cinfoStr
 obtain ⟨s0, c0, hh0⟩ := h.chain.form
 obtain ⟨s1, c1, hh1⟩ := h.lives.form
 obtain ⟨s2, c2, hh2⟩ := h.brecs.form
 obtain ⟨s3, c3, hh3⟩ := h.table.form
 obtain ⟨s4, c4, hh4⟩ := h.qrecs.form
 obtain ⟨s5, c5, hh5⟩ := h.parts.form
 obtain ⟨s6, c6, hh6⟩ := h.arecs.form
 obtain ⟨v0, v1, v2, v3, v4, v5, v6⟩ := v
 dsimp only at hh0 hh1 hh2 hh3 hh4 hh5 hh6
 subst hh0 hh1 hh2 hh3 hh4 hh5 hh6
 obtain ⟨x_kind, x_frm, x_to, x_part, x_ep, x_off, x_high, x_life, x_pep, x_chain, x_learner, x_lives, x_batch, x_table, x_req, x_resp⟩ := m
 dsimp only at *
 subst hk
 have GB : Hid (Wi.tableB x_table = true) := by have := hg; simp [Wi.good, Wi.lastB] at this; exact this.2
 have HEL : Hid ((Wi.encTable x_table).length ≤ 140737488355328) := Nat.le_trans (Wi.encTable_le GB.out) (by decide)
 clear h ok hw hg
 have HFM : Hid (Wi.fieldsL ⟨8, x_frm, x_to, x_part, x_ep, x_off, x_high, x_life, x_pep, x_chain, x_learner, x_lives, x_batch, x_table, x_req, x_resp⟩ = [8, x_frm, x_to].map Bd.bInt ++ [x_part, x_ep].map Bd.bInt ++ [Bd.bInt x_off, Bd.bText (Wi.encTable x_table)]) := by rw [Hid]; simp [Wi.fieldsL, Wi.headL, Wi.tailL]
 unfold msgV msgC
 dsimp only
 go_enter Tryz.func23, Tryz.ntmps23
 obtain ⟨w1, hw1, CA, B1⟩ := oneBox (w := w) (.int .i64 8 :: .int .i64 x_frm :: .int .i64 x_to :: .int .i64 x_part :: .int .i64 x_ep :: .int .i64 x_off :: .int .i64 x_high :: .int .i64 x_life :: .int .i64 x_pep :: .slice s0 x_chain.length c0 :: .int .i64 x_learner :: .slice s1 x_lives.length c1 :: .int .i64 x_batch.base :: .int .i64 x_batch.count :: .int .i64 x_batch.prod :: .int .i64 x_batch.seq :: .int .i64 x_batch.time :: .slice s2 x_batch.recs.length c2 :: .slice s3 x_table.length c3 :: .int .i64 x_req.client :: .int .i64 x_req.n :: .int .i64 x_req.kind :: .int .i64 x_req.part :: .int .i64 x_req.seq :: .int .i64 x_req.off :: .int .i64 x_req.max :: .int .i64 x_req.gen :: .string ⟨x_req.group.toArray⟩ :: .string ⟨x_req.member.toArray⟩ :: .slice s4 x_req.recs.length c4 :: .int .i64 x_resp.client :: .int .i64 x_resp.n :: .int .i64 x_resp.code :: .int .i64 x_resp.off :: .int .i64 x_resp.high :: .int .i64 x_resp.gen :: .slice s5 x_resp.parts.length c5 :: .slice s6 x_resp.recs.length c6 :: []) 36
 have HW1 := Lib.hid hw1
 clear hw1
 go_upto_region 1 with (fail)
 first | rw [HW1.out] | skip
 clear HW1
 have hpa := CA.out.lt
 have HI : Hid (∀ W, Below w1.heap.size w1 W → w1.heap.size ≤ W.heap.size) := fun W h => h.size
 have BW : Hid (∀ W, Below w1.heap.size w1 W → Below w.heap.size w W) := fun W h => bt B1.out h
 have LW1 := Lib.hid (HW.out.below B1.out)
 have HSW : Hid (w.heap.size ≤ w1.heap.size) := B1.out.size
 have B0 : Hid (Below w1.heap.size w1 w1) := Below.refl _ _
 obtain ⟨pa, hpa2⟩ : ∃ pa, pa = w.heap.size := ⟨_, rfl⟩
 rw [← hpa2] at CA ⊢
 have HPA := Lib.hid hpa2
 clear hpa2 hpa
 have CX := Lib.hid (CA.out.below B0.out)
 have a0 := CX.out.cell 0
 have a1 := CX.out.cell 1
 have a2 := CX.out.cell 2
 simp only [List.getElem?_cons_zero, List.getElem?_cons_succ] at a0 a1 a2
 have C1 : Hid (Cl (w1.alloc (.cells #[.int .i64 8, .int .i64 x_frm, .int .i64 x_to] 3)) w1.heap.size [.int .i64 8, .int .i64 x_frm, .int .i64 x_to] 3) := Cl.new w1 _ _
 have D1 : Hid (Below w1.heap.size w1 (w1.alloc (.cells #[.int .i64 8, .int .i64 x_frm, .int .i64 x_to] 3))) := (Below.refl _ _).alloc (Nat.le_refl _) _
 have HC1 := Lib.hid (wints_any [8, x_frm, x_to] (by simp) (by simp only [List.mem_cons, List.not_mem_nil, or_false, forall_eq_or_imp, forall_eq]; exact ⟨n0, n1, n2⟩) _ _ (ints3_cl C1.out) (LW1.out.below (bt B0.out D1.out)))
 go_wp2_with fail
 refine HC1.out.mono ?_
 rintro e w11 ⟨v11, rfl, ho1, hb1⟩
 have B10 := Lib.hid (bt D1.out hb1)
 have B1 := Lib.hid (bt B0.out B10.out)
 have hs1 := HI.out _ B1.out
 have HR1 := Lib.hid (ownsRow_weaken ho1 (show w1.heap.size ≤ (w1.alloc (.cells #[.int .i64 8, .int .i64 x_frm, .int .i64 x_to] 3)).heap.size by have := HI.out _ (bt B0.out D1.out); exact this))
 clear hb1 ho1 HC1 C1 D1
 clear CX a0 a1 a2
 have kx := (CA.out.below B1.out).cell 0
 simp only [List.getElem?_cons_zero, List.getElem?_cons_succ] at kx
 have CX := Lib.hid (CA.out.below B1.out)
 have a3 := CX.out.cell 3
 have a4 := CX.out.cell 4
 simp only [List.getElem?_cons_zero, List.getElem?_cons_succ] at a3 a4
 have C2 : Hid (Cl (w11.alloc (.cells #[.int .i64 x_part, .int .i64 x_ep] 3)) w11.heap.size [.int .i64 x_part, .int .i64 x_ep] 3) := Cl.new w11 _ _
 have D2 : Hid (Below w11.heap.size w11 (w11.alloc (.cells #[.int .i64 x_part, .int .i64 x_ep] 3))) := (Below.refl _ _).alloc (Nat.le_refl _) _
 have HC2 := Lib.hid (wints_any [x_part, x_ep] (by simp) (by simp only [List.mem_cons, List.not_mem_nil, or_false, forall_eq_or_imp, forall_eq]; exact ⟨n3, n4⟩) _ _ (ints2_cl C2.out) (LW1.out.below (bt B1.out D2.out)))
 go_wp2_with fail
 refine HC2.out.mono ?_
 rintro e w12 ⟨v12, rfl, ho2, hb2⟩
 have B20 := Lib.hid (bt D2.out hb2)
 have B2 := Lib.hid (bt B1.out B20.out)
 have hs2 := HI.out _ B2.out
 have HR2 := Lib.hid (ownsRow_weaken ho2 (show w1.heap.size ≤ (w11.alloc (.cells #[.int .i64 x_part, .int .i64 x_ep] 3)).heap.size by have := HI.out _ (bt B1.out D2.out); exact this))
 clear hb2 ho2 HC2 C2 D2
 clear CX a3 a4
 have HO2 := Lib.hid (ownsRow_below HR1.out B20.out)
 clear HR1
 clear kx
 have HS3 := Lib.hid (own_slice HR2.out (by simp))
 obtain ⟨g3, cap3, hv3, hc3⟩ := HS3.out
 subst hv3
 clear HS3
 go_wp2_with (at_builtin; refine wpList_append_own _ rfl _ _ 51 rfl w1.heap.size 9 i0 (.string ⟨#[]⟩) 1 16 Tryz.underlying51 hi hz0 hz1 hz2 rfl (by decide) _ _ _ rfl HO2.out ⟨g3, 0, none⟩ _ _ (sv ([x_part, x_ep].map Bd.bInt)) rfl (by simp [sv]) hc3 ?_ ?_ ?_ ?_ ?_)
 ·simp [sv, Value.oneCell']
 ·unfold maxLen; simp
 ·simp
 ·omega
 intro v13 w13 hown3 hg3 _
 have HO3 : Hid (w13.ownsRow w1.heap.size 9 1 v13 (([8, x_frm, x_to].map Bd.bInt) ++ ([x_part, x_ep].map Bd.bInt)).length (sv (([8, x_frm, x_to].map Bd.bInt) ++ ([x_part, x_ep].map Bd.bInt)))) := by rw [Hid, sv_append]; exact hown3
 have B3 : Hid (Below w1.heap.size w1 w13) := B2.out.grown hg3 B2.out.size (fun kk hkk => (HO2.out.lt kk hkk).1)
 clear hown3 hg3 hc3
 have kx := (CA.out.below B3.out).cell 0
 simp only [List.getElem?_cons_zero, List.getElem?_cons_succ] at kx
 have CX := Lib.hid (CA.out.below B3.out)
 have a18 := CX.out.cell 18
 simp only [List.getElem?_cons_zero, List.getElem?_cons_succ] at a18
 have LW4 := Lib.hid (LW1.out.below B3.out)
 have HJ4 := Lib.hid (lenc_yes x_table HO.out.t _ w13 (HM.out.kept (BW.out _ B3.out)).table LW4.out GB.out)
 go_wp2_with fail
 refine HJ4.out.mono ?_
 rintro e w14 ⟨rfl, hb4⟩
 have HO4 := Lib.hid (ownsRow_below HO3.out hb4)
 have B4 := Lib.hid (bt B3.out hb4)
 have hs4 := HI.out _ B4.out
 clear hb4 HJ4 HO3
 clear CX a18
 clear kx
 have CX := Lib.hid (CA.out.below B4.out)
 have a5 := CX.out.cell 5
 simp only [List.getElem?_cons_zero, List.getElem?_cons_succ] at a5
 have LW6 := Lib.hid (LW1.out.below B4.out)
 have HJ6 := Lib.hid (beadInt_any x_off n5 w14 LW6.out)
 generalize hbl6 : Bd.bInt x_off = bl6 at HJ6 HFM
 clear hbl6
 go_wp2_with fail
 refine HJ6.out.mono ?_
 rintro e w16 ⟨rfl, hb6⟩
 have HO6 := Lib.hid (ownsRow_below HO4.out hb6)
 have B6 := Lib.hid (bt B4.out hb6)
 have hs6 := HI.out _ B6.out
 clear hb6 HJ6 HO4
 clear CX a5
 have LW7 := Lib.hid (LW1.out.below B6.out)
 have HJ7 := Lib.hid (beadText_any (Wi.encTable x_table) HEL.out w16 LW7.out)
 generalize hbl7 : Bd.bText (Wi.encTable x_table) = bl7 at HJ7 HFM
 clear hbl7
 go_wp2_with fail
 refine HJ7.out.mono ?_
 rintro e w17 ⟨rfl, hb7⟩
 have HO7 := Lib.hid (ownsRow_below HO6.out hb7)
 have B7 := Lib.hid (bt B6.out hb7)
 have hs7 := HI.out _ B7.out
 clear hb7 HJ7 HO6
 go_wp2_with (at_builtin; refine wpList_append_own _ rfl _ _ 51 rfl w1.heap.size 9 i0 (.string ⟨#[]⟩) 1 16 Tryz.underlying51 hi hz0 hz1 hz2 rfl (by decide) _ _ _ rfl (World.ownsRow.alloc HO7.out _) ⟨w17.heap.size, 0, none⟩ 2 2 [.string ⟨bl6.toArray⟩, .string ⟨bl7.toArray⟩] rfl rfl (cells_new _ [bl6, bl7] _) ?_ ?_ ?_ ?_ ?_)
 ·simp [Value.oneCell']
 ·unfold maxLen; simp
 ·simp
 ·simp; omega
 intro v25 w25 hown5 hg5 _
 have HO5 : Hid (w25.ownsRow w1.heap.size 9 1 v25 ((([8, x_frm, x_to].map Bd.bInt) ++ ([x_part, x_ep].map Bd.bInt)) ++ [bl6, bl7]).length (sv ((([8, x_frm, x_to].map Bd.bInt) ++ ([x_part, x_ep].map Bd.bInt)) ++ [bl6, bl7]))) := by rw [Hid, sv_append]; exact hown5
 have B5 : Hid (Below w1.heap.size w1 w25) := (B7.out.alloc hs7 _).grown hg5 (by simp; omega) (fun kk hkk => (HO7.out.lt kk hkk).1)
 clear hown5 hg5 HO7
 go_wp2
 go_ret
 refine ⟨_, rfl, ?_, BW.out _ B5.out⟩
 rw [HFM.out]
 exact ownsRow_weaken HO5.out HSW.out
end Go.Proofs.YtjfpbeccpcbpcaaGreatDoor
namespace Go.Proofs.YtjfpbeccpcbpcaaGreatDoor
open Go.RowKit
set_option maxRecDepth 20000 in
set_option maxHeartbeats 6400000 in
theorem wfields_k9 (m : Wi.Msg) (v : MsgV) (w : World) (h : MsgAt w m v) (ok : MsgOk m) (hk : m.kind = 9) (hg : Wi.good m = true) (hw : Lw w) :
  Calls Tryz.prog 23 #[msgV m v] w (WStrs w (Wi.fieldsL m)) := by
 have HW := Lib.hid hw
 have HM := Lib.hid h
 have HO := Lib.hid ok
 have hn := ok.n
 simp only [List.mem_cons, List.not_mem_nil, or_false, forall_eq_or_imp, forall_eq] at hn
 obtain ⟨n0, n1, n2, n3, n4, n5, n6, n7, _⟩ := hn
 obtain ⟨i0, hi, hz0, hz1, hz2⟩ := info_parts cinfoStr
 obtain ⟨s0, c0, hh0⟩ := h.chain.form
 obtain ⟨s1, c1, hh1⟩ := h.lives.form
 obtain ⟨s2, c2, hh2⟩ := h.brecs.form
 obtain ⟨s3, c3, hh3⟩ := h.table.form
 obtain ⟨s4, c4, hh4⟩ := h.qrecs.form
 obtain ⟨s5, c5, hh5⟩ := h.parts.form
 obtain ⟨s6, c6, hh6⟩ := h.arecs.form
 obtain ⟨v0, v1, v2, v3, v4, v5, v6⟩ := v
 dsimp only at hh0 hh1 hh2 hh3 hh4 hh5 hh6
 subst hh0 hh1 hh2 hh3 hh4 hh5 hh6
 obtain ⟨x_kind, x_frm, x_to, x_part, x_ep, x_off, x_high, x_life, x_pep, x_chain, x_learner, x_lives, x_batch, x_table, x_req, x_resp⟩ := m
 dsimp only at *
 subst hk
 clear h ok hw hg
 have HFM : Hid (Wi.fieldsL ⟨9, x_frm, x_to, x_part, x_ep, x_off, x_high, x_life, x_pep, x_chain, x_learner, x_lives, x_batch, x_table, x_req, x_resp⟩ = [9, x_frm, x_to].map Bd.bInt ++ [x_part, x_ep].map Bd.bInt ++ [Bd.bInt x_off]) := by rw [Hid]; simp [Wi.fieldsL, Wi.headL, Wi.tailL]
 unfold msgV msgC
 dsimp only
 go_enter Tryz.func23, Tryz.ntmps23
 obtain ⟨w1, hw1, CA, B1⟩ := oneBox (w := w) (.int .i64 9 :: .int .i64 x_frm :: .int .i64 x_to :: .int .i64 x_part :: .int .i64 x_ep :: .int .i64 x_off :: .int .i64 x_high :: .int .i64 x_life :: .int .i64 x_pep :: .slice s0 x_chain.length c0 :: .int .i64 x_learner :: .slice s1 x_lives.length c1 :: .int .i64 x_batch.base :: .int .i64 x_batch.count :: .int .i64 x_batch.prod :: .int .i64 x_batch.seq :: .int .i64 x_batch.time :: .slice s2 x_batch.recs.length c2 :: .slice s3 x_table.length c3 :: .int .i64 x_req.client :: .int .i64 x_req.n :: .int .i64 x_req.kind :: .int .i64 x_req.part :: .int .i64 x_req.seq :: .int .i64 x_req.off :: .int .i64 x_req.max :: .int .i64 x_req.gen :: .string ⟨x_req.group.toArray⟩ :: .string ⟨x_req.member.toArray⟩ :: .slice s4 x_req.recs.length c4 :: .int .i64 x_resp.client :: .int .i64 x_resp.n :: .int .i64 x_resp.code :: .int .i64 x_resp.off :: .int .i64 x_resp.high :: .int .i64 x_resp.gen :: .slice s5 x_resp.parts.length c5 :: .slice s6 x_resp.recs.length c6 :: []) 36
 have HW1 := Lib.hid hw1
 clear hw1
 go_upto_region 1 with (fail)
 first | rw [HW1.out] | skip
 clear HW1
 have hpa := CA.out.lt
 have HI : Hid (∀ W, Below w1.heap.size w1 W → w1.heap.size ≤ W.heap.size) := fun W h => h.size
 have BW : Hid (∀ W, Below w1.heap.size w1 W → Below w.heap.size w W) := fun W h => bt B1.out h
 have LW1 := Lib.hid (HW.out.below B1.out)
 have HSW : Hid (w.heap.size ≤ w1.heap.size) := B1.out.size
 have B0 : Hid (Below w1.heap.size w1 w1) := Below.refl _ _
 obtain ⟨pa, hpa2⟩ : ∃ pa, pa = w.heap.size := ⟨_, rfl⟩
 rw [← hpa2] at CA ⊢
 have HPA := Lib.hid hpa2
 clear hpa2 hpa
 have CX := Lib.hid (CA.out.below B0.out)
 have a0 := CX.out.cell 0
 have a1 := CX.out.cell 1
 have a2 := CX.out.cell 2
 simp only [List.getElem?_cons_zero, List.getElem?_cons_succ] at a0 a1 a2
 have C1 : Hid (Cl (w1.alloc (.cells #[.int .i64 9, .int .i64 x_frm, .int .i64 x_to] 3)) w1.heap.size [.int .i64 9, .int .i64 x_frm, .int .i64 x_to] 3) := Cl.new w1 _ _
 have D1 : Hid (Below w1.heap.size w1 (w1.alloc (.cells #[.int .i64 9, .int .i64 x_frm, .int .i64 x_to] 3))) := (Below.refl _ _).alloc (Nat.le_refl _) _
 have HC1 := Lib.hid (wints_any [9, x_frm, x_to] (by simp) (by simp only [List.mem_cons, List.not_mem_nil, or_false, forall_eq_or_imp, forall_eq]; exact ⟨n0, n1, n2⟩) _ _ (ints3_cl C1.out) (LW1.out.below (bt B0.out D1.out)))
 go_wp2_with fail
 refine HC1.out.mono ?_
 rintro e w11 ⟨v11, rfl, ho1, hb1⟩
 have B10 := Lib.hid (bt D1.out hb1)
 have B1 := Lib.hid (bt B0.out B10.out)
 have hs1 := HI.out _ B1.out
 have HR1 := Lib.hid (ownsRow_weaken ho1 (show w1.heap.size ≤ (w1.alloc (.cells #[.int .i64 9, .int .i64 x_frm, .int .i64 x_to] 3)).heap.size by have := HI.out _ (bt B0.out D1.out); exact this))
 clear hb1 ho1 HC1 C1 D1
 clear CX a0 a1 a2
 have kx := (CA.out.below B1.out).cell 0
 simp only [List.getElem?_cons_zero, List.getElem?_cons_succ] at kx
 have CX := Lib.hid (CA.out.below B1.out)
 have a3 := CX.out.cell 3
 have a4 := CX.out.cell 4
 simp only [List.getElem?_cons_zero, List.getElem?_cons_succ] at a3 a4
 have C2 : Hid (Cl (w11.alloc (.cells #[.int .i64 x_part, .int .i64 x_ep] 3)) w11.heap.size [.int .i64 x_part, .int .i64 x_ep] 3) := Cl.new w11 _ _
 have D2 : Hid (Below w11.heap.size w11 (w11.alloc (.cells #[.int .i64 x_part, .int .i64 x_ep] 3))) := (Below.refl _ _).alloc (Nat.le_refl _) _
 have HC2 := Lib.hid (wints_any [x_part, x_ep] (by simp) (by simp only [List.mem_cons, List.not_mem_nil, or_false, forall_eq_or_imp, forall_eq]; exact ⟨n3, n4⟩) _ _ (ints2_cl C2.out) (LW1.out.below (bt B1.out D2.out)))
 go_wp2_with fail
 refine HC2.out.mono ?_
 rintro e w12 ⟨v12, rfl, ho2, hb2⟩
 have B20 := Lib.hid (bt D2.out hb2)
 have B2 := Lib.hid (bt B1.out B20.out)
 have hs2 := HI.out _ B2.out
 have HR2 := Lib.hid (ownsRow_weaken ho2 (show w1.heap.size ≤ (w11.alloc (.cells #[.int .i64 x_part, .int .i64 x_ep] 3)).heap.size by have := HI.out _ (bt B1.out D2.out); exact this))
 clear hb2 ho2 HC2 C2 D2
 clear CX a3 a4
 have HO2 := Lib.hid (ownsRow_below HR1.out B20.out)
 clear HR1
 clear kx
 have HS3 := Lib.hid (own_slice HR2.out (by simp))
 obtain ⟨g3, cap3, hv3, hc3⟩ := HS3.out
 subst hv3
 clear HS3
 go_wp2_with (at_builtin; refine wpList_append_own _ rfl _ _ 51 rfl w1.heap.size 9 i0 (.string ⟨#[]⟩) 1 16 Tryz.underlying51 hi hz0 hz1 hz2 rfl (by decide) _ _ _ rfl HO2.out ⟨g3, 0, none⟩ _ _ (sv ([x_part, x_ep].map Bd.bInt)) rfl (by simp [sv]) hc3 ?_ ?_ ?_ ?_ ?_)
 ·simp [sv, Value.oneCell']
 ·unfold maxLen; simp
 ·simp
 ·omega
 intro v13 w13 hown3 hg3 _
 have HO3 : Hid (w13.ownsRow w1.heap.size 9 1 v13 (([9, x_frm, x_to].map Bd.bInt) ++ ([x_part, x_ep].map Bd.bInt)).length (sv (([9, x_frm, x_to].map Bd.bInt) ++ ([x_part, x_ep].map Bd.bInt)))) := by rw [Hid, sv_append]; exact hown3
 have B3 : Hid (Below w1.heap.size w1 w13) := B2.out.grown hg3 B2.out.size (fun kk hkk => (HO2.out.lt kk hkk).1)
 clear hown3 hg3 hc3
 have kx := (CA.out.below B3.out).cell 0
 simp only [List.getElem?_cons_zero, List.getElem?_cons_succ] at kx
 have CX := Lib.hid (CA.out.below B3.out)
 have a5 := CX.out.cell 5
 simp only [List.getElem?_cons_zero, List.getElem?_cons_succ] at a5
 have LW5 := Lib.hid (LW1.out.below B3.out)
 have HJ5 := Lib.hid (beadInt_any x_off n5 w13 LW5.out)
 generalize hbl5 : Bd.bInt x_off = bl5 at HJ5 HFM
 clear hbl5
 go_wp2_with fail
 refine HJ5.out.mono ?_
 rintro e w15 ⟨rfl, hb5⟩
 have HO5 := Lib.hid (ownsRow_below HO3.out hb5)
 have B5 := Lib.hid (bt B3.out hb5)
 have hs5 := HI.out _ B5.out
 clear hb5 HJ5 HO3
 clear CX a5
 go_wp2_with (at_builtin; refine wpList_append_own _ rfl _ _ 51 rfl w1.heap.size 9 i0 (.string ⟨#[]⟩) 1 16 Tryz.underlying51 hi hz0 hz1 hz2 rfl (by decide) _ _ _ rfl (World.ownsRow.alloc HO5.out _) ⟨w15.heap.size, 0, none⟩ 1 1 [.string ⟨bl5.toArray⟩] rfl rfl (cells_new _ [bl5] _) ?_ ?_ ?_ ?_ ?_)
 ·simp [Value.oneCell']
 ·unfold maxLen; simp
 ·simp
 ·simp; omega
 intro v24 w24 hown4 hg4 _
 have HO4 : Hid (w24.ownsRow w1.heap.size 9 1 v24 ((([9, x_frm, x_to].map Bd.bInt) ++ ([x_part, x_ep].map Bd.bInt)) ++ [bl5]).length (sv ((([9, x_frm, x_to].map Bd.bInt) ++ ([x_part, x_ep].map Bd.bInt)) ++ [bl5]))) := by rw [Hid, sv_append]; exact hown4
 have B4 : Hid (Below w1.heap.size w1 w24) := (B5.out.alloc hs5 _).grown hg4 (by simp; omega) (fun kk hkk => (HO5.out.lt kk hkk).1)
 clear hown4 hg4 HO5
 clear kx
 go_wp2
 go_ret
 refine ⟨_, rfl, ?_, BW.out _ B4.out⟩
 rw [HFM.out]
 exact ownsRow_weaken HO4.out HSW.out
end Go.Proofs.YtjfpbeccpcbpcaaGreatDoor
namespace Go.Proofs.YtjfpbeccpcbpcaaGreatDoor
open Go.RowKit
theorem wfields_any (m : Wi.Msg) (v : MsgV) (w : World) (h : MsgAt w m v) (ok : MsgOk m) (hg : Wi.good m = true) (hw : Lw w) :
  Calls Tryz.prog 23 #[msgV m v] w (WStrs w (Wi.fieldsL m)) := by
 obtain ⟨hk, -⟩ := Wi.good_first hg
 rcases (show m.kind = 1 ∨ m.kind = 2 ∨ m.kind = 3 ∨ m.kind = 4 ∨ m.kind = 5 ∨ m.kind = 6 ∨ m.kind = 7 ∨ m.kind = 8 ∨ m.kind = 9 by omega) with e | e | e | e | e | e | e | e | e
 ·exact wfields_k1 m v w h ok e hg hw
 ·exact wfields_k2 m v w h ok e hg hw
 ·exact wfields_k3 m v w h ok e hg hw
 ·exact wfields_k4 m v w h ok e hg hw
 ·exact wfields_k5 m v w h ok e hg hw
 ·exact wfields_k6 m v w h ok e hg hw
 ·exact wfields_k7 m v w h ok e hg hw
 ·exact wfields_k8 m v w h ok e hg hw
 ·exact wfields_k9 m v w h ok e hg hw
end Go.Proofs.YtjfpbeccpcbpcaaGreatDoor
namespace Go.Proofs.YtjfpbeccpcbpcaaGreatDoor
open Go.RowKit
theorem fieldsL_len (m : Wi.Msg) : (Wi.fieldsL m).length ≤ 16 := by
 have h1 : (Wi.headL m).length ≤ 5 := by unfold Wi.headL; split <;> simp
 have h2 : (Wi.tailL m).length ≤ 11 := by unfold Wi.tailL; (repeat' split) <;> simp [Wi.reqNumsL, Wi.respNumsL]
 rw [Wi.fieldsL, List.length_append]; omega
theorem wgood_true (m : Wi.Msg) (v : MsgV) (w : World) (h : MsgAt w m v) (ok : MsgOk m) (hcap : CapOk v.arecs) (hw : Lw w) (hg : Wi.good m = true) :
  Calls Tryz.prog 13 #[msgV m v] w fun e w' => e = .returned (.bool true) ∧ Below w.heap.size w w' := by
 have := wgood_any m v w h ok hcap hw
 rw [hg] at this
 exact this
set_option maxRecDepth 20000 in
set_option maxHeartbeats 6400000 in
theorem wencode_yes (m : Wi.Msg) (v : MsgV) (w : World) (h : MsgAt w m v) (ok : MsgOk m) (hcap : CapOk v.arecs) (hf : Wi.good m = true) (hw : Lw w) :
  Calls Tryz.prog 11 #[msgV m v] w fun e w' => e = .returned (.tuple #[.string ⟨(Frm.put (Wi.enc m)).toArray⟩, .int .i64 0]) ∧ Below w.heap.size w w' := by
 have HW := Lib.hid hw
 have HM := Lib.hid h
 have HO := Lib.hid ok
 have HF := Lib.hid hf
 have HLN := Lib.hid (Wi.enc_le hf)
 have HCP := Lib.hid hcap
 obtain ⟨s0, c0, hh0⟩ := h.chain.form
 obtain ⟨s1, c1, hh1⟩ := h.lives.form
 obtain ⟨s2, c2, hh2⟩ := h.brecs.form
 obtain ⟨s3, c3, hh3⟩ := h.table.form
 obtain ⟨s4, c4, hh4⟩ := h.qrecs.form
 obtain ⟨s5, c5, hh5⟩ := h.parts.form
 obtain ⟨s6, c6, hh6⟩ := h.arecs.form
 obtain ⟨v0, v1, v2, v3, v4, v5, v6⟩ := v
 dsimp only at hh0 hh1 hh2 hh3 hh4 hh5 hh6
 subst hh0 hh1 hh2 hh3 hh4 hh5 hh6
 obtain ⟨x_kind, x_frm, x_to, x_part, x_ep, x_off, x_high, x_life, x_pep, x_chain, x_learner, x_lives, x_batch, x_table, x_req, x_resp⟩ := m
 dsimp only at *
 clear h ok hw hf hcap
 have HI38 := Lib.hid (show (Tryz.prog.info? 36).map (·.size) = some ((.int .i64 x_kind :: .int .i64 x_frm :: .int .i64 x_to :: .int .i64 x_part :: .int .i64 x_ep :: .int .i64 x_off :: .int .i64 x_high :: .int .i64 x_life :: .int .i64 x_pep :: .slice s0 x_chain.length c0 :: .int .i64 x_learner :: .slice s1 x_lives.length c1 :: .int .i64 x_batch.base :: .int .i64 x_batch.count :: .int .i64 x_batch.prod :: .int .i64 x_batch.seq :: .int .i64 x_batch.time :: .slice s2 x_batch.recs.length c2 :: .slice s3 x_table.length c3 :: .int .i64 x_req.client :: .int .i64 x_req.n :: .int .i64 x_req.kind :: .int .i64 x_req.part :: .int .i64 x_req.seq :: .int .i64 x_req.off :: .int .i64 x_req.max :: .int .i64 x_req.gen :: .string ⟨x_req.group.toArray⟩ :: .string ⟨x_req.member.toArray⟩ :: .slice s4 x_req.recs.length c4 :: .int .i64 x_resp.client :: .int .i64 x_resp.n :: .int .i64 x_resp.code :: .int .i64 x_resp.off :: .int .i64 x_resp.high :: .int .i64 x_resp.gen :: .slice s5 x_resp.parts.length c5 :: .slice s6 x_resp.recs.length c6 :: []) : List Value).length by kernel_rfl)
 have HU := Lib.hid Tryz.underlying36
 have HG := Lib.hid (fun (W : World) (hW : Below w.heap.size w W) => wgood_true ⟨x_kind, x_frm, x_to, x_part, x_ep, x_off, x_high, x_life, x_pep, x_chain, x_learner, x_lives, x_batch, x_table, x_req, x_resp⟩ ⟨.slice s0 x_chain.length c0, .slice s1 x_lives.length c1, .slice s2 x_batch.recs.length c2, .slice s3 x_table.length c3, .slice s4 x_req.recs.length c4, .slice s5 x_resp.parts.length c5, .slice s6 x_resp.recs.length c6⟩ W (HM.out.kept hW) HO.out HCP.out (HW.out.below hW) HF.out)
 have HFD := Lib.hid (fun (W : World) (hW : Below w.heap.size w W) => wfields_any ⟨x_kind, x_frm, x_to, x_part, x_ep, x_off, x_high, x_life, x_pep, x_chain, x_learner, x_lives, x_batch, x_table, x_req, x_resp⟩ ⟨.slice s0 x_chain.length c0, .slice s1 x_lives.length c1, .slice s2 x_batch.recs.length c2, .slice s3 x_table.length c3, .slice s4 x_req.recs.length c4, .slice s5 x_resp.parts.length c5, .slice s6 x_resp.recs.length c6⟩ W (HM.out.kept hW) HO.out HF.out (HW.out.below hW))
 have HBL : Hid (∀ W v, Strs W v (Wi.fieldsL ⟨x_kind, x_frm, x_to, x_part, x_ep, x_off, x_high, x_life, x_pep, x_chain, x_learner, x_lives, x_batch, x_table, x_req, x_resp⟩) → Calls Tryz.prog 22 #[v] W fun e w' => e = .returned (.string ⟨(Wi.enc ⟨x_kind, x_frm, x_to, x_part, x_ep, x_off, x_high, x_life, x_pep, x_chain, x_learner, x_lives, x_batch, x_table, x_req, x_resp⟩).toArray⟩) ∧ Below W.heap.size W w') := fun W v hv => by
  have h1 : (Wi.listB (Wi.fieldsL ⟨x_kind, x_frm, x_to, x_part, x_ep, x_off, x_high, x_life, x_pep, x_chain, x_learner, x_lives, x_batch, x_table, x_req, x_resp⟩).flatten).length ≤ 16384 := HLN.out
  unfold Wi.listB at h1
  simp only [List.length_cons, List.length_append] at h1
  exact beadList_any v _ W hv (Nat.le_trans (fieldsL_len _) (by decide)) (by omega)
 have HPT := Lib.hid (fun (W : World) => put_any (Wi.enc ⟨x_kind, x_frm, x_to, x_part, x_ep, x_off, x_high, x_life, x_pep, x_chain, x_learner, x_lives, x_batch, x_table, x_req, x_resp⟩) W HLN.out)
 generalize Wi.enc ⟨x_kind, x_frm, x_to, x_part, x_ep, x_off, x_high, x_life, x_pep, x_chain, x_learner, x_lives, x_batch, x_table, x_req, x_resp⟩ = bb at *
 generalize hbf : Wi.fieldsL ⟨x_kind, x_frm, x_to, x_part, x_ep, x_off, x_high, x_life, x_pep, x_chain, x_learner, x_lives, x_batch, x_table, x_req, x_resp⟩ = bf at *
 clear hbf HLN HF
 unfold msgV msgC at HG HFD ⊢
 dsimp only at HG HFD ⊢
 go_enter Tryz.func11, Tryz.ntmps11
 obtain ⟨w1, hw1, CA, B1⟩ := oneBox (w := w) (.int .i64 x_kind :: .int .i64 x_frm :: .int .i64 x_to :: .int .i64 x_part :: .int .i64 x_ep :: .int .i64 x_off :: .int .i64 x_high :: .int .i64 x_life :: .int .i64 x_pep :: .slice s0 x_chain.length c0 :: .int .i64 x_learner :: .slice s1 x_lives.length c1 :: .int .i64 x_batch.base :: .int .i64 x_batch.count :: .int .i64 x_batch.prod :: .int .i64 x_batch.seq :: .int .i64 x_batch.time :: .slice s2 x_batch.recs.length c2 :: .slice s3 x_table.length c3 :: .int .i64 x_req.client :: .int .i64 x_req.n :: .int .i64 x_req.kind :: .int .i64 x_req.part :: .int .i64 x_req.seq :: .int .i64 x_req.off :: .int .i64 x_req.max :: .int .i64 x_req.gen :: .string ⟨x_req.group.toArray⟩ :: .string ⟨x_req.member.toArray⟩ :: .slice s4 x_req.recs.length c4 :: .int .i64 x_resp.client :: .int .i64 x_resp.n :: .int .i64 x_resp.code :: .int .i64 x_resp.off :: .int .i64 x_resp.high :: .int .i64 x_resp.gen :: .slice s5 x_resp.parts.length c5 :: .slice s6 x_resp.recs.length c6 :: []) 36
 have HW1 := Lib.hid hw1
 clear hw1
 go_upto_region 1 with (fail)
 first | rw [HW1.out] | skip
 clear HW1
 have BW : Hid (∀ W, Below w1.heap.size w1 W → Below w.heap.size w W) := fun W h => bt B1.out h
 obtain ⟨pa, hpa2⟩ : ∃ pa, pa = w.heap.size := ⟨_, rfl⟩
 rw [← hpa2] at CA
 first | rw [← hpa2] | skip
 have HPA := Lib.hid hpa2
 clear hpa2
 have R1 := Lib.hid CA.out.range
 go_wp2_with (refine wpList_load_mid (by rfl) _ _ (by rfl) pa 0 (by rfl) (.int .i64 x_kind :: .int .i64 x_frm :: .int .i64 x_to :: .int .i64 x_part :: .int .i64 x_ep :: .int .i64 x_off :: .int .i64 x_high :: .int .i64 x_life :: .int .i64 x_pep :: .slice s0 x_chain.length c0 :: .int .i64 x_learner :: .slice s1 x_lives.length c1 :: .int .i64 x_batch.base :: .int .i64 x_batch.count :: .int .i64 x_batch.prod :: .int .i64 x_batch.seq :: .int .i64 x_batch.time :: .slice s2 x_batch.recs.length c2 :: .slice s3 x_table.length c3 :: .int .i64 x_req.client :: .int .i64 x_req.n :: .int .i64 x_req.kind :: .int .i64 x_req.part :: .int .i64 x_req.seq :: .int .i64 x_req.off :: .int .i64 x_req.max :: .int .i64 x_req.gen :: .string ⟨x_req.group.toArray⟩ :: .string ⟨x_req.member.toArray⟩ :: .slice s4 x_req.recs.length c4 :: .int .i64 x_resp.client :: .int .i64 x_resp.n :: .int .i64 x_resp.code :: .int .i64 x_resp.off :: .int .i64 x_resp.high :: .int .i64 x_resp.gen :: .slice s5 x_resp.parts.length c5 :: .slice s6 x_resp.recs.length c6 :: []) _ R1.out HU.out (by rfl) HI38.out ?_)
 refine (HG.out _ B1.out).mono ?_
 rintro e w2 ⟨rfl, hb2⟩
 have B2 := Lib.hid (bt B1.out hb2)
 have R2 := Lib.hid (CA.out.below hb2).range
 clear hb2 R1 HG
 go_wp2_with (refine wpList_load_mid (by rfl) _ _ (by rfl) pa 0 (by rfl) (.int .i64 x_kind :: .int .i64 x_frm :: .int .i64 x_to :: .int .i64 x_part :: .int .i64 x_ep :: .int .i64 x_off :: .int .i64 x_high :: .int .i64 x_life :: .int .i64 x_pep :: .slice s0 x_chain.length c0 :: .int .i64 x_learner :: .slice s1 x_lives.length c1 :: .int .i64 x_batch.base :: .int .i64 x_batch.count :: .int .i64 x_batch.prod :: .int .i64 x_batch.seq :: .int .i64 x_batch.time :: .slice s2 x_batch.recs.length c2 :: .slice s3 x_table.length c3 :: .int .i64 x_req.client :: .int .i64 x_req.n :: .int .i64 x_req.kind :: .int .i64 x_req.part :: .int .i64 x_req.seq :: .int .i64 x_req.off :: .int .i64 x_req.max :: .int .i64 x_req.gen :: .string ⟨x_req.group.toArray⟩ :: .string ⟨x_req.member.toArray⟩ :: .slice s4 x_req.recs.length c4 :: .int .i64 x_resp.client :: .int .i64 x_resp.n :: .int .i64 x_resp.code :: .int .i64 x_resp.off :: .int .i64 x_resp.high :: .int .i64 x_resp.gen :: .slice s5 x_resp.parts.length c5 :: .slice s6 x_resp.recs.length c6 :: []) _ R2.out HU.out (by rfl) HI38.out ?_)
 refine (HFD.out _ B2.out).mono ?_
 rintro e w3 ⟨v3, rfl, ho3, hb3⟩
 have B3 := Lib.hid (bt B2.out hb3)
 have S3 := Lib.hid (strs_own ho3)
 clear hb3 ho3 R2 HFD
 go_wp2_with fail
 refine (HBL.out _ _ S3.out).mono ?_
 rintro e w4 ⟨rfl, hb4⟩
 have B4 := Lib.hid (bt B3.out hb4)
 clear hb4 S3 HBL
 go_wp2_with fail
 refine (HPT.out _).mono ?_
 rintro e w5 ⟨rfl, hb5⟩
 have B5 := Lib.hid (bt B4.out hb5)
 clear hb5 HPT
 go_wp2
 go_ret2
 exact ⟨rfl, B5.out⟩
end Go.Proofs.YtjfpbeccpcbpcaaGreatDoor
namespace Go.Proofs.YtjfpbeccpcbpcaaGreatDoor
open Go.RowKit
def wencR (m : Wi.Msg) : Value := if Wi.good m then .tuple #[.string ⟨(Frm.put (Wi.enc m)).toArray⟩, .int .i64 0] else .tuple #[.string ⟨#[]⟩, .int .i64 1]
theorem wencode_any (m : Wi.Msg) (v : MsgV) (w : World) (h : MsgAt w m v) (ok : MsgOk m) (hcap : CapOk v.arecs) (hw : Lw w) :
  Calls Tryz.prog 11 #[msgV m v] w fun e w' => e = .returned (wencR m) ∧ Below w.heap.size w w' := by
 unfold wencR
 cases hg : Wi.good m
 ·refine encode_no (msgC m v) rfl w fun W hW => ?_
  have := wgood_any m v W (h.kept hW) ok hcap (hw.below hW)
  rw [hg] at this
  exact this
 ·exact wencode_yes m v w h ok hcap hg hw
end Go.Proofs.YtjfpbeccpcbpcaaGreatDoor
namespace Go.Proofs.YtjfpbeccpcbpcaaGreatDoor
open Go.RowKit
def recCells (l : List Cr.Rec) : List Value := l.flatMap fun x => [.int .i64 x.off, .string ⟨x.key.toArray⟩, .string ⟨x.val.toArray⟩, .bool x.gone]
theorem recCells_get : ∀ (l : List Cr.Rec) (k : Nat) (x : Cr.Rec), l[k]? = some x → (recCells l)[k * 4]? = some (.int .i64 x.off) ∧ (recCells l)[k * 4 + 1]? = some (.string ⟨x.key.toArray⟩) ∧ (recCells l)[k * 4 + 2]? = some (.string ⟨x.val.toArray⟩) ∧ (recCells l)[k * 4 + 3]? = some (.bool x.gone) := by
 intro l
 induction l with
 | nil => intro k x h; simp at h
 | cons y l ih =>
  intro k x h
  cases k with
  | zero =>
   simp at h
   subst h
   exact ⟨rfl, rfl, rfl, rfl⟩
  | succ k =>
   have e : recCells (y :: l) = [.int .i64 y.off, .string ⟨y.key.toArray⟩, .string ⟨y.val.toArray⟩, .bool y.gone] ++ recCells l := rfl
   have hk := ih k x (by simpa using h)
   rw [e, show (k + 1) * 4 = 4 + k * 4 by omega]
   simp only [List.cons_append, List.nil_append, Nat.add_assoc, Nat.add_comm 4, List.getElem?_cons_succ]
   exact hk
theorem Sl.recs {w : World} {B : Nat} {v : Value} {l : List Cr.Rec} (h : Sl w B 4 v l.length (recCells l)) : Recs w v l := by
 rcases h.2 with ⟨rfl, h0⟩ | ⟨g, off, cap, rfl, hB, hg, hn, hm, hr, ht⟩
 ·exact ⟨none, 0, by rw [h0], fun i x hx => by
   have := (List.getElem?_eq_some_iff.1 hx).1
   omega⟩
 ·refine ⟨_, cap, rfl, fun i x hx => ⟨g, off, rfl, hg, ?_⟩⟩
  obtain ⟨h0, h1, h2, h3⟩ := recCells_get l i x hx
  exact ⟨hr _ _ h0, by rw [Nat.add_assoc]; exact hr _ _ h1, by rw [Nat.add_assoc]; exact hr _ _ h2, by rw [Nat.add_assoc]; exact hr _ _ h3⟩
def zeroBat : Cr.Batch := ⟨0, 0, 0, 0, 0, []⟩
def BatR (w : World) (o : Option Cr.Batch) (bad : Int) (e : Ending) (w' : World) : Prop :=
 ∃ rv, e = .returned (.tuple #[batV (o.getD zeroBat) rv, .int .i64 (if o.isSome then 0 else bad)]) ∧ Recs w' rv (o.getD zeroBat).recs ∧ Below w.heap.size w w'
theorem recs_none (w : World) : Recs w (.slice none 0 0) [] := ⟨none, 0, rfl, fun i x h => by simp at h⟩
def zeroCells : List Value := [.int .i64 0, .int .i64 0, .int .i64 0, .int .i64 0, .int .i64 0, .slice none 0 0]
theorem BatR.no {w w' : World} {bad : Int} (h : Below w.heap.size w w') : BatR w none bad (.returned (.tuple #[.agg zeroCells.toArray, .int .i64 bad])) w' := ⟨.slice none 0 0, rfl, recs_none w', h⟩
end Go.Proofs.YtjfpbeccpcbpcaaGreatDoor
namespace Go.Proofs.YtjfpbeccpcbpcaaGreatDoor
open Go.RowKit
end Go.Proofs.YtjfpbeccpcbpcaaGreatDoor
namespace Go.Proofs.YtjfpbeccpcbpcaaGreatDoor
open Go.RowKit
def BatO (w : World) (o : Option Cr.Batch) (bad : Int) (e : Ending) (w' : World) : Prop :=
 ∃ rv, e = .returned (.tuple #[batV (o.getD zeroBat) rv, .int .i64 (if o.isSome then 0 else bad)]) ∧ w'.ownsRow w.heap.size 107 4 rv (o.getD zeroBat).recs.length (recCells (o.getD zeroBat).recs) ∧ BatOk (o.getD zeroBat) ∧ Below w.heap.size w w'
theorem BatO.no {w w' : World} {bad : Int} (h : Below w.heap.size w w') : BatO w none bad (.returned (.tuple #[.agg zeroCells.toArray, .int .i64 bad])) w' :=
 ⟨.slice none 0 0, rfl, ⟨rfl, .inl ⟨rfl, rfl⟩⟩, ⟨⟨by decide, by decide⟩, ⟨by decide, by decide⟩, ⟨by decide, by decide⟩, ⟨by decide, by decide⟩, ⟨by decide, by decide⟩, by unfold maxLen; exact Nat.zero_le _, fun x hx => by cases hx⟩, h⟩
end Go.Proofs.YtjfpbeccpcbpcaaGreatDoor
namespace Go.Proofs.YtjfpbeccpcbpcaaGreatDoor
open Go.RowKit
end Go.Proofs.YtjfpbeccpcbpcaaGreatDoor
namespace Go.Proofs.YtjfpbeccpcbpcaaGreatDoor
open Go.RowKit
end Go.Proofs.YtjfpbeccpcbpcaaGreatDoor
namespace Go.Proofs.YtjfpbeccpcbpcaaGreatDoor
open Go.RowKit
theorem Rx.own {w W W' : World} {p x : Nat} {q q' : Bd.St} {cs : List Value} {t : TypeId} (h : Rx w p x W q cs t) (hr : Rd W' p q') (k : Kp W p W') : Rx w p x W' q' cs t :=
 ⟨hr, h.2.1.keep k (fun e => by have := h.2.1.lt; rcases e with e | e; exact h.2.2.1 e; omega), h.2.2.1, h.2.2.2.1, h.2.2.2.2.trans k⟩
end Go.Proofs.YtjfpbeccpcbpcaaGreatDoor
namespace Go.Proofs.YtjfpbeccpcbpcaaGreatDoor
open Go.RowKit
end Go.Proofs.YtjfpbeccpcbpcaaGreatDoor
namespace Go.Proofs.YtjfpbeccpcbpcaaGreatDoor
open Go.RowKit Go.Shelf
attribute [local go_sem] Oper.semAt_some
def KpC (bs bn : Nat) (A B : World) : Prop := B.heap[bs]? = A.heap[bs]? ∧ B.heap[bn]? = A.heap[bn]?
theorem KpC.trans {bs bn : Nat} {A B C : World} (h : KpC bs bn A B) (k : KpC bs bn B C) : KpC bs bn A C := ⟨k.1.trans h.1, k.2.trans h.2⟩
end Go.Proofs.YtjfpbeccpcbpcaaGreatDoor
namespace Go.Proofs.YtjfpbeccpcbpcaaGreatDoor
open Go.RowKit Go.Shelf
attribute [local go_sem] Oper.semAt_some
def lifeCells (l : List (Int × Int)) : List Value := l.flatMap fun x => [.int .i64 x.1, .int .i64 x.2]
def pairAt (l : List Int) (k : Nat) : Int × Int := (l.getD (2 * k) 0, l.getD (2 * k + 1) 0)
def livesOf {m : Nat} (l : List Int) (pre : List (Fin m)) : List (Int × Int) := pre.map fun x => pairAt l x.1
def PlI (W0 : World) (xb : Nat) (l : List Int) {m : Nat} (pre : List (Fin m)) (W : World) : Prop :=
 ∃ a c, W.ownsRow W0.heap.size 64 2 (.slice a pre.length c) pre.length (lifeCells (livesOf l pre)) ∧ Cl W xb [.slice a pre.length c] 25 ∧ Keeps (fun k => k = xb ∨ W0.heap.size ≤ k) W0 W
theorem own_round {w w' : World} {b : Nat} {e : TypeId} {size : Nat} {v : Value} {n : Nat} {xs : List Value} {row : Option Nat} (h : w.ownsRow b e size v n xs) (hg : w.grownBy w' row) (hr : ∀ r, row = some r → ∃ o : Obj, w.heap[r]? = some o ∧ o.isCells = false) : w'.ownsRow b e size v n xs := by
 refine World.ownsRow.kept h hg ?_
 rcases h.2 with ⟨rfl, _⟩ | ⟨g', cap, cur, rfl, _, hg', _⟩
 ·exact .inl rfl
 ·right
  intro he
  obtain ⟨o, ho, hc⟩ := hr g' he.symm
  rw [hg'] at ho
  injection ho with ho
  subst ho
  cases hc
theorem cl_round {w w' : World} {g : Nat} {cs : List Value} {t : TypeId} {row : Option Nat} (h : Cl w g cs t) (hg : w.grownBy w' row) (hr : ∀ r, row = some r → ∃ o : Obj, w.heap[r]? = some o ∧ o.isCells = false) : Cl w' g cs t := by
 refine h.grown hg (fun e => ?_)
 obtain ⟨o, ho, hc⟩ := hr g e.symm
 have hs' : w.heap[g]? = _ := h
 rw [hs'] at ho
 injection ho with ho
 subst ho
 cases hc
theorem PlI.own {W0 : World} {xb : Nat} {l : List Int} {m : Nat} : OwnFrom W0.heap.size (PlI W0 xb l (m := m)) := fun pre W W' row ⟨a, c, ho, hc, hk⟩ hg hr =>
 ⟨a, c, own_round ho hg (fun r e => (hr r e).2), cl_round hc hg (fun r e => (hr r e).2), hk.trans ⟨hg.os, hg.tape, hg.output, hg.size, fun k hk hn => hg.block k hk (fun e => hn (.inr (hr k e.symm).1))⟩⟩
end Go.Proofs.YtjfpbeccpcbpcaaGreatDoor
