/-
  Wf5 / Wf6 / Wf70: texts of one proof, one behind the other.
  Conditions: none of its own.
-/
import Derived.Test.YtjfpbeccpcbpcaaGreatDoorZaw
set_option linter.unusedVariables false
set_option linter.unusedSimpArgs false
namespace Go.Proofs.YtjfpbeccpcbpcaaGreatDoor
open Go.RowKit
set_option maxRecDepth 20000 in
set_option maxHeartbeats 6400000 in
theorem wfields_k5 (m : Wi.Msg) (v : MsgV) (w : World) (h : MsgAt w m v) (ok : MsgOk m) (hk : m.kind = 5) (hg : Wi.good m = true) (hw : Lw w) :
  Calls Tryz.prog 23 #[msgV m v] w (WStrs w (Wi.fieldsL m)) := by
 have HW := Lib.hid hw
 have HM := Lib.hid h
 have HO := Lib.hid ok
 have hn := ok.n
 simp only [List.mem_cons, List.not_mem_nil, or_false, forall_eq_or_imp, forall_eq] at hn
 obtain ⟨n0, n1, n2, n3, n4, n5, n6, n7, _⟩ := hn
 obtain ⟨i0, hi, hz0, hz1, hz2⟩ := info_parts cinfoStr
 obtain ⟨s0, c0, hh0⟩ := h.chain.form
 obtain ⟨s1, c1, hh1⟩ := h.lives.form
 obtain ⟨s2, c2, hh2⟩ := h.brecs.form
 obtain ⟨s3, c3, hh3⟩ := h.table.form
 obtain ⟨s4, c4, hh4⟩ := h.qrecs.form
 obtain ⟨s5, c5, hh5⟩ := h.parts.form
 obtain ⟨s6, c6, hh6⟩ := h.arecs.form
 obtain ⟨v0, v1, v2, v3, v4, v5, v6⟩ := v
 dsimp only at hh0 hh1 hh2 hh3 hh4 hh5 hh6
 subst hh0 hh1 hh2 hh3 hh4 hh5 hh6
 obtain ⟨x_kind, x_frm, x_to, x_part, x_ep, x_off, x_high, x_life, x_pep, x_chain, x_learner, x_lives, x_batch, x_table, x_req, x_resp⟩ := m
 dsimp only at *
 subst hk
 have GB : Hid (Cr.good x_batch = true) := by have := hg; simp [Wi.good, Wi.lastB] at this; exact this.2
 have HEL : Hid ((Cr.enc x_batch).length ≤ 140737488355328) := by have := Cr.enc_len GB.out; show _ ≤ _; omega
 clear h ok hw hg
 have HFM : Hid (Wi.fieldsL ⟨5, x_frm, x_to, x_part, x_ep, x_off, x_high, x_life, x_pep, x_chain, x_learner, x_lives, x_batch, x_table, x_req, x_resp⟩ = [5, x_frm, x_to].map Bd.bInt ++ [x_part, x_ep].map Bd.bInt ++ [Bd.bText (Cr.enc x_batch)]) := by rw [Hid]; simp [Wi.fieldsL, Wi.headL, Wi.tailL]
 unfold msgV msgC
 dsimp only
 go_enter Tryz.func23, Tryz.ntmps23
 obtain ⟨w1, hw1, CA, B1⟩ := oneBox (w := w) (.int .i64 5 :: .int .i64 x_frm :: .int .i64 x_to :: .int .i64 x_part :: .int .i64 x_ep :: .int .i64 x_off :: .int .i64 x_high :: .int .i64 x_life :: .int .i64 x_pep :: .slice s0 x_chain.length c0 :: .int .i64 x_learner :: .slice s1 x_lives.length c1 :: .int .i64 x_batch.base :: .int .i64 x_batch.count :: .int .i64 x_batch.prod :: .int .i64 x_batch.seq :: .int .i64 x_batch.time :: .slice s2 x_batch.recs.length c2 :: .slice s3 x_table.length c3 :: .int .i64 x_req.client :: .int .i64 x_req.n :: .int .i64 x_req.kind :: .int .i64 x_req.part :: .int .i64 x_req.seq :: .int .i64 x_req.off :: .int .i64 x_req.max :: .int .i64 x_req.gen :: .string ⟨x_req.group.toArray⟩ :: .string ⟨x_req.member.toArray⟩ :: .slice s4 x_req.recs.length c4 :: .int .i64 x_resp.client :: .int .i64 x_resp.n :: .int .i64 x_resp.code :: .int .i64 x_resp.off :: .int .i64 x_resp.high :: .int .i64 x_resp.gen :: .slice s5 x_resp.parts.length c5 :: .slice s6 x_resp.recs.length c6 :: []) 36
 have HW1 := Lib.hid hw1
 clear hw1
 go_upto_region 1 with (fail)
 first | rw [HW1.out] | skip
 clear HW1
 have hpa := CA.out.lt
 have HI : Hid (∀ W, Below w1.heap.size w1 W → w1.heap.size ≤ W.heap.size) := fun W h => h.size
 have BW : Hid (∀ W, Below w1.heap.size w1 W → Below w.heap.size w W) := fun W h => bt B1.out h
 have LW1 := Lib.hid (HW.out.below B1.out)
 have HSW : Hid (w.heap.size ≤ w1.heap.size) := B1.out.size
 have B0 : Hid (Below w1.heap.size w1 w1) := Below.refl _ _
 obtain ⟨pa, hpa2⟩ : ∃ pa, pa = w.heap.size := ⟨_, rfl⟩
 rw [← hpa2] at CA ⊢
 have HPA := Lib.hid hpa2
 clear hpa2 hpa
 have CX := Lib.hid (CA.out.below B0.out)
 have a0 := CX.out.cell 0
 have a1 := CX.out.cell 1
 have a2 := CX.out.cell 2
 simp only [List.getElem?_cons_zero, List.getElem?_cons_succ] at a0 a1 a2
 have C1 : Hid (Cl (w1.alloc (.cells #[.int .i64 5, .int .i64 x_frm, .int .i64 x_to] 3)) w1.heap.size [.int .i64 5, .int .i64 x_frm, .int .i64 x_to] 3) := Cl.new w1 _ _
 have D1 : Hid (Below w1.heap.size w1 (w1.alloc (.cells #[.int .i64 5, .int .i64 x_frm, .int .i64 x_to] 3))) := (Below.refl _ _).alloc (Nat.le_refl _) _
 have HC1 := Lib.hid (wints_any [5, x_frm, x_to] (by simp) (by simp only [List.mem_cons, List.not_mem_nil, or_false, forall_eq_or_imp, forall_eq]; exact ⟨n0, n1, n2⟩) _ _ (ints3_cl C1.out) (LW1.out.below (bt B0.out D1.out)))
 go_wp2_with fail
 refine HC1.out.mono ?_
 rintro e w11 ⟨v11, rfl, ho1, hb1⟩
 have B10 := Lib.hid (bt D1.out hb1)
 have B1 := Lib.hid (bt B0.out B10.out)
 have hs1 := HI.out _ B1.out
 have HR1 := Lib.hid (ownsRow_weaken ho1 (show w1.heap.size ≤ (w1.alloc (.cells #[.int .i64 5, .int .i64 x_frm, .int .i64 x_to] 3)).heap.size by have := HI.out _ (bt B0.out D1.out); exact this))
 clear hb1 ho1 HC1 C1 D1
 clear CX a0 a1 a2
 have kx := (CA.out.below B1.out).cell 0
 simp only [List.getElem?_cons_zero, List.getElem?_cons_succ] at kx
 have CX := Lib.hid (CA.out.below B1.out)
 have a3 := CX.out.cell 3
 have a4 := CX.out.cell 4
 simp only [List.getElem?_cons_zero, List.getElem?_cons_succ] at a3 a4
 have C2 : Hid (Cl (w11.alloc (.cells #[.int .i64 x_part, .int .i64 x_ep] 3)) w11.heap.size [.int .i64 x_part, .int .i64 x_ep] 3) := Cl.new w11 _ _
 have D2 : Hid (Below w11.heap.size w11 (w11.alloc (.cells #[.int .i64 x_part, .int .i64 x_ep] 3))) := (Below.refl _ _).alloc (Nat.le_refl _) _
 have HC2 := Lib.hid (wints_any [x_part, x_ep] (by simp) (by simp only [List.mem_cons, List.not_mem_nil, or_false, forall_eq_or_imp, forall_eq]; exact ⟨n3, n4⟩) _ _ (ints2_cl C2.out) (LW1.out.below (bt B1.out D2.out)))
 go_wp2_with fail
 refine HC2.out.mono ?_
 rintro e w12 ⟨v12, rfl, ho2, hb2⟩
 have B20 := Lib.hid (bt D2.out hb2)
 have B2 := Lib.hid (bt B1.out B20.out)
 have hs2 := HI.out _ B2.out
 have HR2 := Lib.hid (ownsRow_weaken ho2 (show w1.heap.size ≤ (w11.alloc (.cells #[.int .i64 x_part, .int .i64 x_ep] 3)).heap.size by have := HI.out _ (bt B1.out D2.out); exact this))
 clear hb2 ho2 HC2 C2 D2
 clear CX a3 a4
 have HO2 := Lib.hid (ownsRow_below HR1.out B20.out)
 clear HR1
 clear kx
 have HS3 := Lib.hid (own_slice HR2.out (by simp))
 obtain ⟨g3, cap3, hv3, hc3⟩ := HS3.out
 subst hv3
 clear HS3
 go_wp2_with (at_builtin; refine wpList_append_own _ rfl _ _ 51 rfl w1.heap.size 9 i0 (.string ⟨#[]⟩) 1 16 Tryz.underlying51 hi hz0 hz1 hz2 rfl (by decide) _ _ _ rfl HO2.out ⟨g3, 0, none⟩ _ _ (sv ([x_part, x_ep].map Bd.bInt)) rfl (by simp [sv]) hc3 ?_ ?_ ?_ ?_ ?_)
 ·simp [sv, Value.oneCell']
 ·unfold maxLen; simp
 ·simp
 ·omega
 intro v13 w13 hown3 hg3 _
 have HO3 : Hid (w13.ownsRow w1.heap.size 9 1 v13 (([5, x_frm, x_to].map Bd.bInt) ++ ([x_part, x_ep].map Bd.bInt)).length (sv (([5, x_frm, x_to].map Bd.bInt) ++ ([x_part, x_ep].map Bd.bInt)))) := by rw [Hid, sv_append]; exact hown3
 have B3 : Hid (Below w1.heap.size w1 w13) := B2.out.grown hg3 B2.out.size (fun kk hkk => (HO2.out.lt kk hkk).1)
 clear hown3 hg3 hc3
 have kx := (CA.out.below B3.out).cell 0
 simp only [List.getElem?_cons_zero, List.getElem?_cons_succ] at kx
 have CX := Lib.hid (CA.out.below B3.out)
 have a12 := CX.out.cell 12
 have a13 := CX.out.cell 13
 have a14 := CX.out.cell 14
 have a15 := CX.out.cell 15
 have a16 := CX.out.cell 16
 have a17 := CX.out.cell 17
 simp only [List.getElem?_cons_zero, List.getElem?_cons_succ] at a12 a13 a14 a15 a16 a17
 have LW4 := Lib.hid (LW1.out.below B3.out)
 have HJ4 := Lib.hid (encode_any x_batch HO.out.b _ w13 (HM.out.kept (BW.out _ B3.out)).brecs LW4.out)
 rw [encR, if_pos GB.out] at HJ4
 unfold batV at HJ4
 go_wp2_with fail
 refine HJ4.out.mono ?_
 rintro e w14 ⟨rfl, hb4⟩
 have HO4 := Lib.hid (ownsRow_below HO3.out hb4)
 have B4 := Lib.hid (bt B3.out hb4)
 have hs4 := HI.out _ B4.out
 clear hb4 HJ4 HO3
 clear CX a12 a13 a14 a15 a16 a17
 clear kx
 have LW6 := Lib.hid (LW1.out.below B4.out)
 have HJ6 := Lib.hid (beadText_any (Cr.enc x_batch) HEL.out w14 LW6.out)
 generalize hbl6 : Bd.bText (Cr.enc x_batch) = bl6 at HJ6 HFM
 clear hbl6
 go_wp2_with fail
 refine HJ6.out.mono ?_
 rintro e w16 ⟨rfl, hb6⟩
 have HO6 := Lib.hid (ownsRow_below HO4.out hb6)
 have B6 := Lib.hid (bt B4.out hb6)
 have hs6 := HI.out _ B6.out
 clear hb6 HJ6 HO4
 go_wp2_with (at_builtin; refine wpList_append_own _ rfl _ _ 51 rfl w1.heap.size 9 i0 (.string ⟨#[]⟩) 1 16 Tryz.underlying51 hi hz0 hz1 hz2 rfl (by decide) _ _ _ rfl (World.ownsRow.alloc HO6.out _) ⟨w16.heap.size, 0, none⟩ 1 1 [.string ⟨bl6.toArray⟩] rfl rfl (cells_new _ [bl6] _) ?_ ?_ ?_ ?_ ?_)
 ·simp [Value.oneCell']
 ·unfold maxLen; simp
 ·simp
 ·simp; omega
 intro v25 w25 hown5 hg5 _
 have HO5 : Hid (w25.ownsRow w1.heap.size 9 1 v25 ((([5, x_frm, x_to].map Bd.bInt) ++ ([x_part, x_ep].map Bd.bInt)) ++ [bl6]).length (sv ((([5, x_frm, x_to].map Bd.bInt) ++ ([x_part, x_ep].map Bd.bInt)) ++ [bl6]))) := by rw [Hid, sv_append]; exact hown5
 have B5 : Hid (Below w1.heap.size w1 w25) := (B6.out.alloc hs6 _).grown hg5 (by simp; omega) (fun kk hkk => (HO6.out.lt kk hkk).1)
 clear hown5 hg5 HO6
 go_wp2
 go_ret
 refine ⟨_, rfl, ?_, BW.out _ B5.out⟩
 rw [HFM.out]
 exact ownsRow_weaken HO5.out HSW.out
end Go.Proofs.YtjfpbeccpcbpcaaGreatDoor
namespace Go.Proofs.YtjfpbeccpcbpcaaGreatDoor
open Go.RowKit
set_option maxRecDepth 20000 in
set_option maxHeartbeats 6400000 in
theorem wfields_k6 (m : Wi.Msg) (v : MsgV) (w : World) (h : MsgAt w m v) (ok : MsgOk m) (hk : m.kind = 6) (hg : Wi.good m = true) (hw : Lw w) :
  Calls Tryz.prog 23 #[msgV m v] w (WStrs w (Wi.fieldsL m)) := by
 have HW := Lib.hid hw
 have HM := Lib.hid h
 have HO := Lib.hid ok
 have hn := ok.n
 simp only [List.mem_cons, List.not_mem_nil, or_false, forall_eq_or_imp, forall_eq] at hn
 obtain ⟨n0, n1, n2, n3, n4, n5, n6, n7, _⟩ := hn
 obtain ⟨i0, hi, hz0, hz1, hz2⟩ := info_parts cinfoStr
 obtain ⟨s0, c0, hh0⟩ := h.chain.form
 obtain ⟨s1, c1, hh1⟩ := h.lives.form
 obtain ⟨s2, c2, hh2⟩ := h.brecs.form
 obtain ⟨s3, c3, hh3⟩ := h.table.form
 obtain ⟨s4, c4, hh4⟩ := h.qrecs.form
 obtain ⟨s5, c5, hh5⟩ := h.parts.form
 obtain ⟨s6, c6, hh6⟩ := h.arecs.form
 obtain ⟨v0, v1, v2, v3, v4, v5, v6⟩ := v
 dsimp only at hh0 hh1 hh2 hh3 hh4 hh5 hh6
 subst hh0 hh1 hh2 hh3 hh4 hh5 hh6
 obtain ⟨x_kind, x_frm, x_to, x_part, x_ep, x_off, x_high, x_life, x_pep, x_chain, x_learner, x_lives, x_batch, x_table, x_req, x_resp⟩ := m
 dsimp only at *
 subst hk
 clear h ok hw hg
 have HFM : Hid (Wi.fieldsL ⟨6, x_frm, x_to, x_part, x_ep, x_off, x_high, x_life, x_pep, x_chain, x_learner, x_lives, x_batch, x_table, x_req, x_resp⟩ = [6, x_frm, x_to].map Bd.bInt ++ [x_part, x_ep].map Bd.bInt ++ [x_off, x_high].map Bd.bInt) := by rw [Hid]; simp [Wi.fieldsL, Wi.headL, Wi.tailL]
 unfold msgV msgC
 dsimp only
 go_enter Tryz.func23, Tryz.ntmps23
 obtain ⟨w1, hw1, CA, B1⟩ := oneBox (w := w) (.int .i64 6 :: .int .i64 x_frm :: .int .i64 x_to :: .int .i64 x_part :: .int .i64 x_ep :: .int .i64 x_off :: .int .i64 x_high :: .int .i64 x_life :: .int .i64 x_pep :: .slice s0 x_chain.length c0 :: .int .i64 x_learner :: .slice s1 x_lives.length c1 :: .int .i64 x_batch.base :: .int .i64 x_batch.count :: .int .i64 x_batch.prod :: .int .i64 x_batch.seq :: .int .i64 x_batch.time :: .slice s2 x_batch.recs.length c2 :: .slice s3 x_table.length c3 :: .int .i64 x_req.client :: .int .i64 x_req.n :: .int .i64 x_req.kind :: .int .i64 x_req.part :: .int .i64 x_req.seq :: .int .i64 x_req.off :: .int .i64 x_req.max :: .int .i64 x_req.gen :: .string ⟨x_req.group.toArray⟩ :: .string ⟨x_req.member.toArray⟩ :: .slice s4 x_req.recs.length c4 :: .int .i64 x_resp.client :: .int .i64 x_resp.n :: .int .i64 x_resp.code :: .int .i64 x_resp.off :: .int .i64 x_resp.high :: .int .i64 x_resp.gen :: .slice s5 x_resp.parts.length c5 :: .slice s6 x_resp.recs.length c6 :: []) 36
 have HW1 := Lib.hid hw1
 clear hw1
 go_upto_region 1 with (fail)
 first | rw [HW1.out] | skip
 clear HW1
 have hpa := CA.out.lt
 have HI : Hid (∀ W, Below w1.heap.size w1 W → w1.heap.size ≤ W.heap.size) := fun W h => h.size
 have BW : Hid (∀ W, Below w1.heap.size w1 W → Below w.heap.size w W) := fun W h => bt B1.out h
 have LW1 := Lib.hid (HW.out.below B1.out)
 have HSW : Hid (w.heap.size ≤ w1.heap.size) := B1.out.size
 have B0 : Hid (Below w1.heap.size w1 w1) := Below.refl _ _
 obtain ⟨pa, hpa2⟩ : ∃ pa, pa = w.heap.size := ⟨_, rfl⟩
 rw [← hpa2] at CA ⊢
 have HPA := Lib.hid hpa2
 clear hpa2 hpa
 have CX := Lib.hid (CA.out.below B0.out)
 have a0 := CX.out.cell 0
 have a1 := CX.out.cell 1
 have a2 := CX.out.cell 2
 simp only [List.getElem?_cons_zero, List.getElem?_cons_succ] at a0 a1 a2
 have C1 : Hid (Cl (w1.alloc (.cells #[.int .i64 6, .int .i64 x_frm, .int .i64 x_to] 3)) w1.heap.size [.int .i64 6, .int .i64 x_frm, .int .i64 x_to] 3) := Cl.new w1 _ _
 have D1 : Hid (Below w1.heap.size w1 (w1.alloc (.cells #[.int .i64 6, .int .i64 x_frm, .int .i64 x_to] 3))) := (Below.refl _ _).alloc (Nat.le_refl _) _
 have HC1 := Lib.hid (wints_any [6, x_frm, x_to] (by simp) (by simp only [List.mem_cons, List.not_mem_nil, or_false, forall_eq_or_imp, forall_eq]; exact ⟨n0, n1, n2⟩) _ _ (ints3_cl C1.out) (LW1.out.below (bt B0.out D1.out)))
 go_wp2_with fail
 refine HC1.out.mono ?_
 rintro e w11 ⟨v11, rfl, ho1, hb1⟩
 have B10 := Lib.hid (bt D1.out hb1)
 have B1 := Lib.hid (bt B0.out B10.out)
 have hs1 := HI.out _ B1.out
 have HR1 := Lib.hid (ownsRow_weaken ho1 (show w1.heap.size ≤ (w1.alloc (.cells #[.int .i64 6, .int .i64 x_frm, .int .i64 x_to] 3)).heap.size by have := HI.out _ (bt B0.out D1.out); exact this))
 clear hb1 ho1 HC1 C1 D1
 clear CX a0 a1 a2
 have kx := (CA.out.below B1.out).cell 0
 simp only [List.getElem?_cons_zero, List.getElem?_cons_succ] at kx
 have CX := Lib.hid (CA.out.below B1.out)
 have a3 := CX.out.cell 3
 have a4 := CX.out.cell 4
 simp only [List.getElem?_cons_zero, List.getElem?_cons_succ] at a3 a4
 have C2 : Hid (Cl (w11.alloc (.cells #[.int .i64 x_part, .int .i64 x_ep] 3)) w11.heap.size [.int .i64 x_part, .int .i64 x_ep] 3) := Cl.new w11 _ _
 have D2 : Hid (Below w11.heap.size w11 (w11.alloc (.cells #[.int .i64 x_part, .int .i64 x_ep] 3))) := (Below.refl _ _).alloc (Nat.le_refl _) _
 have HC2 := Lib.hid (wints_any [x_part, x_ep] (by simp) (by simp only [List.mem_cons, List.not_mem_nil, or_false, forall_eq_or_imp, forall_eq]; exact ⟨n3, n4⟩) _ _ (ints2_cl C2.out) (LW1.out.below (bt B1.out D2.out)))
 go_wp2_with fail
 refine HC2.out.mono ?_
 rintro e w12 ⟨v12, rfl, ho2, hb2⟩
 have B20 := Lib.hid (bt D2.out hb2)
 have B2 := Lib.hid (bt B1.out B20.out)
 have hs2 := HI.out _ B2.out
 have HR2 := Lib.hid (ownsRow_weaken ho2 (show w1.heap.size ≤ (w11.alloc (.cells #[.int .i64 x_part, .int .i64 x_ep] 3)).heap.size by have := HI.out _ (bt B1.out D2.out); exact this))
 clear hb2 ho2 HC2 C2 D2
 clear CX a3 a4
 have HO2 := Lib.hid (ownsRow_below HR1.out B20.out)
 clear HR1
 clear kx
 have HS3 := Lib.hid (own_slice HR2.out (by simp))
 obtain ⟨g3, cap3, hv3, hc3⟩ := HS3.out
 subst hv3
 clear HS3
 go_wp2_with (at_builtin; refine wpList_append_own _ rfl _ _ 51 rfl w1.heap.size 9 i0 (.string ⟨#[]⟩) 1 16 Tryz.underlying51 hi hz0 hz1 hz2 rfl (by decide) _ _ _ rfl HO2.out ⟨g3, 0, none⟩ _ _ (sv ([x_part, x_ep].map Bd.bInt)) rfl (by simp [sv]) hc3 ?_ ?_ ?_ ?_ ?_)
 ·simp [sv, Value.oneCell']
 ·unfold maxLen; simp
 ·simp
 ·omega
 intro v13 w13 hown3 hg3 _
 have HO3 : Hid (w13.ownsRow w1.heap.size 9 1 v13 (([6, x_frm, x_to].map Bd.bInt) ++ ([x_part, x_ep].map Bd.bInt)).length (sv (([6, x_frm, x_to].map Bd.bInt) ++ ([x_part, x_ep].map Bd.bInt)))) := by rw [Hid, sv_append]; exact hown3
 have B3 : Hid (Below w1.heap.size w1 w13) := B2.out.grown hg3 B2.out.size (fun kk hkk => (HO2.out.lt kk hkk).1)
 clear hown3 hg3 hc3
 have kx := (CA.out.below B3.out).cell 0
 simp only [List.getElem?_cons_zero, List.getElem?_cons_succ] at kx
 have CX := Lib.hid (CA.out.below B3.out)
 have a5 := CX.out.cell 5
 have a6 := CX.out.cell 6
 simp only [List.getElem?_cons_zero, List.getElem?_cons_succ] at a5 a6
 have C4 : Hid (Cl (w13.alloc (.cells #[.int .i64 x_off, .int .i64 x_high] 3)) w13.heap.size [.int .i64 x_off, .int .i64 x_high] 3) := Cl.new w13 _ _
 have D4 : Hid (Below w13.heap.size w13 (w13.alloc (.cells #[.int .i64 x_off, .int .i64 x_high] 3))) := (Below.refl _ _).alloc (Nat.le_refl _) _
 have HC4 := Lib.hid (wints_any [x_off, x_high] (by simp) (by simp only [List.mem_cons, List.not_mem_nil, or_false, forall_eq_or_imp, forall_eq]; exact ⟨n5, n6⟩) _ _ (ints2_cl C4.out) (LW1.out.below (bt B3.out D4.out)))
 go_wp2_with fail
 refine HC4.out.mono ?_
 rintro e w14 ⟨v14, rfl, ho4, hb4⟩
 have B40 := Lib.hid (bt D4.out hb4)
 have B4 := Lib.hid (bt B3.out B40.out)
 have hs4 := HI.out _ B4.out
 have HR4 := Lib.hid (ownsRow_weaken ho4 (show w1.heap.size ≤ (w13.alloc (.cells #[.int .i64 x_off, .int .i64 x_high] 3)).heap.size by have := HI.out _ (bt B3.out D4.out); exact this))
 clear hb4 ho4 HC4 C4 D4
 clear CX a5 a6
 have HO4 := Lib.hid (ownsRow_below HO3.out B40.out)
 clear HO3
 clear kx
 have HS5 := Lib.hid (own_slice HR4.out (by simp))
 obtain ⟨g5, cap5, hv5, hc5⟩ := HS5.out
 subst hv5
 clear HS5
 go_wp2_with (at_builtin; refine wpList_append_own _ rfl _ _ 51 rfl w1.heap.size 9 i0 (.string ⟨#[]⟩) 1 16 Tryz.underlying51 hi hz0 hz1 hz2 rfl (by decide) _ _ _ rfl HO4.out ⟨g5, 0, none⟩ _ _ (sv ([x_off, x_high].map Bd.bInt)) rfl (by simp [sv]) hc5 ?_ ?_ ?_ ?_ ?_)
 ·simp [sv, Value.oneCell']
 ·unfold maxLen; simp
 ·simp
 ·omega
 intro v15 w15 hown5 hg5 _
 have HO5 : Hid (w15.ownsRow w1.heap.size 9 1 v15 ((([6, x_frm, x_to].map Bd.bInt) ++ ([x_part, x_ep].map Bd.bInt)) ++ ([x_off, x_high].map Bd.bInt)).length (sv ((([6, x_frm, x_to].map Bd.bInt) ++ ([x_part, x_ep].map Bd.bInt)) ++ ([x_off, x_high].map Bd.bInt)))) := by rw [Hid, sv_append]; exact hown5
 have B5 : Hid (Below w1.heap.size w1 w15) := B4.out.grown hg5 B4.out.size (fun kk hkk => (HO4.out.lt kk hkk).1)
 clear hown5 hg5 hc5
 go_wp2
 go_ret
 refine ⟨_, rfl, ?_, BW.out _ B5.out⟩
 rw [HFM.out]
 exact ownsRow_weaken HO5.out HSW.out
end Go.Proofs.YtjfpbeccpcbpcaaGreatDoor
namespace Go.Proofs.YtjfpbeccpcbpcaaGreatDoor
open Go.RowKit
set_option maxRecDepth 20000 in
set_option maxHeartbeats 6400000 in
theorem wfields_k7 (m : Wi.Msg) (v : MsgV) (w : World) (h : MsgAt w m v) (ok : MsgOk m) (hk : m.kind = 7) (hg : Wi.good m = true) (hw : Lw w) :
  Calls Tryz.prog 23 #[msgV m v] w (WStrs w (Wi.fieldsL m)) := by
 have HW := Lib.hid hw
 have HM := Lib.hid h
 have HO := Lib.hid ok
 have hn := ok.n
 simp only [List.mem_cons, List.not_mem_nil, or_false, forall_eq_or_imp, forall_eq] at hn
 obtain ⟨n0, n1, n2, n3, n4, n5, n6, n7, n8, n9, q0, q1, q2, q3, q4, q5, q6, q7, r0, r1, r2, r3, r4, r5⟩ := hn
 obtain ⟨i0, hi, hz0, hz1, hz2⟩ := info_parts cinfoStr
 obtain ⟨s0, c0, hh0⟩ := h.chain.form
 obtain ⟨s1, c1, hh1⟩ := h.lives.form
 obtain ⟨s2, c2, hh2⟩ := h.brecs.form
 obtain ⟨s3, c3, hh3⟩ := h.table.form
 obtain ⟨s4, c4, hh4⟩ := h.qrecs.form
 obtain ⟨s5, c5, hh5⟩ := h.parts.form
 obtain ⟨s6, c6, hh6⟩ := h.arecs.form
 obtain ⟨v0, v1, v2, v3, v4, v5, v6⟩ := v
 dsimp only at hh0 hh1 hh2 hh3 hh4 hh5 hh6
 subst hh0 hh1 hh2 hh3 hh4 hh5 hh6
 obtain ⟨x_kind, x_frm, x_to, x_part, x_ep, x_off, x_high, x_life, x_pep, x_chain, x_learner, x_lives, x_batch, x_table, x_req, x_resp⟩ := m
 dsimp only at *
 subst hk
 have hrq := Wi.reqB_parts (q := x_req) (by have := hg; simp [Wi.good, Wi.lastB] at this; exact this.2)
 obtain ⟨_, _, _, _, _, _, _, _, hgr, hme, hrl, hrr⟩ := hrq
 have HL1 : Hid (x_req.group.length ≤ 140737488355328) := by rw [Hid]; omega
 have HL2 : Hid (x_req.member.length ≤ 140737488355328) := by rw [Hid]; omega
 have HL3 : Hid (x_req.recs.length ≤ 16) := by rw [Hid]; omega
 have HL4 : Hid (∀ x ∈ x_req.recs, Cr.isRec x = true ∧ 0 ≤ x.off ∧ x.off ≤ 1099511627776) := fun x hx => ⟨(hrr x hx).2, by have := (hrr x hx).1; omega, by have := (hrr x hx).1; omega⟩
 clear hgr hme hrl hrr
 clear h ok hw hg
 have HFM : Hid (Wi.fieldsL ⟨7, x_frm, x_to, x_part, x_ep, x_off, x_high, x_life, x_pep, x_chain, x_learner, x_lives, x_batch, x_table, x_req, x_resp⟩ = [7, x_frm, x_to].map Bd.bInt ++ [x_part, x_ep].map Bd.bInt ++ [x_req.client, x_req.n, x_req.kind, x_req.part, x_req.seq, x_req.off, x_req.max, x_req.gen].map Bd.bInt ++ [Bd.bText x_req.group, Bd.bText x_req.member, Wi.encRecs x_req.recs]) := by rw [Hid]; simp [Wi.fieldsL, Wi.headL, Wi.tailL, Wi.reqNumsL, Wi.respNumsL]
 unfold msgV msgC
 dsimp only
 go_enter Tryz.func23, Tryz.ntmps23
 obtain ⟨w1, hw1, CA, B1⟩ := oneBox (w := w) (.int .i64 7 :: .int .i64 x_frm :: .int .i64 x_to :: .int .i64 x_part :: .int .i64 x_ep :: .int .i64 x_off :: .int .i64 x_high :: .int .i64 x_life :: .int .i64 x_pep :: .slice s0 x_chain.length c0 :: .int .i64 x_learner :: .slice s1 x_lives.length c1 :: .int .i64 x_batch.base :: .int .i64 x_batch.count :: .int .i64 x_batch.prod :: .int .i64 x_batch.seq :: .int .i64 x_batch.time :: .slice s2 x_batch.recs.length c2 :: .slice s3 x_table.length c3 :: .int .i64 x_req.client :: .int .i64 x_req.n :: .int .i64 x_req.kind :: .int .i64 x_req.part :: .int .i64 x_req.seq :: .int .i64 x_req.off :: .int .i64 x_req.max :: .int .i64 x_req.gen :: .string ⟨x_req.group.toArray⟩ :: .string ⟨x_req.member.toArray⟩ :: .slice s4 x_req.recs.length c4 :: .int .i64 x_resp.client :: .int .i64 x_resp.n :: .int .i64 x_resp.code :: .int .i64 x_resp.off :: .int .i64 x_resp.high :: .int .i64 x_resp.gen :: .slice s5 x_resp.parts.length c5 :: .slice s6 x_resp.recs.length c6 :: []) 36
 have HW1 := Lib.hid hw1
 clear hw1
 go_upto_region 1 with (fail)
 first | rw [HW1.out] | skip
 clear HW1
 have hpa := CA.out.lt
 have HI : Hid (∀ W, Below w1.heap.size w1 W → w1.heap.size ≤ W.heap.size) := fun W h => h.size
 have BW : Hid (∀ W, Below w1.heap.size w1 W → Below w.heap.size w W) := fun W h => bt B1.out h
 have LW1 := Lib.hid (HW.out.below B1.out)
 have HSW : Hid (w.heap.size ≤ w1.heap.size) := B1.out.size
 have B0 : Hid (Below w1.heap.size w1 w1) := Below.refl _ _
 obtain ⟨pa, hpa2⟩ : ∃ pa, pa = w.heap.size := ⟨_, rfl⟩
 rw [← hpa2] at CA ⊢
 have HPA := Lib.hid hpa2
 clear hpa2 hpa
 have CX := Lib.hid (CA.out.below B0.out)
 have a0 := CX.out.cell 0
 have a1 := CX.out.cell 1
 have a2 := CX.out.cell 2
 simp only [List.getElem?_cons_zero, List.getElem?_cons_succ] at a0 a1 a2
 have C1 : Hid (Cl (w1.alloc (.cells #[.int .i64 7, .int .i64 x_frm, .int .i64 x_to] 3)) w1.heap.size [.int .i64 7, .int .i64 x_frm, .int .i64 x_to] 3) := Cl.new w1 _ _
 have D1 : Hid (Below w1.heap.size w1 (w1.alloc (.cells #[.int .i64 7, .int .i64 x_frm, .int .i64 x_to] 3))) := (Below.refl _ _).alloc (Nat.le_refl _) _
 have HC1 := Lib.hid (wints_any [7, x_frm, x_to] (by simp) (by simp only [List.mem_cons, List.not_mem_nil, or_false, forall_eq_or_imp, forall_eq]; exact ⟨n0, n1, n2⟩) _ _ (ints3_cl C1.out) (LW1.out.below (bt B0.out D1.out)))
 go_wp2_with fail
 refine HC1.out.mono ?_
 rintro e w11 ⟨v11, rfl, ho1, hb1⟩
 have B10 := Lib.hid (bt D1.out hb1)
 have B1 := Lib.hid (bt B0.out B10.out)
 have hs1 := HI.out _ B1.out
 have HR1 := Lib.hid (ownsRow_weaken ho1 (show w1.heap.size ≤ (w1.alloc (.cells #[.int .i64 7, .int .i64 x_frm, .int .i64 x_to] 3)).heap.size by have := HI.out _ (bt B0.out D1.out); exact this))
 clear hb1 ho1 HC1 C1 D1
 clear CX a0 a1 a2
 have kx := (CA.out.below B1.out).cell 0
 simp only [List.getElem?_cons_zero, List.getElem?_cons_succ] at kx
 have CX := Lib.hid (CA.out.below B1.out)
 have a3 := CX.out.cell 3
 have a4 := CX.out.cell 4
 simp only [List.getElem?_cons_zero, List.getElem?_cons_succ] at a3 a4
 have C2 : Hid (Cl (w11.alloc (.cells #[.int .i64 x_part, .int .i64 x_ep] 3)) w11.heap.size [.int .i64 x_part, .int .i64 x_ep] 3) := Cl.new w11 _ _
 have D2 : Hid (Below w11.heap.size w11 (w11.alloc (.cells #[.int .i64 x_part, .int .i64 x_ep] 3))) := (Below.refl _ _).alloc (Nat.le_refl _) _
 have HC2 := Lib.hid (wints_any [x_part, x_ep] (by simp) (by simp only [List.mem_cons, List.not_mem_nil, or_false, forall_eq_or_imp, forall_eq]; exact ⟨n3, n4⟩) _ _ (ints2_cl C2.out) (LW1.out.below (bt B1.out D2.out)))
 go_wp2_with fail
 refine HC2.out.mono ?_
 rintro e w12 ⟨v12, rfl, ho2, hb2⟩
 have B20 := Lib.hid (bt D2.out hb2)
 have B2 := Lib.hid (bt B1.out B20.out)
 have hs2 := HI.out _ B2.out
 have HR2 := Lib.hid (ownsRow_weaken ho2 (show w1.heap.size ≤ (w11.alloc (.cells #[.int .i64 x_part, .int .i64 x_ep] 3)).heap.size by have := HI.out _ (bt B1.out D2.out); exact this))
 clear hb2 ho2 HC2 C2 D2
 clear CX a3 a4
 have HO2 := Lib.hid (ownsRow_below HR1.out B20.out)
 clear HR1
 clear kx
 have HS3 := Lib.hid (own_slice HR2.out (by simp))
 obtain ⟨g3, cap3, hv3, hc3⟩ := HS3.out
 subst hv3
 clear HS3
 go_wp2_with (at_builtin; refine wpList_append_own _ rfl _ _ 51 rfl w1.heap.size 9 i0 (.string ⟨#[]⟩) 1 16 Tryz.underlying51 hi hz0 hz1 hz2 rfl (by decide) _ _ _ rfl HO2.out ⟨g3, 0, none⟩ _ _ (sv ([x_part, x_ep].map Bd.bInt)) rfl (by simp [sv]) hc3 ?_ ?_ ?_ ?_ ?_)
 ·simp [sv, Value.oneCell']
 ·unfold maxLen; simp
 ·simp
 ·omega
 intro v13 w13 hown3 hg3 _
 have HO3 : Hid (w13.ownsRow w1.heap.size 9 1 v13 (([7, x_frm, x_to].map Bd.bInt) ++ ([x_part, x_ep].map Bd.bInt)).length (sv (([7, x_frm, x_to].map Bd.bInt) ++ ([x_part, x_ep].map Bd.bInt)))) := by rw [Hid, sv_append]; exact hown3
 have B3 : Hid (Below w1.heap.size w1 w13) := B2.out.grown hg3 B2.out.size (fun kk hkk => (HO2.out.lt kk hkk).1)
 clear hown3 hg3 hc3
 have kx := (CA.out.below B3.out).cell 0
 simp only [List.getElem?_cons_zero, List.getElem?_cons_succ] at kx
 have CX := Lib.hid (CA.out.below B3.out)
 have a19 := CX.out.cell 19
 have a20 := CX.out.cell 20
 have a21 := CX.out.cell 21
 have a22 := CX.out.cell 22
 have a23 := CX.out.cell 23
 have a24 := CX.out.cell 24
 have a25 := CX.out.cell 25
 have a26 := CX.out.cell 26
 have a27 := CX.out.cell 27
 have a28 := CX.out.cell 28
 have a29 := CX.out.cell 29
 simp only [List.getElem?_cons_zero, List.getElem?_cons_succ] at a19 a20 a21 a22 a23 a24 a25 a26 a27 a28 a29
 have CQ : Hid (Cl (w13.alloc (.cells #[.int .i64 x_req.client, .int .i64 x_req.n, .int .i64 x_req.kind, .int .i64 x_req.part, .int .i64 x_req.seq, .int .i64 x_req.off, .int .i64 x_req.max, .int .i64 x_req.gen, .string ⟨x_req.group.toArray⟩, .string ⟨x_req.member.toArray⟩, .slice s4 x_req.recs.length c4] 31)) w13.heap.size [.int .i64 x_req.client, .int .i64 x_req.n, .int .i64 x_req.kind, .int .i64 x_req.part, .int .i64 x_req.seq, .int .i64 x_req.off, .int .i64 x_req.max, .int .i64 x_req.gen, .string ⟨x_req.group.toArray⟩, .string ⟨x_req.member.toArray⟩, .slice s4 x_req.recs.length c4] 31) := Cl.new w13 _ _
 have BQ : Hid (Below w13.heap.size w13 (w13.alloc (.cells #[.int .i64 x_req.client, .int .i64 x_req.n, .int .i64 x_req.kind, .int .i64 x_req.part, .int .i64 x_req.seq, .int .i64 x_req.off, .int .i64 x_req.max, .int .i64 x_req.gen, .string ⟨x_req.group.toArray⟩, .string ⟨x_req.member.toArray⟩, .slice s4 x_req.recs.length c4] 31))) := (Below.refl _ _).alloc (Nat.le_refl _) _
 go_upto_region 8 with (fail)
 generalize (w13.alloc (.cells #[.int .i64 x_req.client, .int .i64 x_req.n, .int .i64 x_req.kind, .int .i64 x_req.part, .int .i64 x_req.seq, .int .i64 x_req.off, .int .i64 x_req.max, .int .i64 x_req.gen, .string ⟨x_req.group.toArray⟩, .string ⟨x_req.member.toArray⟩, .slice s4 x_req.recs.length c4] 31)) = w8 at *
 have HO8 := Lib.hid (ownsRow_below HO3.out BQ.out)
 have B8 := Lib.hid (bt B3.out BQ.out)
 generalize w13.heap.size = px at *
 clear CX a19 a20 a21 a22 a23 a24 a25 a26 a27 a28 a29
 clear HO3 BQ
 have CX := Lib.hid (CQ.out)
 have a0 := CX.out.cell 0
 have a1 := CX.out.cell 1
 have a2 := CX.out.cell 2
 have a3 := CX.out.cell 3
 have a4 := CX.out.cell 4
 have a5 := CX.out.cell 5
 have a6 := CX.out.cell 6
 have a7 := CX.out.cell 7
 simp only [List.getElem?_cons_zero, List.getElem?_cons_succ] at a0 a1 a2 a3 a4 a5 a6 a7
 have C4 : Hid (Cl (w8.alloc (.cells #[.int .i64 x_req.client, .int .i64 x_req.n, .int .i64 x_req.kind, .int .i64 x_req.part, .int .i64 x_req.seq, .int .i64 x_req.off, .int .i64 x_req.max, .int .i64 x_req.gen] 3)) w8.heap.size [.int .i64 x_req.client, .int .i64 x_req.n, .int .i64 x_req.kind, .int .i64 x_req.part, .int .i64 x_req.seq, .int .i64 x_req.off, .int .i64 x_req.max, .int .i64 x_req.gen] 3) := Cl.new w8 _ _
 have D4 : Hid (Below w8.heap.size w8 (w8.alloc (.cells #[.int .i64 x_req.client, .int .i64 x_req.n, .int .i64 x_req.kind, .int .i64 x_req.part, .int .i64 x_req.seq, .int .i64 x_req.off, .int .i64 x_req.max, .int .i64 x_req.gen] 3))) := (Below.refl _ _).alloc (Nat.le_refl _) _
 have HC4 := Lib.hid (wints_any [x_req.client, x_req.n, x_req.kind, x_req.part, x_req.seq, x_req.off, x_req.max, x_req.gen] (by simp) (by simp only [List.mem_cons, List.not_mem_nil, or_false, forall_eq_or_imp, forall_eq]; exact ⟨q0, q1, q2, q3, q4, q5, q6, q7⟩) _ _ (ints8_cl C4.out) (LW1.out.below (bt B8.out D4.out)))
 go_wp2_with fail
 refine HC4.out.mono ?_
 rintro e w14 ⟨v14, rfl, ho4, hb4⟩
 have B40 := Lib.hid (bt D4.out hb4)
 have B4 := Lib.hid (bt B8.out B40.out)
 have hs4 := HI.out _ B4.out
 have HR4 := Lib.hid (ownsRow_weaken ho4 (show w1.heap.size ≤ (w8.alloc (.cells #[.int .i64 x_req.client, .int .i64 x_req.n, .int .i64 x_req.kind, .int .i64 x_req.part, .int .i64 x_req.seq, .int .i64 x_req.off, .int .i64 x_req.max, .int .i64 x_req.gen] 3)).heap.size by have := HI.out _ (bt B8.out D4.out); exact this))
 clear hb4 ho4 HC4 C4 D4
 clear CX a0 a1 a2 a3 a4 a5 a6 a7
 have HO4 := Lib.hid (ownsRow_below HO8.out B40.out)
 clear HO8
 have HS5 := Lib.hid (own_slice HR4.out (by simp))
 obtain ⟨g5, cap5, hv5, hc5⟩ := HS5.out
 subst hv5
 clear HS5
 go_wp2_with (at_builtin; refine wpList_append_own _ rfl _ _ 51 rfl w1.heap.size 9 i0 (.string ⟨#[]⟩) 1 16 Tryz.underlying51 hi hz0 hz1 hz2 rfl (by decide) _ _ _ rfl HO4.out ⟨g5, 0, none⟩ _ _ (sv ([x_req.client, x_req.n, x_req.kind, x_req.part, x_req.seq, x_req.off, x_req.max, x_req.gen].map Bd.bInt)) rfl (by simp [sv]) hc5 ?_ ?_ ?_ ?_ ?_)
 ·simp [sv, Value.oneCell']
 ·unfold maxLen; simp
 ·simp
 ·omega
 intro v15 w15 hown5 hg5 _
 have HO5 : Hid (w15.ownsRow w1.heap.size 9 1 v15 ((([7, x_frm, x_to].map Bd.bInt) ++ ([x_part, x_ep].map Bd.bInt)) ++ ([x_req.client, x_req.n, x_req.kind, x_req.part, x_req.seq, x_req.off, x_req.max, x_req.gen].map Bd.bInt)).length (sv ((([7, x_frm, x_to].map Bd.bInt) ++ ([x_part, x_ep].map Bd.bInt)) ++ ([x_req.client, x_req.n, x_req.kind, x_req.part, x_req.seq, x_req.off, x_req.max, x_req.gen].map Bd.bInt)))) := by rw [Hid, sv_append]; exact hown5
 have B5 : Hid (Below w1.heap.size w1 w15) := B4.out.grown hg5 B4.out.size (fun kk hkk => (HO4.out.lt kk hkk).1)
 have CQ5 := Lib.hid (Cl.grown (CQ.out.below B40.out) hg5 (own_ne HO4.out (CQ.out.below B40.out) (by decide)))
 clear CQ
 clear hown5 hg5 hc5
 have hm0 : Hid (∀ W, Below w15.heap.size w15 W → W.cell? ⟨px, 8, none⟩ = some (.string ⟨x_req.group.toArray⟩) ∧ W.cell? ⟨px, 9, none⟩ = some (.string ⟨x_req.member.toArray⟩) ∧ W.cell? ⟨px, 10, none⟩ = some (.slice s4 x_req.recs.length c4)) := fun W hW => ⟨Cl.cell (CQ5.out.below hW) 8, Cl.cell (CQ5.out.below hW) 9, Cl.cell (CQ5.out.below hW) 10⟩
 have hne := own_ne HO5.out CQ5.out (by decide)
 have BF : Hid (∀ W, Below w15.heap.size w15 W → Below w1.heap.size w1 W) := fun W h => bt B5.out h
 have J1 := Lib.hid (fun W (hW : Below w15.heap.size w15 W) => beadText_any x_req.group HL1.out W (LW1.out.below (BF.out _ hW)))
 have J2 := Lib.hid (fun W (hW : Below w15.heap.size w15 W) => beadText_any x_req.member HL2.out W (LW1.out.below (BF.out _ hW)))
 have J3 := Lib.hid (fun W (hW : Below w15.heap.size w15 W) => wrecs_any x_req.recs HL3.out HL4.out _ W (HM.out.kept (BW.out _ (BF.out _ hW))).qrecs (LW1.out.below (BF.out _ hW)))
 generalize hbl1 : Bd.bText x_req.group = t1 at J1 HFM
 generalize hbl2 : Bd.bText x_req.member = t2 at J2 HFM
 generalize hbl3 : Wi.encRecs x_req.recs = t3 at J3 HFM
 clear hbl1 hbl2 hbl3
 have T0 : Hid (Below w15.heap.size w15 w15.drew) := (Below.refl _ _).drew
 obtain ⟨q8, q9, q10⟩ := hm0.out _ (Below.refl _ _)
 have hs8 := HI.out _ B5.out
 have hone : ∀ u ∈ [Value.string ⟨t1.toArray⟩, .string ⟨t2.toArray⟩, .string ⟨t3.toArray⟩], u.oneCell' = true := by simp [Value.oneCell']
 generalize hLL : ((([7, x_frm, x_to].map Bd.bInt) ++ ([x_part, x_ep].map Bd.bInt)) ++ ([x_req.client, x_req.n, x_req.kind, x_req.part, x_req.seq, x_req.off, x_req.max, x_req.gen].map Bd.bInt)) = LL at *
 have hLn : LL.length ≤ 20 := by rw [← hLL]; simp
 have h63 : LL.length + 3 ≤ maxLen := by unfold maxLen; omega
 have hby : (LL.length + 3) * 16 ≤ 140737488355328 := by omega
 go_upto_region 9 with (fail)
 go_region_held3 (fun W => W.cell? ⟨px, 8, none⟩ = some (.string ⟨x_req.group.toArray⟩) ∧ W.cell? ⟨px, 9, none⟩ = some (.string ⟨x_req.member.toArray⟩) ∧ W.cell? ⟨px, 10, none⟩ = some (.slice s4 x_req.recs.length c4)) (first | assumption | exact ⟨q8, q9, q10⟩ | exact S1.out | exact S2.out | exact S3.out | exact hm0.out _ U5.out | exact S7.out) (first
  | (go_at_call 81; refine (J1.out _ T0.out).mono ?_; rintro e w91 ⟨rfl, hb91⟩; have T1 := Lib.hid (bt T0.out hb91); have S1 := Lib.hid (hm0.out _ T1.out); clear hb91)
  | (go_at_call 81; refine (J2.out _ T1.out).mono ?_; rintro e w92 ⟨rfl, hb92⟩; have T2 := Lib.hid (bt T1.out hb92); have S2 := Lib.hid (hm0.out _ T2.out); clear hb92)
  | (go_at_call 82; refine (J3.out _ T2.out).mono ?_; rintro e w95 ⟨rfl, hb95⟩; have T5 := Lib.hid (bt T2.out hb95); have S3 := Lib.hid (hm0.out _ T5.out); clear hb95; have U5 := Lib.hid (T5.out.alloc T5.out.size (.cells #[.string ⟨t1.toArray⟩, .string ⟨t2.toArray⟩, .string ⟨t3.toArray⟩] 9)); have HO5 := Lib.hid (ownsRow_below HO5.out T5.out))
  | (refine step_append_lies _ (by rfl) _ _ _ (by rfl) w1.heap.size 9 i0 _ 1 16 Tryz.underlying51 hi hz0 hz1 hz2 rfl Nat.one_pos v15 LL.length (sv LL) (by rfl) (World.ownsRow.alloc HO5.out _) ⟨w95.heap.size, 0, none⟩ 3 3 [.string ⟨t1.toArray⟩, .string ⟨t2.toArray⟩, .string ⟨t3.toArray⟩] (by rfl) (by rfl) (cells_new _ [t1, t2, t3] _) hone (by decide) h63 hby (Nat.le_trans hs8 U5.out.size) (w95.heap.size + 1) (World.size_alloc _ _) ?_; intro g11 cap11 w11z hown11 hg11 hat11 hlt11; have S7 := Lib.hid (And.intro (hg11.cell (hm0.out _ U5.out).1 hne) (And.intro (hg11.cell (hm0.out _ U5.out).2.1 hne) (hg11.cell (hm0.out _ U5.out).2.2 hne)))))
 have HO99 : Hid (w11z.ownsRow w1.heap.size 9 1 (.slice (some ⟨g11, 0, none⟩) (LL.length + 3) cap11) (LL ++ [t1, t2, t3]).length (sv (LL ++ [t1, t2, t3]))) := by rw [Hid, sv_append, show (LL ++ [t1, t2, t3]).length = LL.length + 3 by simp]; exact hown11
 have B99 : Hid (Below w1.heap.size w1 w11z) := (BF.out _ U5.out).grown hg11 (BF.out _ U5.out).size (fun kk hkk => (HO5.out.lt kk hkk).1)
 clear hown11 hg11
 go_wp2
 go_ret
 refine ⟨_, rfl, ?_, BW.out _ B99.out⟩
 rw [HFM.out]
 exact ownsRow_weaken HO99.out HSW.out
end Go.Proofs.YtjfpbeccpcbpcaaGreatDoor
