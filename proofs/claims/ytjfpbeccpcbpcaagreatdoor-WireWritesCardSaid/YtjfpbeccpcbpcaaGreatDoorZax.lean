/-
  Wf20 / Wf30 / Wf40: texts of one proof, one behind the other.
  Conditions: none of its own.
-/
import Derived.Test.YtjfpbeccpcbpcaaGreatDoorZaw
set_option linter.unusedVariables false
set_option linter.unusedSimpArgs false
namespace Go.Proofs.YtjfpbeccpcbpcaaGreatDoor
open Go.RowKit
set_option maxRecDepth 20000 in
set_option maxHeartbeats 6400000 in
theorem wfields_k2 (m : Wi.Msg) (v : MsgV) (w : World) (h : MsgAt w m v) (ok : MsgOk m) (hk : m.kind = 2) (hg : Wi.good m = true) (hw : Lw w) :
  Calls Tryz.prog 23 #[msgV m v] w (WStrs w (Wi.fieldsL m)) := by
 have HW := Lib.hid hw
 have HM := Lib.hid h
 have HO := Lib.hid ok
 have hn := ok.n
 simp only [List.mem_cons, List.not_mem_nil, or_false, forall_eq_or_imp, forall_eq] at hn
 obtain ⟨n0, n1, n2, n3, n4, n5, n6, n7, n8, n9, q0, q1, q2, q3, q4, q5, q6, q7, r0, r1, r2, r3, r4, r5⟩ := hn
 obtain ⟨i0, hi, hz0, hz1, hz2⟩ := info_parts cinfoStr
 obtain ⟨s0, c0, hh0⟩ := h.chain.form
 obtain ⟨s1, c1, hh1⟩ := h.lives.form
 obtain ⟨s2, c2, hh2⟩ := h.brecs.form
 obtain ⟨s3, c3, hh3⟩ := h.table.form
 obtain ⟨s4, c4, hh4⟩ := h.qrecs.form
 obtain ⟨s5, c5, hh5⟩ := h.parts.form
 obtain ⟨s6, c6, hh6⟩ := h.arecs.form
 obtain ⟨v0, v1, v2, v3, v4, v5, v6⟩ := v
 dsimp only at hh0 hh1 hh2 hh3 hh4 hh5 hh6
 subst hh0 hh1 hh2 hh3 hh4 hh5 hh6
 obtain ⟨x_kind, x_frm, x_to, x_part, x_ep, x_off, x_high, x_life, x_pep, x_chain, x_learner, x_lives, x_batch, x_table, x_req, x_resp⟩ := m
 dsimp only at *
 subst hk
 have hrq := Wi.respB_parts (a := x_resp) (by have := hg; simp [Wi.good, Wi.lastB] at this; exact this.2)
 obtain ⟨_, _, _, _, _, _, hpl, hpp, hrl, hrr⟩ := hrq
 have HL1 : Hid (x_resp.parts.length ≤ 100000) := by rw [Hid]; omega
 have HL2 : Hid (∀ x ∈ x_resp.parts, Bd.inR x) := ok.p.2
 have HL3 : Hid (x_resp.recs.length ≤ 16) := by rw [Hid]; omega
 have HL4 : Hid (∀ x ∈ x_resp.recs, Cr.isRec x = true ∧ 0 ≤ x.off ∧ x.off ≤ 1099511627776) := fun x hx => ⟨(hrr x hx).2, (hrr x hx).1⟩
 have HL5 : Hid ((x_resp.parts.map Bd.bInt).flatten.length ≤ 140737488355328) := ints_flat (by omega) ok.p.2
 clear hpl hpp hrl hrr
 clear h ok hw hg
 have HFM : Hid (Wi.fieldsL ⟨2, x_frm, x_to, x_part, x_ep, x_off, x_high, x_life, x_pep, x_chain, x_learner, x_lives, x_batch, x_table, x_req, x_resp⟩ = [2, x_frm, x_to].map Bd.bInt ++ [x_resp.client, x_resp.n, x_resp.code, x_resp.off, x_resp.high, x_resp.gen].map Bd.bInt ++ [Wi.listB (Wi.encInts x_resp.parts), Wi.encRecs x_resp.recs]) := by rw [Hid]; simp [Wi.fieldsL, Wi.headL, Wi.tailL, Wi.reqNumsL, Wi.respNumsL]
 unfold msgV msgC
 dsimp only
 go_enter Tryz.func23, Tryz.ntmps23
 obtain ⟨w1, hw1, CA, B1⟩ := oneBox (w := w) (.int .i64 2 :: .int .i64 x_frm :: .int .i64 x_to :: .int .i64 x_part :: .int .i64 x_ep :: .int .i64 x_off :: .int .i64 x_high :: .int .i64 x_life :: .int .i64 x_pep :: .slice s0 x_chain.length c0 :: .int .i64 x_learner :: .slice s1 x_lives.length c1 :: .int .i64 x_batch.base :: .int .i64 x_batch.count :: .int .i64 x_batch.prod :: .int .i64 x_batch.seq :: .int .i64 x_batch.time :: .slice s2 x_batch.recs.length c2 :: .slice s3 x_table.length c3 :: .int .i64 x_req.client :: .int .i64 x_req.n :: .int .i64 x_req.kind :: .int .i64 x_req.part :: .int .i64 x_req.seq :: .int .i64 x_req.off :: .int .i64 x_req.max :: .int .i64 x_req.gen :: .string ⟨x_req.group.toArray⟩ :: .string ⟨x_req.member.toArray⟩ :: .slice s4 x_req.recs.length c4 :: .int .i64 x_resp.client :: .int .i64 x_resp.n :: .int .i64 x_resp.code :: .int .i64 x_resp.off :: .int .i64 x_resp.high :: .int .i64 x_resp.gen :: .slice s5 x_resp.parts.length c5 :: .slice s6 x_resp.recs.length c6 :: []) 36
 have HW1 := Lib.hid hw1
 clear hw1
 go_upto_region 1 with (fail)
 first | rw [HW1.out] | skip
 clear HW1
 have hpa := CA.out.lt
 have HI : Hid (∀ W, Below w1.heap.size w1 W → w1.heap.size ≤ W.heap.size) := fun W h => h.size
 have BW : Hid (∀ W, Below w1.heap.size w1 W → Below w.heap.size w W) := fun W h => bt B1.out h
 have LW1 := Lib.hid (HW.out.below B1.out)
 have HSW : Hid (w.heap.size ≤ w1.heap.size) := B1.out.size
 have B0 : Hid (Below w1.heap.size w1 w1) := Below.refl _ _
 obtain ⟨pa, hpa2⟩ : ∃ pa, pa = w.heap.size := ⟨_, rfl⟩
 rw [← hpa2] at CA ⊢
 have HPA := Lib.hid hpa2
 clear hpa2 hpa
 have CX := Lib.hid (CA.out.below B0.out)
 have a0 := CX.out.cell 0
 have a1 := CX.out.cell 1
 have a2 := CX.out.cell 2
 simp only [List.getElem?_cons_zero, List.getElem?_cons_succ] at a0 a1 a2
 have C1 : Hid (Cl (w1.alloc (.cells #[.int .i64 2, .int .i64 x_frm, .int .i64 x_to] 3)) w1.heap.size [.int .i64 2, .int .i64 x_frm, .int .i64 x_to] 3) := Cl.new w1 _ _
 have D1 : Hid (Below w1.heap.size w1 (w1.alloc (.cells #[.int .i64 2, .int .i64 x_frm, .int .i64 x_to] 3))) := (Below.refl _ _).alloc (Nat.le_refl _) _
 have HC1 := Lib.hid (wints_any [2, x_frm, x_to] (by simp) (by simp only [List.mem_cons, List.not_mem_nil, or_false, forall_eq_or_imp, forall_eq]; exact ⟨n0, n1, n2⟩) _ _ (ints3_cl C1.out) (LW1.out.below (bt B0.out D1.out)))
 go_wp2_with fail
 refine HC1.out.mono ?_
 rintro e w11 ⟨v11, rfl, ho1, hb1⟩
 have B10 := Lib.hid (bt D1.out hb1)
 have B1 := Lib.hid (bt B0.out B10.out)
 have hs1 := HI.out _ B1.out
 have HR1 := Lib.hid (ownsRow_weaken ho1 (show w1.heap.size ≤ (w1.alloc (.cells #[.int .i64 2, .int .i64 x_frm, .int .i64 x_to] 3)).heap.size by have := HI.out _ (bt B0.out D1.out); exact this))
 clear hb1 ho1 HC1 C1 D1
 clear CX a0 a1 a2
 have kx := (CA.out.below B1.out).cell 0
 simp only [List.getElem?_cons_zero, List.getElem?_cons_succ] at kx
 have CX := Lib.hid (CA.out.below B1.out)
 have a30 := CX.out.cell 30
 have a31 := CX.out.cell 31
 have a32 := CX.out.cell 32
 have a33 := CX.out.cell 33
 have a34 := CX.out.cell 34
 have a35 := CX.out.cell 35
 have a36 := CX.out.cell 36
 have a37 := CX.out.cell 37
 simp only [List.getElem?_cons_zero, List.getElem?_cons_succ] at a30 a31 a32 a33 a34 a35 a36 a37
 have CQ : Hid (Cl (w11.alloc (.cells #[.int .i64 x_resp.client, .int .i64 x_resp.n, .int .i64 x_resp.code, .int .i64 x_resp.off, .int .i64 x_resp.high, .int .i64 x_resp.gen, .slice s5 x_resp.parts.length c5, .slice s6 x_resp.recs.length c6] 34)) w11.heap.size [.int .i64 x_resp.client, .int .i64 x_resp.n, .int .i64 x_resp.code, .int .i64 x_resp.off, .int .i64 x_resp.high, .int .i64 x_resp.gen, .slice s5 x_resp.parts.length c5, .slice s6 x_resp.recs.length c6] 34) := Cl.new w11 _ _
 have BQ : Hid (Below w11.heap.size w11 (w11.alloc (.cells #[.int .i64 x_resp.client, .int .i64 x_resp.n, .int .i64 x_resp.code, .int .i64 x_resp.off, .int .i64 x_resp.high, .int .i64 x_resp.gen, .slice s5 x_resp.parts.length c5, .slice s6 x_resp.recs.length c6] 34))) := (Below.refl _ _).alloc (Nat.le_refl _) _
 go_upto_region 12 with (fail)
 generalize (w11.alloc (.cells #[.int .i64 x_resp.client, .int .i64 x_resp.n, .int .i64 x_resp.code, .int .i64 x_resp.off, .int .i64 x_resp.high, .int .i64 x_resp.gen, .slice s5 x_resp.parts.length c5, .slice s6 x_resp.recs.length c6] 34)) = w8 at *
 have HO8 := Lib.hid (ownsRow_below HR1.out BQ.out)
 have B8 := Lib.hid (bt B1.out BQ.out)
 generalize w11.heap.size = px at *
 clear CX a30 a31 a32 a33 a34 a35 a36 a37
 clear HR1 BQ
 have CX := Lib.hid (CQ.out)
 have a0 := CX.out.cell 0
 have a1 := CX.out.cell 1
 have a2 := CX.out.cell 2
 have a3 := CX.out.cell 3
 have a4 := CX.out.cell 4
 have a5 := CX.out.cell 5
 simp only [List.getElem?_cons_zero, List.getElem?_cons_succ] at a0 a1 a2 a3 a4 a5
 have C2 : Hid (Cl (w8.alloc (.cells #[.int .i64 x_resp.client, .int .i64 x_resp.n, .int .i64 x_resp.code, .int .i64 x_resp.off, .int .i64 x_resp.high, .int .i64 x_resp.gen] 3)) w8.heap.size [.int .i64 x_resp.client, .int .i64 x_resp.n, .int .i64 x_resp.code, .int .i64 x_resp.off, .int .i64 x_resp.high, .int .i64 x_resp.gen] 3) := Cl.new w8 _ _
 have D2 : Hid (Below w8.heap.size w8 (w8.alloc (.cells #[.int .i64 x_resp.client, .int .i64 x_resp.n, .int .i64 x_resp.code, .int .i64 x_resp.off, .int .i64 x_resp.high, .int .i64 x_resp.gen] 3))) := (Below.refl _ _).alloc (Nat.le_refl _) _
 have HC2 := Lib.hid (wints_any [x_resp.client, x_resp.n, x_resp.code, x_resp.off, x_resp.high, x_resp.gen] (by simp) (by simp only [List.mem_cons, List.not_mem_nil, or_false, forall_eq_or_imp, forall_eq]; exact ⟨r0, r1, r2, r3, r4, r5⟩) _ _ (ints6_cl C2.out) (LW1.out.below (bt B8.out D2.out)))
 go_wp2_with fail
 refine HC2.out.mono ?_
 rintro e w12 ⟨v12, rfl, ho2, hb2⟩
 have B20 := Lib.hid (bt D2.out hb2)
 have B2 := Lib.hid (bt B8.out B20.out)
 have hs2 := HI.out _ B2.out
 have HR2 := Lib.hid (ownsRow_weaken ho2 (show w1.heap.size ≤ (w8.alloc (.cells #[.int .i64 x_resp.client, .int .i64 x_resp.n, .int .i64 x_resp.code, .int .i64 x_resp.off, .int .i64 x_resp.high, .int .i64 x_resp.gen] 3)).heap.size by have := HI.out _ (bt B8.out D2.out); exact this))
 clear hb2 ho2 HC2 C2 D2
 clear CX a0 a1 a2 a3 a4 a5
 have HO2 := Lib.hid (ownsRow_below HO8.out B20.out)
 clear HO8
 have HS3 := Lib.hid (own_slice HR2.out (by simp))
 obtain ⟨g3, cap3, hv3, hc3⟩ := HS3.out
 subst hv3
 clear HS3
 go_wp2_with (at_builtin; refine wpList_append_own _ rfl _ _ 51 rfl w1.heap.size 9 i0 (.string ⟨#[]⟩) 1 16 Tryz.underlying51 hi hz0 hz1 hz2 rfl (by decide) _ _ _ rfl HO2.out ⟨g3, 0, none⟩ _ _ (sv ([x_resp.client, x_resp.n, x_resp.code, x_resp.off, x_resp.high, x_resp.gen].map Bd.bInt)) rfl (by simp [sv]) hc3 ?_ ?_ ?_ ?_ ?_)
 ·simp [sv, Value.oneCell']
 ·unfold maxLen; simp
 ·simp
 ·omega
 intro v13 w13 hown3 hg3 _
 have HO3 : Hid (w13.ownsRow w1.heap.size 9 1 v13 (([2, x_frm, x_to].map Bd.bInt) ++ ([x_resp.client, x_resp.n, x_resp.code, x_resp.off, x_resp.high, x_resp.gen].map Bd.bInt)).length (sv (([2, x_frm, x_to].map Bd.bInt) ++ ([x_resp.client, x_resp.n, x_resp.code, x_resp.off, x_resp.high, x_resp.gen].map Bd.bInt)))) := by rw [Hid, sv_append]; exact hown3
 have B3 : Hid (Below w1.heap.size w1 w13) := B2.out.grown hg3 B2.out.size (fun kk hkk => (HO2.out.lt kk hkk).1)
 have CQ3 := Lib.hid (Cl.grown (CQ.out.below B20.out) hg3 (own_ne HO2.out (CQ.out.below B20.out) (by decide)))
 clear CQ
 clear hown3 hg3 hc3
 have hm0 : Hid (∀ W, Below w13.heap.size w13 W → W.cell? ⟨px, 6, none⟩ = some (.slice s5 x_resp.parts.length c5) ∧ W.cell? ⟨px, 7, none⟩ = some (.slice s6 x_resp.recs.length c6)) := fun W hW => ⟨Cl.cell (CQ3.out.below hW) 6, Cl.cell (CQ3.out.below hW) 7⟩
 have hne := own_ne HO3.out CQ3.out (by decide)
 have BF : Hid (∀ W, Below w13.heap.size w13 W → Below w1.heap.size w1 W) := fun W h => bt B3.out h
 have J1 := Lib.hid (fun W (hW : Below w13.heap.size w13 W) => wints_any x_resp.parts HL1.out HL2.out _ W (HM.out.kept (BW.out _ (BF.out _ hW))).parts (LW1.out.below (BF.out _ hW)))
 have J2 := Lib.hid (fun W v (hv : Strs W v (x_resp.parts.map Bd.bInt)) => beadList_any v _ W hv (by rw [List.length_map]; exact Nat.le_trans HL1.out (by decide)) HL5.out)
 have J3 := Lib.hid (fun W (hW : Below w13.heap.size w13 W) => wrecs_any x_resp.recs HL3.out HL4.out _ W (HM.out.kept (BW.out _ (BF.out _ hW))).arecs (LW1.out.below (BF.out _ hW)))
 change Hid (∀ W v, Strs W v (x_resp.parts.map Bd.bInt) → Calls Tryz.prog 22 #[v] W fun e w' => e = .returned (.string ⟨(Wi.listB (Wi.encInts x_resp.parts)).toArray⟩) ∧ Below W.heap.size W w') at J2
 generalize hbl1 : Wi.listB (Wi.encInts x_resp.parts) = t1 at J2 HFM
 generalize hbl3 : Wi.encRecs x_resp.recs = t3 at J3 HFM
 clear hbl1 hbl3
 have T0 : Hid (Below w13.heap.size w13 w13.drew) := (Below.refl _ _).drew
 obtain ⟨q8, q9⟩ := hm0.out _ (Below.refl _ _)
 have hs8 := HI.out _ B3.out
 have hone : ∀ u ∈ [Value.string ⟨t1.toArray⟩, .string ⟨t3.toArray⟩], u.oneCell' = true := by simp [Value.oneCell']
 generalize hLL : (([2, x_frm, x_to].map Bd.bInt) ++ ([x_resp.client, x_resp.n, x_resp.code, x_resp.off, x_resp.high, x_resp.gen].map Bd.bInt)) = LL at *
 have hLn : LL.length ≤ 20 := by rw [← hLL]; simp
 have h63 : LL.length + 2 ≤ maxLen := by unfold maxLen; omega
 have hby : (LL.length + 2) * 16 ≤ 140737488355328 := by omega
 go_upto_region 13 with (fail)
 go_region_held3 (fun W => W.cell? ⟨px, 6, none⟩ = some (.slice s5 x_resp.parts.length c5) ∧ W.cell? ⟨px, 7, none⟩ = some (.slice s6 x_resp.recs.length c6)) (first | assumption | exact ⟨q8, q9⟩ | exact S1.out | exact S2.out | exact S3.out | exact hm0.out _ U5.out | exact S7.out) (first
  | (go_at_call 80; refine (J1.out _ T0.out).mono ?_; rintro e w91 ⟨vi, rfl, hoi, hb91⟩; have T1 := Lib.hid (bt T0.out hb91); have S1 := Lib.hid (hm0.out _ T1.out); have HSI := Lib.hid (strs_own hoi); clear hb91 hoi)
  | (go_at_call 22; refine (J2.out _ _ HSI.out).mono ?_; rintro e w92 ⟨rfl, hb92⟩; have T2 := Lib.hid (bt T1.out hb92); have S2 := Lib.hid (hm0.out _ T2.out); clear hb92)
  | (go_at_call 82; refine (J3.out _ T2.out).mono ?_; rintro e w95 ⟨rfl, hb95⟩; have T5 := Lib.hid (bt T2.out hb95); have S3 := Lib.hid (hm0.out _ T5.out); clear hb95; have U5 := Lib.hid (T5.out.alloc T5.out.size (.cells #[.string ⟨t1.toArray⟩, .string ⟨t3.toArray⟩] 9)); have HO5 := Lib.hid (ownsRow_below HO3.out T5.out))
  | (refine step_append_lies _ (by rfl) _ _ _ (by rfl) w1.heap.size 9 i0 _ 1 16 Tryz.underlying51 hi hz0 hz1 hz2 rfl Nat.one_pos v13 LL.length (sv LL) (by rfl) (World.ownsRow.alloc HO5.out _) ⟨w95.heap.size, 0, none⟩ 2 2 [.string ⟨t1.toArray⟩, .string ⟨t3.toArray⟩] (by rfl) (by rfl) (cells_new _ [t1, t3] _) hone (by decide) h63 hby (Nat.le_trans hs8 U5.out.size) (w95.heap.size + 1) (World.size_alloc _ _) ?_; intro g11 cap11 w11z hown11 hg11 hat11 hlt11; have S7 := Lib.hid (And.intro (hg11.cell (hm0.out _ U5.out).1 hne) (hg11.cell (hm0.out _ U5.out).2 hne))))
 have HO99 : Hid (w11z.ownsRow w1.heap.size 9 1 (.slice (some ⟨g11, 0, none⟩) (LL.length + 2) cap11) (LL ++ [t1, t3]).length (sv (LL ++ [t1, t3]))) := by rw [Hid, sv_append, show (LL ++ [t1, t3]).length = LL.length + 2 by simp]; exact hown11
 have B99 : Hid (Below w1.heap.size w1 w11z) := (BF.out _ U5.out).grown hg11 (BF.out _ U5.out).size (fun kk hkk => (HO5.out.lt kk hkk).1)
 clear hown11 hg11
 go_wp2
 go_ret
 refine ⟨_, rfl, ?_, BW.out _ B99.out⟩
 rw [HFM.out]
 exact ownsRow_weaken HO99.out HSW.out
end Go.Proofs.YtjfpbeccpcbpcaaGreatDoor
namespace Go.Proofs.YtjfpbeccpcbpcaaGreatDoor
open Go.RowKit
set_option maxRecDepth 20000 in
set_option maxHeartbeats 6400000 in
theorem wfields_k3 (m : Wi.Msg) (v : MsgV) (w : World) (h : MsgAt w m v) (ok : MsgOk m) (hk : m.kind = 3) (hg : Wi.good m = true) (hw : Lw w) :
  Calls Tryz.prog 23 #[msgV m v] w (WStrs w (Wi.fieldsL m)) := by
 have HW := Lib.hid hw
 have HM := Lib.hid h
 have HO := Lib.hid ok
 have hn := ok.n
 simp only [List.mem_cons, List.not_mem_nil, or_false, forall_eq_or_imp, forall_eq] at hn
 obtain ⟨n0, n1, n2, n3, n4, n5, n6, n7, _⟩ := hn
 obtain ⟨i0, hi, hz0, hz1, hz2⟩ := info_parts cinfoStr
 obtain ⟨s0, c0, hh0⟩ := h.chain.form
 obtain ⟨s1, c1, hh1⟩ := h.lives.form
 obtain ⟨s2, c2, hh2⟩ := h.brecs.form
 obtain ⟨s3, c3, hh3⟩ := h.table.form
 obtain ⟨s4, c4, hh4⟩ := h.qrecs.form
 obtain ⟨s5, c5, hh5⟩ := h.parts.form
 obtain ⟨s6, c6, hh6⟩ := h.arecs.form
 obtain ⟨v0, v1, v2, v3, v4, v5, v6⟩ := v
 dsimp only at hh0 hh1 hh2 hh3 hh4 hh5 hh6
 subst hh0 hh1 hh2 hh3 hh4 hh5 hh6
 obtain ⟨x_kind, x_frm, x_to, x_part, x_ep, x_off, x_high, x_life, x_pep, x_chain, x_learner, x_lives, x_batch, x_table, x_req, x_resp⟩ := m
 dsimp only at *
 subst hk
 clear h ok hw hg
 have HFM : Hid (Wi.fieldsL ⟨3, x_frm, x_to, x_part, x_ep, x_off, x_high, x_life, x_pep, x_chain, x_learner, x_lives, x_batch, x_table, x_req, x_resp⟩ = [3, x_frm, x_to].map Bd.bInt ++ [Bd.bInt x_life]) := by rw [Hid]; simp [Wi.fieldsL, Wi.headL, Wi.tailL]
 unfold msgV msgC
 dsimp only
 go_enter Tryz.func23, Tryz.ntmps23
 obtain ⟨w1, hw1, CA, B1⟩ := oneBox (w := w) (.int .i64 3 :: .int .i64 x_frm :: .int .i64 x_to :: .int .i64 x_part :: .int .i64 x_ep :: .int .i64 x_off :: .int .i64 x_high :: .int .i64 x_life :: .int .i64 x_pep :: .slice s0 x_chain.length c0 :: .int .i64 x_learner :: .slice s1 x_lives.length c1 :: .int .i64 x_batch.base :: .int .i64 x_batch.count :: .int .i64 x_batch.prod :: .int .i64 x_batch.seq :: .int .i64 x_batch.time :: .slice s2 x_batch.recs.length c2 :: .slice s3 x_table.length c3 :: .int .i64 x_req.client :: .int .i64 x_req.n :: .int .i64 x_req.kind :: .int .i64 x_req.part :: .int .i64 x_req.seq :: .int .i64 x_req.off :: .int .i64 x_req.max :: .int .i64 x_req.gen :: .string ⟨x_req.group.toArray⟩ :: .string ⟨x_req.member.toArray⟩ :: .slice s4 x_req.recs.length c4 :: .int .i64 x_resp.client :: .int .i64 x_resp.n :: .int .i64 x_resp.code :: .int .i64 x_resp.off :: .int .i64 x_resp.high :: .int .i64 x_resp.gen :: .slice s5 x_resp.parts.length c5 :: .slice s6 x_resp.recs.length c6 :: []) 36
 have HW1 := Lib.hid hw1
 clear hw1
 go_upto_region 1 with (fail)
 first | rw [HW1.out] | skip
 clear HW1
 have hpa := CA.out.lt
 have HI : Hid (∀ W, Below w1.heap.size w1 W → w1.heap.size ≤ W.heap.size) := fun W h => h.size
 have BW : Hid (∀ W, Below w1.heap.size w1 W → Below w.heap.size w W) := fun W h => bt B1.out h
 have LW1 := Lib.hid (HW.out.below B1.out)
 have HSW : Hid (w.heap.size ≤ w1.heap.size) := B1.out.size
 have B0 : Hid (Below w1.heap.size w1 w1) := Below.refl _ _
 obtain ⟨pa, hpa2⟩ : ∃ pa, pa = w.heap.size := ⟨_, rfl⟩
 rw [← hpa2] at CA ⊢
 have HPA := Lib.hid hpa2
 clear hpa2 hpa
 have CX := Lib.hid (CA.out.below B0.out)
 have a0 := CX.out.cell 0
 have a1 := CX.out.cell 1
 have a2 := CX.out.cell 2
 simp only [List.getElem?_cons_zero, List.getElem?_cons_succ] at a0 a1 a2
 have C1 : Hid (Cl (w1.alloc (.cells #[.int .i64 3, .int .i64 x_frm, .int .i64 x_to] 3)) w1.heap.size [.int .i64 3, .int .i64 x_frm, .int .i64 x_to] 3) := Cl.new w1 _ _
 have D1 : Hid (Below w1.heap.size w1 (w1.alloc (.cells #[.int .i64 3, .int .i64 x_frm, .int .i64 x_to] 3))) := (Below.refl _ _).alloc (Nat.le_refl _) _
 have HC1 := Lib.hid (wints_any [3, x_frm, x_to] (by simp) (by simp only [List.mem_cons, List.not_mem_nil, or_false, forall_eq_or_imp, forall_eq]; exact ⟨n0, n1, n2⟩) _ _ (ints3_cl C1.out) (LW1.out.below (bt B0.out D1.out)))
 go_wp2_with fail
 refine HC1.out.mono ?_
 rintro e w11 ⟨v11, rfl, ho1, hb1⟩
 have B10 := Lib.hid (bt D1.out hb1)
 have B1 := Lib.hid (bt B0.out B10.out)
 have hs1 := HI.out _ B1.out
 have HR1 := Lib.hid (ownsRow_weaken ho1 (show w1.heap.size ≤ (w1.alloc (.cells #[.int .i64 3, .int .i64 x_frm, .int .i64 x_to] 3)).heap.size by have := HI.out _ (bt B0.out D1.out); exact this))
 clear hb1 ho1 HC1 C1 D1
 clear CX a0 a1 a2
 have kx := (CA.out.below B1.out).cell 0
 simp only [List.getElem?_cons_zero, List.getElem?_cons_succ] at kx
 have CX := Lib.hid (CA.out.below B1.out)
 have a7 := CX.out.cell 7
 simp only [List.getElem?_cons_zero, List.getElem?_cons_succ] at a7
 have LW3 := Lib.hid (LW1.out.below B1.out)
 have HJ3 := Lib.hid (beadInt_any x_life n7 w11 LW3.out)
 generalize hbl3 : Bd.bInt x_life = bl3 at HJ3 HFM
 clear hbl3
 go_wp2_with fail
 refine HJ3.out.mono ?_
 rintro e w13 ⟨rfl, hb3⟩
 have HO3 := Lib.hid (ownsRow_below HR1.out hb3)
 have B3 := Lib.hid (bt B1.out hb3)
 have hs3 := HI.out _ B3.out
 clear hb3 HJ3 HR1
 clear CX a7
 go_wp2_with (at_builtin; refine wpList_append_own _ rfl _ _ 51 rfl w1.heap.size 9 i0 (.string ⟨#[]⟩) 1 16 Tryz.underlying51 hi hz0 hz1 hz2 rfl (by decide) _ _ _ rfl (World.ownsRow.alloc HO3.out _) ⟨w13.heap.size, 0, none⟩ 1 1 [.string ⟨bl3.toArray⟩] rfl rfl (cells_new _ [bl3] _) ?_ ?_ ?_ ?_ ?_)
 ·simp [Value.oneCell']
 ·unfold maxLen; simp
 ·simp
 ·simp; omega
 intro v22 w22 hown2 hg2 _
 have HO2 : Hid (w22.ownsRow w1.heap.size 9 1 v22 (([3, x_frm, x_to].map Bd.bInt) ++ [bl3]).length (sv (([3, x_frm, x_to].map Bd.bInt) ++ [bl3]))) := by rw [Hid, sv_append]; exact hown2
 have B2 : Hid (Below w1.heap.size w1 w22) := (B3.out.alloc hs3 _).grown hg2 (by simp; omega) (fun kk hkk => (HO3.out.lt kk hkk).1)
 clear hown2 hg2 HO3
 clear kx
 go_wp2
 go_ret
 refine ⟨_, rfl, ?_, BW.out _ B2.out⟩
 rw [HFM.out]
 exact ownsRow_weaken HO2.out HSW.out
end Go.Proofs.YtjfpbeccpcbpcaaGreatDoor
namespace Go.Proofs.YtjfpbeccpcbpcaaGreatDoor
open Go.RowKit
set_option maxRecDepth 20000 in
set_option maxHeartbeats 6400000 in
theorem wfields_k4 (m : Wi.Msg) (v : MsgV) (w : World) (h : MsgAt w m v) (ok : MsgOk m) (hk : m.kind = 4) (hg : Wi.good m = true) (hw : Lw w) :
  Calls Tryz.prog 23 #[msgV m v] w (WStrs w (Wi.fieldsL m)) := by
 have HW := Lib.hid hw
 have HM := Lib.hid h
 have HO := Lib.hid ok
 have hn := ok.n
 simp only [List.mem_cons, List.not_mem_nil, or_false, forall_eq_or_imp, forall_eq] at hn
 obtain ⟨n0, n1, n2, n3, n4, n5, n6, n7, n8, n9, q0, q1, q2, q3, q4, q5, q6, q7, r0, r1, r2, r3, r4, r5⟩ := hn
 obtain ⟨i0, hi, hz0, hz1, hz2⟩ := info_parts cinfoStr
 obtain ⟨s0, c0, hh0⟩ := h.chain.form
 obtain ⟨s1, c1, hh1⟩ := h.lives.form
 obtain ⟨s2, c2, hh2⟩ := h.brecs.form
 obtain ⟨s3, c3, hh3⟩ := h.table.form
 obtain ⟨s4, c4, hh4⟩ := h.qrecs.form
 obtain ⟨s5, c5, hh5⟩ := h.parts.form
 obtain ⟨s6, c6, hh6⟩ := h.arecs.form
 obtain ⟨v0, v1, v2, v3, v4, v5, v6⟩ := v
 dsimp only at hh0 hh1 hh2 hh3 hh4 hh5 hh6
 subst hh0 hh1 hh2 hh3 hh4 hh5 hh6
 obtain ⟨x_kind, x_frm, x_to, x_part, x_ep, x_off, x_high, x_life, x_pep, x_chain, x_learner, x_lives, x_batch, x_table, x_req, x_resp⟩ := m
 dsimp only at *
 subst hk
 have hrq := Wi.placeB_parts (m := ⟨4, x_frm, x_to, x_part, x_ep, x_off, x_high, x_life, x_pep, x_chain, x_learner, x_lives, x_batch, x_table, x_req, x_resp⟩) (by have := hg; simp [Wi.good, Wi.lastB] at this; exact this.2)
 obtain ⟨_, _, hcl, hcc, hll, hlr⟩ := hrq
 dsimp only at hcl hcc hll hlr
 have HL1 : Hid (x_chain.length ≤ 100000) := by rw [Hid]; omega
 have HL2 : Hid (∀ x ∈ x_chain, Bd.inR x) := ok.c.2
 have HL3 : Hid ((x_chain.map Bd.bInt).flatten.length ≤ 140737488355328) := ints_flat (by omega) ok.c.2
 have HL4 : Hid ((Wi.flatLives x_lives).length ≤ 100000) := by rw [Hid, flatLives_len]; omega
 have HL5 : Hid (∀ x ∈ Wi.flatLives x_lives, Bd.inR x) := fun x hx => by
  obtain ⟨y, hy, hx⟩ := List.mem_flatMap.1 hx
  rcases List.mem_cons.1 hx with rfl | hx
  ·exact (ok.l.2 y hy).1
  ·rw [List.mem_singleton.1 hx]; exact (ok.l.2 y hy).2
 have HL6 : Hid (((Wi.flatLives x_lives).map Bd.bInt).flatten.length ≤ 140737488355328) := ints_flat HL4.out HL5.out
 clear hcl hcc hlr
 clear h ok hw hg
 have HFM : Hid (Wi.fieldsL ⟨4, x_frm, x_to, x_part, x_ep, x_off, x_high, x_life, x_pep, x_chain, x_learner, x_lives, x_batch, x_table, x_req, x_resp⟩ = [4, x_frm, x_to].map Bd.bInt ++ [x_part, x_ep].map Bd.bInt ++ [Bd.bInt x_pep, Wi.listB (Wi.encInts x_chain), Bd.bInt x_learner, Wi.listB (Wi.encInts (Wi.flatLives x_lives))]) := by rw [Hid]; simp [Wi.fieldsL, Wi.headL, Wi.tailL, Wi.reqNumsL, Wi.respNumsL]
 unfold msgV msgC
 dsimp only
 go_enter Tryz.func23, Tryz.ntmps23
 obtain ⟨w1, hw1, CA, B1⟩ := oneBox (w := w) (.int .i64 4 :: .int .i64 x_frm :: .int .i64 x_to :: .int .i64 x_part :: .int .i64 x_ep :: .int .i64 x_off :: .int .i64 x_high :: .int .i64 x_life :: .int .i64 x_pep :: .slice s0 x_chain.length c0 :: .int .i64 x_learner :: .slice s1 x_lives.length c1 :: .int .i64 x_batch.base :: .int .i64 x_batch.count :: .int .i64 x_batch.prod :: .int .i64 x_batch.seq :: .int .i64 x_batch.time :: .slice s2 x_batch.recs.length c2 :: .slice s3 x_table.length c3 :: .int .i64 x_req.client :: .int .i64 x_req.n :: .int .i64 x_req.kind :: .int .i64 x_req.part :: .int .i64 x_req.seq :: .int .i64 x_req.off :: .int .i64 x_req.max :: .int .i64 x_req.gen :: .string ⟨x_req.group.toArray⟩ :: .string ⟨x_req.member.toArray⟩ :: .slice s4 x_req.recs.length c4 :: .int .i64 x_resp.client :: .int .i64 x_resp.n :: .int .i64 x_resp.code :: .int .i64 x_resp.off :: .int .i64 x_resp.high :: .int .i64 x_resp.gen :: .slice s5 x_resp.parts.length c5 :: .slice s6 x_resp.recs.length c6 :: []) 36
 have HW1 := Lib.hid hw1
 clear hw1
 go_upto_region 1 with (fail)
 first | rw [HW1.out] | skip
 clear HW1
 have hpa := CA.out.lt
 have HI : Hid (∀ W, Below w1.heap.size w1 W → w1.heap.size ≤ W.heap.size) := fun W h => h.size
 have BW : Hid (∀ W, Below w1.heap.size w1 W → Below w.heap.size w W) := fun W h => bt B1.out h
 have LW1 := Lib.hid (HW.out.below B1.out)
 have HSW : Hid (w.heap.size ≤ w1.heap.size) := B1.out.size
 have B0 : Hid (Below w1.heap.size w1 w1) := Below.refl _ _
 obtain ⟨pa, hpa2⟩ : ∃ pa, pa = w.heap.size := ⟨_, rfl⟩
 rw [← hpa2] at CA ⊢
 have HPA := Lib.hid hpa2
 clear hpa2 hpa
 have CX := Lib.hid (CA.out.below B0.out)
 have a0 := CX.out.cell 0
 have a1 := CX.out.cell 1
 have a2 := CX.out.cell 2
 simp only [List.getElem?_cons_zero, List.getElem?_cons_succ] at a0 a1 a2
 have C1 : Hid (Cl (w1.alloc (.cells #[.int .i64 4, .int .i64 x_frm, .int .i64 x_to] 3)) w1.heap.size [.int .i64 4, .int .i64 x_frm, .int .i64 x_to] 3) := Cl.new w1 _ _
 have D1 : Hid (Below w1.heap.size w1 (w1.alloc (.cells #[.int .i64 4, .int .i64 x_frm, .int .i64 x_to] 3))) := (Below.refl _ _).alloc (Nat.le_refl _) _
 have HC1 := Lib.hid (wints_any [4, x_frm, x_to] (by simp) (by simp only [List.mem_cons, List.not_mem_nil, or_false, forall_eq_or_imp, forall_eq]; exact ⟨n0, n1, n2⟩) _ _ (ints3_cl C1.out) (LW1.out.below (bt B0.out D1.out)))
 go_wp2_with fail
 refine HC1.out.mono ?_
 rintro e w11 ⟨v11, rfl, ho1, hb1⟩
 have B10 := Lib.hid (bt D1.out hb1)
 have B1 := Lib.hid (bt B0.out B10.out)
 have hs1 := HI.out _ B1.out
 have HR1 := Lib.hid (ownsRow_weaken ho1 (show w1.heap.size ≤ (w1.alloc (.cells #[.int .i64 4, .int .i64 x_frm, .int .i64 x_to] 3)).heap.size by have := HI.out _ (bt B0.out D1.out); exact this))
 clear hb1 ho1 HC1 C1 D1
 clear CX a0 a1 a2
 have kx := (CA.out.below B1.out).cell 0
 simp only [List.getElem?_cons_zero, List.getElem?_cons_succ] at kx
 have CX := Lib.hid (CA.out.below B1.out)
 have a3 := CX.out.cell 3
 have a4 := CX.out.cell 4
 simp only [List.getElem?_cons_zero, List.getElem?_cons_succ] at a3 a4
 have C2 : Hid (Cl (w11.alloc (.cells #[.int .i64 x_part, .int .i64 x_ep] 3)) w11.heap.size [.int .i64 x_part, .int .i64 x_ep] 3) := Cl.new w11 _ _
 have D2 : Hid (Below w11.heap.size w11 (w11.alloc (.cells #[.int .i64 x_part, .int .i64 x_ep] 3))) := (Below.refl _ _).alloc (Nat.le_refl _) _
 have HC2 := Lib.hid (wints_any [x_part, x_ep] (by simp) (by simp only [List.mem_cons, List.not_mem_nil, or_false, forall_eq_or_imp, forall_eq]; exact ⟨n3, n4⟩) _ _ (ints2_cl C2.out) (LW1.out.below (bt B1.out D2.out)))
 go_wp2_with fail
 refine HC2.out.mono ?_
 rintro e w12 ⟨v12, rfl, ho2, hb2⟩
 have B20 := Lib.hid (bt D2.out hb2)
 have B2 := Lib.hid (bt B1.out B20.out)
 have hs2 := HI.out _ B2.out
 have HR2 := Lib.hid (ownsRow_weaken ho2 (show w1.heap.size ≤ (w11.alloc (.cells #[.int .i64 x_part, .int .i64 x_ep] 3)).heap.size by have := HI.out _ (bt B1.out D2.out); exact this))
 clear hb2 ho2 HC2 C2 D2
 clear CX a3 a4
 have HO2 := Lib.hid (ownsRow_below HR1.out B20.out)
 clear HR1
 clear kx
 have HS3 := Lib.hid (own_slice HR2.out (by simp))
 obtain ⟨g3, cap3, hv3, hc3⟩ := HS3.out
 subst hv3
 clear HS3
 go_wp2_with (at_builtin; refine wpList_append_own _ rfl _ _ 51 rfl w1.heap.size 9 i0 (.string ⟨#[]⟩) 1 16 Tryz.underlying51 hi hz0 hz1 hz2 rfl (by decide) _ _ _ rfl HO2.out ⟨g3, 0, none⟩ _ _ (sv ([x_part, x_ep].map Bd.bInt)) rfl (by simp [sv]) hc3 ?_ ?_ ?_ ?_ ?_)
 ·simp [sv, Value.oneCell']
 ·unfold maxLen; simp
 ·simp
 ·omega
 intro v13 w13 hown3 hg3 _
 have HO3 : Hid (w13.ownsRow w1.heap.size 9 1 v13 (([4, x_frm, x_to].map Bd.bInt) ++ ([x_part, x_ep].map Bd.bInt)).length (sv (([4, x_frm, x_to].map Bd.bInt) ++ ([x_part, x_ep].map Bd.bInt)))) := by rw [Hid, sv_append]; exact hown3
 have B3 : Hid (Below w1.heap.size w1 w13) := B2.out.grown hg3 B2.out.size (fun kk hkk => (HO2.out.lt kk hkk).1)
 clear hown3 hg3 hc3
 have kx := (CA.out.below B3.out).cell 0
 simp only [List.getElem?_cons_zero, List.getElem?_cons_succ] at kx
 have LV := Lib.hid (HM.out.kept (BW.out _ B3.out)).lives
 obtain ⟨j0, hj, hjz0, hjz1, hjz2⟩ := info_parts cinfoInt
 have CX := Lib.hid (CA.out.below B3.out)
 have a11 := CX.out.cell 11
 simp only [List.getElem?_cons_zero, List.getElem?_cons_succ] at a11
 go_wp2
 clear CX a11
 go_loopw [6, 114] (fun tv ti wr => ∃ k : Nat, ti = .int .i64 k ∧ k ≤ x_lives.length ∧ wr.ownsRow w13.heap.size 3 1 tv (k * 2) (iv (Wi.flatLives (x_lives.take k))) ∧ Below w13.heap.size w13 wr) (fun _ ti _ => x_lives.length - (intOf ti).toNat)
 case atStart => exact ⟨0, rfl, by omega, ⟨by simp [iv, Wi.flatLives], .inl ⟨rfl, rfl⟩⟩, Below.refl _ _⟩
 case round =>
  obtain ⟨k, rfl, hk, ho, hb⟩ := hrel
  have HR := Lib.hid ho
  have HB := Lib.hid hb
  have hszr := hb.size
  clear ho hb
  by_cases hlt : k < x_lives.length
  ·obtain ⟨x, hx⟩ : ∃ x, x_lives[k]? = some x := ⟨x_lives[k], by simp [hlt]⟩
   have HS := Lib.hid (flatLives_succ hx)
   obtain ⟨g, off, cap', he, hg, p0, p1⟩ := LV.out.getL HB.out hx
   injection he with he1 he2 he3
   subst he1 he3
   obtain ⟨y, z⟩ := x
   dsimp only at p0 p1 HS
   clear he2 hx
   go_wp2_with (at_builtin; refine wpList_append_own _ rfl _ _ 22 rfl w13.heap.size 3 j0 (.int .i64 0) 1 8 Tryz.underlying22 hj hjz0 hjz1 hjz2 rfl (by decide) _ _ _ rfl (World.ownsRow.alloc (World.ownsRow.alloc HR.out _) _) ⟨wr.heap.size + 1, 0, none⟩ 2 2 (iv [y, z]) rfl rfl ?_ ?_ ?_ ?_ ?_ ?_)
   ·have := icells_new (wr.alloc (.cells #[.int .i64 y, .int .i64 z] 64)) [y, z] 3
    rw [World.size_alloc] at this
    exact this
   ·simp [iv, Value.oneCell']
   ·unfold maxLen; omega
   ·omega
   ·simp; omega
   intro v' w9 hown9 hg9 _
   have H9 : Hid (w9.ownsRow w13.heap.size 3 1 v' ((k + 1) * 2) (iv (Wi.flatLives (x_lives.take (k + 1))))) := by
    rw [Hid, HS.out, iv_append, show (k + 1) * 2 = k * 2 + 2 by omega]; exact hown9
   have B9 : Hid (Below w13.heap.size w13 w9) := ((HB.out.alloc hszr _).alloc (by simp; omega) _).grown hg9 (by simp; omega) (fun kk hkk => (HR.out.lt kk hkk).1)
   clear hown9 hg9
   go_wp2
   go_roundw
   case rel => exact ⟨k + 1, by go_num, by omega, H9.out, B9.out⟩
   case measure => simp [intOf]; omega
  ·obtain rfl : k = x_lives.length := by omega
   have h9 := HR.out
   rw [List.take_length] at h9
   have HIN := Lib.hid (ints_own h9)
   have HOX := Lib.hid (ownsRow_below HO3.out HB.out)
   have BX := Lib.hid (bt B3.out HB.out)
   clear h9 HR hlt hk
   have hm0 : Hid (∀ W, Below wr.heap.size wr W → W.cell? ⟨pa, 8, none⟩ = some (.int .i64 x_pep) ∧ W.cell? ⟨pa, 9, none⟩ = some (.slice s0 x_chain.length c0) ∧ W.cell? ⟨pa, 10, none⟩ = some (.int .i64 x_learner)) := fun W hW => ⟨Cl.cell (CA.out.below (bt BX.out hW)) 8, Cl.cell (CA.out.below (bt BX.out hW)) 9, Cl.cell (CA.out.below (bt BX.out hW)) 10⟩
   have hne : some pa ≠ Value.ownBlock v13 := fun h => by have := (HO3.out.lt _ h.symm).1; have := CA.out.lt; omega
   have BF : Hid (∀ W, Below wr.heap.size wr W → Below w1.heap.size w1 W) := fun W h => bt BX.out h
   have J1 := Lib.hid (fun W (hW : Below wr.heap.size wr W) => beadInt_any x_pep n8 W (LW1.out.below (BF.out _ hW)))
   have J2 := Lib.hid (fun W (hW : Below wr.heap.size wr W) => wints_any x_chain HL1.out HL2.out _ W (HM.out.kept (BW.out _ (BF.out _ hW))).chain (LW1.out.below (BF.out _ hW)))
   have J3 := Lib.hid (fun W v (hv : Strs W v (x_chain.map Bd.bInt)) => beadList_any v _ W hv (by rw [List.length_map]; exact Nat.le_trans HL1.out (by decide)) HL3.out)
   have J4 := Lib.hid (fun W (hW : Below wr.heap.size wr W) => beadInt_any x_learner n9 W (LW1.out.below (BF.out _ hW)))
   have J5 := Lib.hid (fun W (hW : Below wr.heap.size wr W) => wints_any (Wi.flatLives x_lives) HL4.out HL5.out _ W (HIN.out.kept hW) (LW1.out.below (BF.out _ hW)))
   have J6 := Lib.hid (fun W v (hv : Strs W v ((Wi.flatLives x_lives).map Bd.bInt)) => beadList_any v _ W hv (by rw [List.length_map]; exact Nat.le_trans HL4.out (by decide)) HL6.out)
   change Hid (∀ W v, Strs W v (x_chain.map Bd.bInt) → Calls Tryz.prog 22 #[v] W fun e w' => e = .returned (.string ⟨(Wi.listB (Wi.encInts x_chain)).toArray⟩) ∧ Below W.heap.size W w') at J3
   change Hid (∀ W v, Strs W v ((Wi.flatLives x_lives).map Bd.bInt) → Calls Tryz.prog 22 #[v] W fun e w' => e = .returned (.string ⟨(Wi.listB (Wi.encInts (Wi.flatLives x_lives))).toArray⟩) ∧ Below W.heap.size W w') at J6
   generalize hbl1 : Bd.bInt x_pep = t1 at J1 HFM
   generalize hbl2 : Wi.listB (Wi.encInts x_chain) = t2 at J3 HFM
   generalize hbl3 : Bd.bInt x_learner = t3 at J4 HFM
   generalize hbl4 : Wi.listB (Wi.encInts (Wi.flatLives x_lives)) = t4 at J6 HFM
   clear hbl1 hbl2 hbl3 hbl4
   have T0 : Hid (Below wr.heap.size wr wr.drew) := (Below.refl _ _).drew
   obtain ⟨q8, q9, q10⟩ := hm0.out _ (Below.refl _ _)
   have hs8 := HI.out _ BX.out
   have hone : ∀ u ∈ [Value.string ⟨t1.toArray⟩, .string ⟨t2.toArray⟩, .string ⟨t3.toArray⟩, .string ⟨t4.toArray⟩], u.oneCell' = true := by simp [Value.oneCell']
   generalize hLL : (([4, x_frm, x_to].map Bd.bInt) ++ ([x_part, x_ep].map Bd.bInt)) = LL at *
   have hLn : LL.length ≤ 20 := by rw [← hLL]; simp
   have h63 : LL.length + 4 ≤ maxLen := by unfold maxLen; omega
   have hby : (LL.length + 4) * 16 ≤ 140737488355328 := by omega
   go_upto_region 23 with (fail)
   go_region_held3 (fun W => W.cell? ⟨pa, 8, none⟩ = some (.int .i64 x_pep) ∧ W.cell? ⟨pa, 9, none⟩ = some (.slice s0 x_chain.length c0) ∧ W.cell? ⟨pa, 10, none⟩ = some (.int .i64 x_learner)) (first | assumption | exact ⟨q8, q9, q10⟩ | exact S1.out | exact S2.out | exact S3.out | exact S4.out | exact S5.out | exact S6.out | exact hm0.out _ U5.out | exact S7.out) (first
    | (go_at_call 22; refine (J6.out _ _ HSJ.out).mono ?_; rintro e w95 ⟨rfl, hb95⟩; have T5 := Lib.hid (bt T6.out hb95); have S6 := Lib.hid (hm0.out _ T5.out); clear hb95; have U5 := Lib.hid (T5.out.alloc T5.out.size (.cells #[.string ⟨t1.toArray⟩, .string ⟨t2.toArray⟩, .string ⟨t3.toArray⟩, .string ⟨t4.toArray⟩] 9)); have HO5 := Lib.hid (ownsRow_below HOX.out T5.out))
    | (go_at_call 80; refine (J5.out _ T4.out).mono ?_; rintro e w96 ⟨vj, rfl, hoj, hb96⟩; have T6 := Lib.hid (bt T4.out hb96); have S5 := Lib.hid (hm0.out _ T6.out); have HSJ := Lib.hid (strs_own hoj); clear hb96 hoj)
    | (go_at_call 83; refine (J4.out _ T3.out).mono ?_; rintro e w94 ⟨rfl, hb94⟩; have T4 := Lib.hid (bt T3.out hb94); have S4 := Lib.hid (hm0.out _ T4.out); clear hb94)
    | (go_at_call 22; refine (J3.out _ _ HSI.out).mono ?_; rintro e w93 ⟨rfl, hb93⟩; have T3 := Lib.hid (bt T2.out hb93); have S3 := Lib.hid (hm0.out _ T3.out); clear hb93)
    | (go_at_call 80; refine (J2.out _ T1.out).mono ?_; rintro e w92 ⟨vi, rfl, hoi, hb92⟩; have T2 := Lib.hid (bt T1.out hb92); have S2 := Lib.hid (hm0.out _ T2.out); have HSI := Lib.hid (strs_own hoi); clear hb92 hoi)
    | (go_at_call 83; refine (J1.out _ T0.out).mono ?_; rintro e w91 ⟨rfl, hb91⟩; have T1 := Lib.hid (bt T0.out hb91); have S1 := Lib.hid (hm0.out _ T1.out); clear hb91)
    | (refine step_append_lies _ (by rfl) _ _ _ (by rfl) w1.heap.size 9 i0 _ 1 16 Tryz.underlying51 hi hz0 hz1 hz2 rfl Nat.one_pos v13 LL.length (sv LL) (by rfl) (World.ownsRow.alloc HO5.out _) ⟨w95.heap.size, 0, none⟩ 4 4 [.string ⟨t1.toArray⟩, .string ⟨t2.toArray⟩, .string ⟨t3.toArray⟩, .string ⟨t4.toArray⟩] (by rfl) (by rfl) (cells_new _ [t1, t2, t3, t4] _) hone (by decide) h63 hby (Nat.le_trans hs8 U5.out.size) (w95.heap.size + 1) (World.size_alloc _ _) ?_; intro g11 cap11 w11z hown11 hg11 hat11 hlt11; have S7 := Lib.hid (And.intro (hg11.cell (hm0.out _ U5.out).1 hne) (And.intro (hg11.cell (hm0.out _ U5.out).2.1 hne) (hg11.cell (hm0.out _ U5.out).2.2 hne)))))
   have HO99 : Hid (w11z.ownsRow w1.heap.size 9 1 (.slice (some ⟨g11, 0, none⟩) (LL.length + 4) cap11) (LL ++ [t1, t2, t3, t4]).length (sv (LL ++ [t1, t2, t3, t4]))) := by rw [Hid, sv_append, show (LL ++ [t1, t2, t3, t4]).length = LL.length + 4 by simp]; exact hown11
   have B99 : Hid (Below w1.heap.size w1 w11z) := (BF.out _ U5.out).grown hg11 (BF.out _ U5.out).size (fun kk hkk => (HO5.out.lt kk hkk).1)
   clear hown11 hg11
   go_wp2
   go_ret
   refine ⟨_, rfl, ?_, BW.out _ B99.out⟩
   rw [HFM.out]
   exact ownsRow_weaken HO99.out HSW.out
end Go.Proofs.YtjfpbeccpcbpcaaGreatDoor
