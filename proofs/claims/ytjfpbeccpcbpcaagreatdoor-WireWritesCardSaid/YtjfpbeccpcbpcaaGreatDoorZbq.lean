/-
  Yk: texts of one proof, one behind the other.
  Conditions: none of its own.
-/
import Derived.Test.YtjfpbeccpcbpcaaGreatDoorZav
import Derived.Test.YtjfpbeccpcbpcaaGreatDoorZbn
import Derived.Test.YtjfpbeccpcbpcaaGreatDoorZbo
import Derived.Test.YtjfpbeccpcbpcaaGreatDoorZbp
import Derived.Deep.MidRow
set_option linter.unusedVariables false
set_option linter.unusedSimpArgs false
namespace Go.Proofs.YtjfpbeccpcbpcaaGreatDoor
open Go.RowKit
theorem exec_bs1 (a : Act) (w : World) (o : Oper) (k0 : Nat) (x0 : Int) (ho : o.op = .buildSlice 22 1 #[(0, .tmp k0)]) (h0 : a.eval (.tmp k0) = .int .i64 x0) :
  (execOp a.eval o).run Tryz.prog w = .ok (.value (.slice (some ⟨w.heap.size, 0, none⟩) 1 1)) (w.alloc (.cells #[.int .i64 x0] 3)) := by
 generalize a.eval = ev at *
 unfold execOp
 rw [ho]
 go_simp
theorem exec_bs2 (a : Act) (w : World) (o : Oper) (k0 k1 : Nat) (x0 x1 : Int) (ho : o.op = .buildSlice 22 2 #[(0, .tmp k0), (1, .tmp k1)]) (h0 : a.eval (.tmp k0) = .int .i64 x0) (h1 : a.eval (.tmp k1) = .int .i64 x1) :
  (execOp a.eval o).run Tryz.prog w = .ok (.value (.slice (some ⟨w.heap.size, 0, none⟩) 2 2)) (w.alloc (.cells #[.int .i64 x0, .int .i64 x1] 3)) := by
 generalize a.eval = ev at *
 unfold execOp
 rw [ho]
 go_simp
theorem exec_bs6 (a : Act) (w : World) (o : Oper) (k0 k1 k2 k3 k4 k5 : Nat) (x0 x1 x2 x3 x4 x5 : Int) (ho : o.op = .buildSlice 22 6 #[(0, .tmp k0), (1, .tmp k1), (2, .tmp k2), (3, .tmp k3), (4, .tmp k4), (5, .tmp k5)]) (h0 : a.eval (.tmp k0) = .int .i64 x0) (h1 : a.eval (.tmp k1) = .int .i64 x1) (h2 : a.eval (.tmp k2) = .int .i64 x2) (h3 : a.eval (.tmp k3) = .int .i64 x3) (h4 : a.eval (.tmp k4) = .int .i64 x4) (h5 : a.eval (.tmp k5) = .int .i64 x5) :
  (execOp a.eval o).run Tryz.prog w = .ok (.value (.slice (some ⟨w.heap.size, 0, none⟩) 6 6)) (w.alloc (.cells #[.int .i64 x0, .int .i64 x1, .int .i64 x2, .int .i64 x3, .int .i64 x4, .int .i64 x5] 3)) := by
 generalize a.eval = ev at *
 unfold execOp
 rw [ho]
 go_simp
theorem exec_call1 (a : Act) (w : World) (o : Oper) (f : FuncId) (k : Nat) (x : Value) (ts : Array TypeId) (ho : o.op = .call { callee := .value (.func f), args := #[.tmp k], argTypes := ts }) (hf : a.eval (.func f) = .func (.func f) #[] #[]) (h : a.eval (.tmp k) = x) (he : (callFunc f #[x]).run Tryz.prog w = .ok (.enter f #[x]) w) :
  (execOp a.eval o).run Tryz.prog w = .ok (.enter f #[x]) w := by
 generalize a.eval = ev at *
 unfold execOp
 rw [ho]
 go_simp
theorem flat_take {l : List (Int × Int)} {k : Nat} {x : Int × Int} (h : l[k]? = some x) : Wi.encInts (Wi.flatLives (l.take (k + 1))) = Wi.encInts (Wi.flatLives (l.take k)) ++ Wi.encInts [x.1, x.2] := by
 obtain ⟨hk, rfl⟩ := List.getElem?_eq_some_iff.1 h
 rw [List.take_succ_eq_append_getElem hk]
 unfold Wi.encInts Wi.flatLives
 rw [List.flatMap_append, List.map_append, List.flatten_append]
 simp
theorem flat_len2 (l : List (Int × Int)) : (Wi.flatLives l).length = 2 * l.length := by
 induction l with
 | nil => rfl
 | cons x l ih =>
  unfold Wi.flatLives at ih ⊢
  rw [List.flatMap_cons, List.length_append, ih]
  simp
  omega
theorem flat_ok {l : List (Int × Int)} (hl : l.length ≤ 5) (h : ∀ x ∈ l, (1 ≤ x.1 ∧ x.1 ≤ 5) ∧ (0 ≤ x.2 ∧ x.2 ≤ 1073741824)) : NumsOk (Wi.flatLives l) := by
 refine ⟨?_, fun y hy => ?_⟩
 ·rw [flat_len2]; omega
 ·obtain ⟨x, hx, hy⟩ := List.mem_flatMap.1 hy
  have := h x hx
  simp only [List.mem_cons, List.not_mem_nil, or_false] at hy
  rcases hy with rfl | rfl <;> exact numOk (by omega) (by omega)
set_option maxRecDepth 20000 in
theorem refencode14_no (m : Wi.Msg) (v : MsgV) (w : World) (h : MsgAt w m v) (ok : MsgOk m) (hcap : CapOk v.arecs) (cs : List Value) (hcs : msgC m v = cs) (hg : Wi.good m = false) :
  Calls Tryz.prog 12 #[.agg cs.toArray] w fun e w' => e = .returned (.tuple #[.string ⟨#[]⟩, .int .i64 1]) ∧ Below w.heap.size w w' := by
 have HI38 : Hid ((Tryz.prog.info? 36).map (·.size) = some cs.length) := by rw [Hid, msg_len38 hcs]; kernel_rfl
 have HM := Lib.hid (fun W (hW : Below w.heap.size w W) => refgood14_any m v W (h.kept hW) ok hcap cs hcs)
 rw [hg] at HM
 clear hcs h ok hcap hg
 go_enter Tryz.func12, Tryz.ntmps12
 obtain ⟨w1, hw1, CA, B1⟩ := oneBox (w := w) cs 36
 have HW1 := Lib.hid hw1
 clear hw1
 go_upto_region 1 with (fail)
 first | rw [HW1.out] | skip
 clear HW1
 generalize w.heap.size = pa at CA ⊢
 have R1 := Lib.hid CA.out.range
 go_wp2_with (refine wpList_load_mid (by rfl) _ _ (by rfl) pa 0 (by rfl) cs _ R1.out Tryz.underlying36 (by rfl) HI38.out ?_)
 refine (HM.out _ B1.out).mono ?_
 rintro e w2 ⟨rfl, hb⟩
 have B2 := Lib.hid (bt B1.out hb)
 clear hb
 go_wp2
 go_ret2
 exact ⟨rfl, B2.out⟩
theorem headL_flat (m : Wi.Msg) : (Wi.headL m).flatten = Wi.encInts [m.kind, m.frm, m.to] ++ (if 4 ≤ m.kind then Wi.encInts [m.part, m.ep] else []) := by
 unfold Wi.headL Wi.encInts
 split <;> simp
set_option maxRecDepth 20000 in
set_option maxHeartbeats 25600000 in
theorem refencode14_yes (m : Wi.Msg) (v : MsgV) (w : World) (h : MsgAt w m v) (ok : MsgOk m) (hcap : CapOk v.arecs) (cs : List Value) (hcs : msgC m v = cs) (hg : Wi.good m = true) :
  Calls Tryz.prog 12 #[.agg cs.toArray] w fun e w' => e = .returned (.tuple #[.string ⟨(Frm.put (Wi.enc m)).toArray⟩, .int .i64 0]) ∧ Below w.heap.size w w' := by
 have HCS : Hid (cs = msgC m v) := hcs.symm
 have HI38 : Hid ((Tryz.prog.info? 36).map (·.size) = some cs.length) := by rw [Hid, msg_len38 hcs]; kernel_rfl
 have HG := Lib.hid (fun W (hW : Below w.heap.size w W) => refgood14_any m v W (h.kept hW) ok hcap cs hcs)
 rw [hg] at HG
 have HM := Lib.hid h
 have HO := Lib.hid ok
 have HCAP := Lib.hid hcap
 have HL : Hid (Wi.lastB m = true) := by
  rw [Hid]
  rw [Wi.good, Bool.and_eq_true] at hg
  exact hg.2
 have hEL := Wi.enc_le hg
 have HF := Lib.hid (Wi.good_first hg)
 have hkk := HF.out.1
 have HNO : Hid (∀ x, x = m.kind ∨ x = m.frm ∨ x = m.to ∨ x = m.part ∨ x = m.ep ∨ x = m.off ∨ x = m.high ∨ x = m.life → Bd.inR x ∧ (Bd.bInt x).length ≤ 16) := fun x hx => by
  obtain ⟨f1, f2, f3, f4, f5, f6, f7, f8⟩ := HF.out
  rcases hx with rfl | rfl | rfl | rfl | rfl | rfl | rfl | rfl <;> exact numOk (by omega) (by omega)
 have N3 : Hid (NumsOk [m.kind, m.frm, m.to]) := ⟨by simp, fun x hx => HNO.out x (by simp only [List.mem_cons, List.not_mem_nil, or_false] at hx ⊢; omega)⟩
 have N2 : Hid (NumsOk [m.part, m.ep]) := ⟨by simp, fun x hx => HNO.out x (by simp only [List.mem_cons, List.not_mem_nil, or_false] at hx ⊢; omega)⟩
 have l3 := encInts_all N3.out
 have l2 := encInts_all N2.out
 obtain ⟨S1, hS1⟩ : ∃ S, S = 108 :: (Wi.headL m).flatten := ⟨_, rfl⟩
 obtain ⟨S2, hS2⟩ : ∃ S, S = 108 :: (Wi.fieldsL m).flatten := ⟨_, rfl⟩
 have HS1 := Lib.hid hS1
 have HS2 := Lib.hid hS2
 have HEN : Hid (S2 ++ [101] = Wi.enc m) := by rw [Hid, hS2, Wi.enc, Wi.listB]; rfl
 have hs1 : S1.length ≤ 1000 := by rw [hS1, headL_flat]; simp only [List.length_cons, List.length_append]; split <;> (try simp only [List.length_nil]) <;> omega
 have hs2 : S2.length ≤ 16384 := by
  have := congrArg List.length HEN.out
  rw [List.length_append] at this
  omega
 have HS1F : Hid (S1 = 108 :: (Wi.encInts [m.kind, m.frm, m.to] ++ (if 4 ≤ m.kind then Wi.encInts [m.part, m.ep] else []))) := by rw [Hid, hS1, headL_flat]
 have HPUT := Lib.hid (fun W => refput_any (Wi.enc m) W hEL)
 rw [← HEN.out] at HPUT
 rw [← HEN.out]
 clear hcs h ok hcap hg hS1 hS2
 go_enter Tryz.func12, Tryz.ntmps12
 obtain ⟨w1, hw1, CA, B1⟩ := oneBox (w := w) cs 36
 have HW1 := Lib.hid hw1
 clear hw1
 go_upto_region 1 with (fail)
 first | rw [HW1.out] | skip
 clear HW1
 have M1 := Lib.hid (HM.out.kept B1.out)
 have HGG := Lib.hid (HG.out _ B1.out)
 generalize w.heap.size = pa at CA ⊢
 have R1 := Lib.hid CA.out.range
 clear HM HG
 go_wp2_with (refine wpList_load_mid (by rfl) _ _ (by rfl) pa 0 (by rfl) cs _ R1.out Tryz.underlying36 (by rfl) HI38.out ?_)
 refine HGG.out.mono ?_
 rintro e w2 ⟨rfl, hb⟩
 have B2 := Lib.hid (bt B1.out hb)
 have C2 := Lib.hid (CA.out.below hb)
 have M2 := Lib.hid (M1.out.kept hb)
 clear hb HGG R1 HI38 CA M1 B1
 have k0 := (C2.out.cell 0).trans (show cs[0]? = some (.int .i64 m.kind) by rw [HCS.out]; rfl)
 have k1 := (C2.out.cell 1).trans (show cs[1]? = some (.int .i64 m.frm) by rw [HCS.out]; rfl)
 have k2 := (C2.out.cell 2).trans (show cs[2]? = some (.int .i64 m.«to») by rw [HCS.out]; rfl)
 have J3 := Lib.hid (fun (W : World) => refints14_any [m.kind, m.frm, m.«to»] N3.out (.slice (some ⟨W.heap.size, 0, none⟩) 3 3) _ (intsN_cl (l := [m.kind, m.frm, m.«to»]) (Cl.new W [.int .i64 m.kind, .int .i64 m.frm, .int .i64 m.«to»] 3)))
 have J2 := Lib.hid (fun (W : World) => refints14_any [m.part, m.ep] N2.out (.slice (some ⟨W.heap.size, 0, none⟩) 2 2) _ (intsN_cl (l := [m.part, m.ep]) (Cl.new W [.int .i64 m.part, .int .i64 m.ep] 3)))
 generalize hTA : Wi.encInts [m.kind, m.frm, m.to] = tA at J3 HS1F l3
 generalize hTB : Wi.encInts [m.part, m.ep] = tB at J2 HS1F l2
 clear hTA hTB
 have BA := Lib.hid (((Below.refl _ w2).alloc (Nat.le_refl _) (.cells #[.int .i64 m.kind, .int .i64 m.frm, .int .i64 m.to] 3)))
 go_wp2_with fail
 refine (J3.out _).mono ?_
 rintro e w3 ⟨rfl, hb⟩
 have B3 := Lib.hid (bt B2.out (bt BA.out (Drw.bel hb)))
 have C3 := Lib.hid (C2.out.below (bt BA.out (Drw.bel hb)))
 have M3 := Lib.hid (M2.out.kept (bt BA.out (Drw.bel hb)))
 clear hb k0 k1 k2 C2 M2 B2 BA J3
 have k0 := (C3.out.cell 0).trans (show cs[0]? = some (.int .i64 m.kind) by rw [HCS.out]; rfl)
 go_upto_if 25 with (fail)
 go_cut [4] (fun t wz => t = .string ⟨S1.toArray⟩ ∧ Below w3.heap.size w3 wz)
 case first =>
  have k3 := (C3.out.cell 3).trans (show cs[3]? = some (.int .i64 m.part) by rw [HCS.out]; rfl)
  have k4 := (C3.out.cell 4).trans (show cs[4]? = some (.int .i64 m.ep) by rw [HCS.out]; rfl)
  have BA := Lib.hid (((Below.refl _ w3).alloc (Nat.le_refl _) (.cells #[.int .i64 m.part, .int .i64 m.ep] 3)))
  clear HS1 HS2 HL HO M3 HCS HNO HEN HF HPUT hkk
  by_cases h4 : 4 ≤ m.kind
  ·rw [if_pos h4] at HS1F
   go_wp2_with fail
   refine (J2.out _).mono ?_
   rintro e w4 ⟨rfl, hb⟩
   have B4 := Lib.hid (bt BA.out (Drw.bel hb))
   clear hb
   go_wp2
   go_meet
   case rel => exact ⟨by rw [HS1F.out] <;> first | rfl | simp [bs_append], B4.out⟩
  ·rw [if_neg h4] at HS1F
   go_wp2
   go_meet
   case rel => exact ⟨by rw [HS1F.out] <;> first | rfl | simp [bs_append], Below.refl _ _⟩
 case rest =>
  obtain ⟨rfl, hwz⟩ := hcut
  have BZ0 := Lib.hid (bt B3.out hwz)
  have C8 := Lib.hid (C3.out.below hwz)
  have MZ0 := Lib.hid (M3.out.kept hwz)
  generalize wc = w8 at *
  clear hwz k0 C3 M3 B3 HS1F J2 N2 N3 l2 l3
  have k0 := (C8.out.cell 0).trans (show cs[0]? = some (.int .i64 m.kind) by rw [HCS.out]; rfl)
  go_upto_block 0 with (fail)
  go_cut [4] (fun t wz => t = .string ⟨S2.toArray⟩ ∧ Below w8.heap.size w8 wz)
  case first =>
   clear HEN HPUT HF
   have C9 := C8
   have MZ := MZ0
   clear C8 MZ0 BZ0
   by_cases e1 : m.kind = 1
   ·as_aux_lemma =>
     have hq1 : (m.kind == 1) = true := by rw [e1]; rfl
     have hq7 : (m.kind == 7) = false := by rw [e1]; rfl
     have hq2 : (m.kind == 2) = false := by rw [e1]; rfl
     have hq3 : (m.kind == 3) = false := by rw [e1]; rfl
     have hq4 : (m.kind == 4) = false := by rw [e1]; rfl
     have hq5 : (m.kind == 5) = false := by rw [e1]; rfl
     have hq6 : (m.kind == 6) = false := by rw [e1]; rfl
     have hq8 : (m.kind == 8) = false := by rw [e1]; rfl
     have hq9 : (m.kind == 9) = false := by rw [e1]; rfl
     have HK : Hid (m.kind = 1) := e1
     clear e1
     have k19 := (C9.out.cell 19).trans (show cs[19]? = some (.int .i64 m.req.client) by rw [HCS.out]; rfl)
     have k20 := (C9.out.cell 20).trans (show cs[20]? = some (.int .i64 m.req.n) by rw [HCS.out]; rfl)
     have k21 := (C9.out.cell 21).trans (show cs[21]? = some (.int .i64 m.req.kind) by rw [HCS.out]; rfl)
     have k22 := (C9.out.cell 22).trans (show cs[22]? = some (.int .i64 m.req.part) by rw [HCS.out]; rfl)
     have k23 := (C9.out.cell 23).trans (show cs[23]? = some (.int .i64 m.req.seq) by rw [HCS.out]; rfl)
     have k24 := (C9.out.cell 24).trans (show cs[24]? = some (.int .i64 m.req.off) by rw [HCS.out]; rfl)
     have k25 := (C9.out.cell 25).trans (show cs[25]? = some (.int .i64 m.req.max) by rw [HCS.out]; rfl)
     have k26 := (C9.out.cell 26).trans (show cs[26]? = some (.int .i64 m.req.gen) by rw [HCS.out]; rfl)
     have k27 := (C9.out.cell 27).trans (show cs[27]? = some (.string ⟨m.req.group.toArray⟩) by rw [HCS.out]; rfl)
     have k28 := (C9.out.cell 28).trans (show cs[28]? = some (.string ⟨m.req.member.toArray⟩) by rw [HCS.out]; rfl)
     have k29 := (C9.out.cell 29).trans (show cs[29]? = some (v.qrecs) by rw [HCS.out]; rfl)
     have HRQ : Hid (Wi.reqB m.req = true) := by
      rw [Hid]
      have := HL.out
      unfold Wi.lastB at this
      simpa [HK.out] using this
     have HQ := Lib.hid (refasked_any m.req HRQ.out v.qrecs w8 MZ.out.qrecs)
     unfold wreqC at HQ
     have HT : Hid (S2 = S1 ++ ((Wi.reqNumsL m.req).map Bd.bInt ++ [Bd.bText m.req.group, Bd.bText m.req.member, Wi.encRecs m.req.recs]).flatten) := by
      rw [Hid, HS2.out, HS1.out, Wi.fieldsL, List.flatten_append, Wi.tailL, if_pos (by rw [HK.out]; simp)]
      rfl
     have hA : (((Wi.reqNumsL m.req).map Bd.bInt ++ [Bd.bText m.req.group, Bd.bText m.req.member, Wi.encRecs m.req.recs]).flatten).length ≤ 16384 := by
      have := congrArg List.length HT.out
      rw [List.length_append] at this
      omega
     generalize ((Wi.reqNumsL m.req).map Bd.bInt ++ [Bd.bText m.req.group, Bd.bText m.req.member, Wi.encRecs m.req.recs]).flatten = tA at *
     clear HS1 HS2 HL HO MZ HRQ HCS
     go_wp2_with fail
     refine HQ.out.mono ?_
     rintro e w5 ⟨rfl, hb5⟩
     have B5 := Lib.hid (bt (Below.refl _ w8) hb5)
     clear hb5
     go_wp2
     go_meet
     case rel => exact ⟨by rw [HT.out] <;> first | rfl | simp [bs_append], B5.out⟩
   by_cases e7 : m.kind = 7
   ·as_aux_lemma =>
     have hq1 : (m.kind == 1) = false := by rw [e7]; rfl
     have hq7 : (m.kind == 7) = true := by rw [e7]; rfl
     have hq2 : (m.kind == 2) = false := by rw [e7]; rfl
     have hq3 : (m.kind == 3) = false := by rw [e7]; rfl
     have hq4 : (m.kind == 4) = false := by rw [e7]; rfl
     have hq5 : (m.kind == 5) = false := by rw [e7]; rfl
     have hq6 : (m.kind == 6) = false := by rw [e7]; rfl
     have hq8 : (m.kind == 8) = false := by rw [e7]; rfl
     have hq9 : (m.kind == 9) = false := by rw [e7]; rfl
     have HK : Hid (m.kind = 7) := e7
     clear e7
     have k19 := (C9.out.cell 19).trans (show cs[19]? = some (.int .i64 m.req.client) by rw [HCS.out]; rfl)
     have k20 := (C9.out.cell 20).trans (show cs[20]? = some (.int .i64 m.req.n) by rw [HCS.out]; rfl)
     have k21 := (C9.out.cell 21).trans (show cs[21]? = some (.int .i64 m.req.kind) by rw [HCS.out]; rfl)
     have k22 := (C9.out.cell 22).trans (show cs[22]? = some (.int .i64 m.req.part) by rw [HCS.out]; rfl)
     have k23 := (C9.out.cell 23).trans (show cs[23]? = some (.int .i64 m.req.seq) by rw [HCS.out]; rfl)
     have k24 := (C9.out.cell 24).trans (show cs[24]? = some (.int .i64 m.req.off) by rw [HCS.out]; rfl)
     have k25 := (C9.out.cell 25).trans (show cs[25]? = some (.int .i64 m.req.max) by rw [HCS.out]; rfl)
     have k26 := (C9.out.cell 26).trans (show cs[26]? = some (.int .i64 m.req.gen) by rw [HCS.out]; rfl)
     have k27 := (C9.out.cell 27).trans (show cs[27]? = some (.string ⟨m.req.group.toArray⟩) by rw [HCS.out]; rfl)
     have k28 := (C9.out.cell 28).trans (show cs[28]? = some (.string ⟨m.req.member.toArray⟩) by rw [HCS.out]; rfl)
     have k29 := (C9.out.cell 29).trans (show cs[29]? = some (v.qrecs) by rw [HCS.out]; rfl)
     have HRQ : Hid (Wi.reqB m.req = true) := by
      rw [Hid]
      have := HL.out
      unfold Wi.lastB at this
      simpa [HK.out] using this
     have HQ := Lib.hid (refasked_any m.req HRQ.out v.qrecs w8 MZ.out.qrecs)
     unfold wreqC at HQ
     have HT : Hid (S2 = S1 ++ ((Wi.reqNumsL m.req).map Bd.bInt ++ [Bd.bText m.req.group, Bd.bText m.req.member, Wi.encRecs m.req.recs]).flatten) := by
      rw [Hid, HS2.out, HS1.out, Wi.fieldsL, List.flatten_append, Wi.tailL, if_pos (by rw [HK.out]; simp)]
      rfl
     have hA : (((Wi.reqNumsL m.req).map Bd.bInt ++ [Bd.bText m.req.group, Bd.bText m.req.member, Wi.encRecs m.req.recs]).flatten).length ≤ 16384 := by
      have := congrArg List.length HT.out
      rw [List.length_append] at this
      omega
     generalize ((Wi.reqNumsL m.req).map Bd.bInt ++ [Bd.bText m.req.group, Bd.bText m.req.member, Wi.encRecs m.req.recs]).flatten = tA at *
     clear HS1 HS2 HL HO MZ HRQ HCS
     go_wp2_with fail
     refine HQ.out.mono ?_
     rintro e w5 ⟨rfl, hb5⟩
     have B5 := Lib.hid (bt (Below.refl _ w8) hb5)
     clear hb5
     go_wp2
     go_meet
     case rel => exact ⟨by rw [HT.out] <;> first | rfl | simp [bs_append], B5.out⟩
   by_cases e2 : m.kind = 2
   ·as_aux_lemma =>
     have hq1 : (m.kind == 1) = false := by rw [e2]; rfl
     have hq7 : (m.kind == 7) = false := by rw [e2]; rfl
     have hq2 : (m.kind == 2) = true := by rw [e2]; rfl
     have hq3 : (m.kind == 3) = false := by rw [e2]; rfl
     have hq4 : (m.kind == 4) = false := by rw [e2]; rfl
     have hq5 : (m.kind == 5) = false := by rw [e2]; rfl
     have hq6 : (m.kind == 6) = false := by rw [e2]; rfl
     have hq8 : (m.kind == 8) = false := by rw [e2]; rfl
     have hq9 : (m.kind == 9) = false := by rw [e2]; rfl
     have HK : Hid (m.kind = 2) := e2
     clear e2
     have k30 := (C9.out.cell 30).trans (show cs[30]? = some (.int .i64 m.resp.client) by rw [HCS.out]; rfl)
     have k31 := (C9.out.cell 31).trans (show cs[31]? = some (.int .i64 m.resp.n) by rw [HCS.out]; rfl)
     have k32 := (C9.out.cell 32).trans (show cs[32]? = some (.int .i64 m.resp.code) by rw [HCS.out]; rfl)
     have k33 := (C9.out.cell 33).trans (show cs[33]? = some (.int .i64 m.resp.off) by rw [HCS.out]; rfl)
     have k34 := (C9.out.cell 34).trans (show cs[34]? = some (.int .i64 m.resp.high) by rw [HCS.out]; rfl)
     have k35 := (C9.out.cell 35).trans (show cs[35]? = some (.int .i64 m.resp.gen) by rw [HCS.out]; rfl)
     have k36 := (C9.out.cell 36).trans (show cs[36]? = some (v.parts) by rw [HCS.out]; rfl)
     have k37 := (C9.out.cell 37).trans (show cs[37]? = some (v.arecs) by rw [HCS.out]; rfl)
     obtain ⟨sp, cp, hvp⟩ := MZ.out.parts.form
     obtain ⟨sq, cq, hva⟩ := MZ.out.arecs.form
     have HP0 : Hid (Ints w8 (.slice sp m.resp.parts.length cp) m.resp.parts) := by rw [Hid, ← hvp]; exact MZ.out.parts
     have HR0 : Hid (Recs w8 (.slice sq m.resp.recs.length cq) m.resp.recs) := by rw [Hid, ← hva]; exact MZ.out.arecs
     rw [hvp] at k36
     rw [hva] at k37
     clear hvp hva
     have HB : Hid (Wi.respB m.resp = true) := by
      rw [Hid]
      have := HL.out
      unfold Wi.lastB at this
      simpa [HK.out] using this
     obtain ⟨b1, b2, b3, b4, b5, b6, b7, b8, b9, b10⟩ := Wi.respB_parts HB.out
     have NS : Hid (NumsOk [m.resp.client, m.resp.n, m.resp.code, m.resp.off, m.resp.high, m.resp.gen]) := ⟨by simp, fun x hx => by
      simp only [List.mem_cons, List.not_mem_nil, or_false] at hx
      rcases hx with rfl | rfl | rfl | rfl | rfl | rfl <;> exact numOk (by omega) (by omega)⟩
     have NP : Hid (NumsOk m.resp.parts) := ⟨by omega, fun x hx => by have := b8 x hx; exact numOk (by omega) (by omega)⟩
     have NR : Hid (RecsGood m.resp.recs) := ⟨b9, fun x hx => ⟨(b10 x hx).2, (b10 x hx).1⟩⟩
     have hA := encInts_all NS.out
     have hA2 := encInts_all NP.out
     have hA3 := encRecs_all NR.out
     have CX : Hid (Cl (w8.alloc (.cells #[.int .i64 m.resp.client, .int .i64 m.resp.n, .int .i64 m.resp.code, .int .i64 m.resp.off, .int .i64 m.resp.high, .int .i64 m.resp.gen, .slice sp m.resp.parts.length cp, .slice sq m.resp.recs.length cq] 34)) w8.heap.size [.int .i64 m.resp.client, .int .i64 m.resp.n, .int .i64 m.resp.code, .int .i64 m.resp.off, .int .i64 m.resp.high, .int .i64 m.resp.gen, .slice sp m.resp.parts.length cp, .slice sq m.resp.recs.length cq] 34) := Cl.new w8 _ _
     have BX : Hid (Below w8.heap.size w8 (w8.alloc (.cells #[.int .i64 m.resp.client, .int .i64 m.resp.n, .int .i64 m.resp.code, .int .i64 m.resp.off, .int .i64 m.resp.high, .int .i64 m.resp.gen, .slice sp m.resp.parts.length cp, .slice sq m.resp.recs.length cq] 34))) := (Below.refl _ w8).alloc (Nat.le_refl _) _
     have HT : Hid (S2 = S1 ++ (Wi.encInts [m.resp.client, m.resp.n, m.resp.code, m.resp.off, m.resp.high, m.resp.gen] ++ (108 :: (Wi.encInts m.resp.parts ++ (101 :: Wi.encRecs m.resp.recs))))) := by
      rw [Hid, HS2.out, HS1.out, Wi.fieldsL, List.flatten_append, Wi.tailL]
      simp [HK.out, Wi.encInts, Wi.listB, Wi.respNumsL]
     go_upto_region 12 with (fail)
     generalize w8.alloc (.cells #[.int .i64 m.resp.client, .int .i64 m.resp.n, .int .i64 m.resp.code, .int .i64 m.resp.off, .int .i64 m.resp.high, .int .i64 m.resp.gen, .slice sp m.resp.parts.length cp, .slice sq m.resp.recs.length cq] 34) = wx at *
     generalize w8.heap.size = px at CX ⊢
     have J1 := Lib.hid (fun W v (hv : Ints W v [m.resp.client, m.resp.n, m.resp.code, m.resp.off, m.resp.high, m.resp.gen]) => refints14_any [m.resp.client, m.resp.n, m.resp.code, m.resp.off, m.resp.high, m.resp.gen] NS.out v W hv)
     have J2 := Lib.hid (fun W (hW : Below wx.heap.size wx W) => refints14_any m.resp.parts NP.out _ W (HP0.out.kept (bt BX.out hW)))
     have J3 := Lib.hid (fun W (hW : Below wx.heap.size wx W) => refrecs14_any m.resp.recs NR.out _ W (HR0.out.kept (bt BX.out hW)))
     have HBI : Hid (∀ W : World, W.heap.size = wx.heap.size → Ints (W.alloc (.cells #[.int .i64 m.resp.client, .int .i64 m.resp.n, .int .i64 m.resp.code, .int .i64 m.resp.off, .int .i64 m.resp.high, .int .i64 m.resp.gen] 3)) (.slice (some ⟨wx.heap.size, 0, none⟩) 6 6) [m.resp.client, m.resp.n, m.resp.code, m.resp.off, m.resp.high, m.resp.gen]) := fun W hW => by
      have := intsN_cl (l := [m.resp.client, m.resp.n, m.resp.code, m.resp.off, m.resp.high, m.resp.gen]) (Cl.new W [.int .i64 m.resp.client, .int .i64 m.resp.n, .int .i64 m.resp.code, .int .i64 m.resp.off, .int .i64 m.resp.high, .int .i64 m.resp.gen] 3)
      rwa [hW] at this
     generalize Wi.encInts [m.resp.client, m.resp.n, m.resp.code, m.resp.off, m.resp.high, m.resp.gen] = tA at *
     generalize Wi.encInts m.resp.parts = tB at *
     generalize Wi.encRecs m.resp.recs = tC at *
     have hm0 : Hid (∀ W, Below wx.heap.size wx W → W.cell? ⟨px, 0, none⟩ = some (.int .i64 m.resp.client) ∧ W.cell? ⟨px, 1, none⟩ = some (.int .i64 m.resp.n) ∧ W.cell? ⟨px, 2, none⟩ = some (.int .i64 m.resp.code) ∧ W.cell? ⟨px, 3, none⟩ = some (.int .i64 m.resp.off) ∧ W.cell? ⟨px, 4, none⟩ = some (.int .i64 m.resp.high) ∧ W.cell? ⟨px, 5, none⟩ = some (.int .i64 m.resp.gen) ∧ W.cell? ⟨px, 6, none⟩ = some (.slice sp m.resp.parts.length cp) ∧ W.cell? ⟨px, 7, none⟩ = some (.slice sq m.resp.recs.length cq)) := fun W hW => ⟨(CX.out.below hW).cell 0, (CX.out.below hW).cell 1, (CX.out.below hW).cell 2, (CX.out.below hW).cell 3, (CX.out.below hW).cell 4, (CX.out.below hW).cell 5, (CX.out.below hW).cell 6, (CX.out.below hW).cell 7⟩
     have BW : Hid (∀ W, Below wx.heap.size wx W → Below w8.heap.size w8 W) := fun W hW => bt BX.out hW
     have q0 := fun y : BelowOf wx => y.cell (show wx.cell? ⟨px, 0, none⟩ = some (.int .i64 m.resp.client) from CX.out.cell 0)
     have q1 := fun y : BelowOf wx => y.cell (show wx.cell? ⟨px, 1, none⟩ = some (.int .i64 m.resp.n) from CX.out.cell 1)
     have q2 := fun y : BelowOf wx => y.cell (show wx.cell? ⟨px, 2, none⟩ = some (.int .i64 m.resp.code) from CX.out.cell 2)
     have q3 := fun y : BelowOf wx => y.cell (show wx.cell? ⟨px, 3, none⟩ = some (.int .i64 m.resp.off) from CX.out.cell 3)
     have q4 := fun y : BelowOf wx => y.cell (show wx.cell? ⟨px, 4, none⟩ = some (.int .i64 m.resp.high) from CX.out.cell 4)
     have q5 := fun y : BelowOf wx => y.cell (show wx.cell? ⟨px, 5, none⟩ = some (.int .i64 m.resp.gen) from CX.out.cell 5)
     have q6 := fun y : BelowOf wx => y.cell (show wx.cell? ⟨px, 6, none⟩ = some (.slice sp m.resp.parts.length cp) from CX.out.cell 6)
     have q7 := fun y : BelowOf wx => y.cell (show wx.cell? ⟨px, 7, none⟩ = some (.slice sq m.resp.recs.length cq) from CX.out.cell 7)
     clear HS1 HS2 HL HO MZ HCS HNO HB NS NP NR b1 b2 b3 b4 b5 b6 b7 b8 b9 b10 BX HBI C9 hm0 k0 k30 k31 k32 k33 k34 k35 k36 k37 HK HP0 HR0
     refine wp_region_held (S := fun W => ∃ b : BelowOf wx, W = b.1) (by kernel_rfl) ?_
     change wpAnyH _ _ _ _ _ _ _ _ (World.drew wx)
     have T0 : Hid (Below wx.heap.size wx (World.drew wx)) := (Below.refl _ _).drew
     generalize hv0 : World.drew wx = v0 at T0 ⊢
     clear hv0
     refine take_quiet (i := 0) rfl rfl rfl (by kernel_rfl) (by kernel_rfl) (by kernel_rfl) (fun _ _ _ _ h => h) ⟨⟨_, T0.out⟩, rfl⟩ ?_
     go_big_quiet_op
     refine take_quiet (i := 1) rfl rfl rfl (by kernel_rfl) (by kernel_rfl) (by kernel_rfl) (fun _ _ _ _ h => h) ⟨⟨_, T0.out⟩, rfl⟩ ?_
     go_big_quiet_op
     refine take_quiet (i := 2) rfl rfl rfl (by kernel_rfl) (by kernel_rfl) (by kernel_rfl) (fun _ _ _ _ h => h) ⟨⟨_, T0.out⟩, rfl⟩ ?_
     go_big_quiet_op
     refine take_quiet (i := 3) rfl rfl rfl (by kernel_rfl) (by kernel_rfl) (by kernel_rfl) (fun _ _ _ _ h => h) ⟨⟨_, T0.out⟩, rfl⟩ ?_
     go_big_quiet_op
     refine take_quiet (i := 4) rfl rfl rfl (by kernel_rfl) (by kernel_rfl) (by kernel_rfl) (fun _ _ _ _ h => h) ⟨⟨_, T0.out⟩, rfl⟩ ?_
     go_big_quiet_op
     refine take_quiet (i := 5) rfl rfl rfl (by kernel_rfl) (by kernel_rfl) (by kernel_rfl) (fun _ _ _ _ h => h) ⟨⟨_, T0.out⟩, rfl⟩ ?_
     go_big_quiet_op
     refine take_quiet (i := 6) rfl rfl rfl (by kernel_rfl) (by kernel_rfl) (by kernel_rfl) (fun _ _ _ _ h => h) ⟨⟨_, T0.out⟩, rfl⟩ ?_
     go_big_quiet_op
     refine take_quiet (i := 7) rfl rfl rfl (by kernel_rfl) (by kernel_rfl) (by kernel_rfl) (fun _ _ _ _ h => h) ⟨⟨_, T0.out⟩, rfl⟩ ?_
     go_big_quiet_op
     refine take_quiet (i := 8) rfl rfl rfl (by kernel_rfl) (by kernel_rfl) (by kernel_rfl) (fun _ _ _ _ h => h) ⟨⟨_, T0.out⟩, rfl⟩ ?_
     go_big_quiet_op
     refine take_quiet (i := 9) rfl rfl rfl (by kernel_rfl) (by kernel_rfl) (by kernel_rfl) (fun _ _ _ _ h => h) ⟨⟨_, T0.out⟩, rfl⟩ ?_
     go_big_quiet_op
     refine take_quiet (i := 10) rfl rfl rfl (by kernel_rfl) (by kernel_rfl) (by kernel_rfl) (fun _ _ _ _ h => h) ⟨⟨_, T0.out⟩, rfl⟩ ?_
     go_big_quiet_op
     refine take_quiet (i := 11) rfl rfl rfl (by kernel_rfl) (by kernel_rfl) (by kernel_rfl) (fun _ _ _ _ h => h) ⟨⟨_, T0.out⟩, rfl⟩ ?_
     go_big_quiet_op
     refine take_quiet (i := 12) rfl rfl rfl (by kernel_rfl) (by kernel_rfl) (by kernel_rfl) (fun _ _ _ _ h => h) ⟨⟨_, T0.out⟩, rfl⟩ ?_
     go_big_quiet_op
     refine take_quiet (i := 17) rfl rfl rfl (by kernel_rfl) (by kernel_rfl) (by kernel_rfl) (fun _ _ _ _ h => h) ⟨⟨_, T0.out⟩, rfl⟩ ?_
     go_big_quiet_op
     refine take_quiet (i := 18) rfl rfl rfl (by kernel_rfl) (by kernel_rfl) (by kernel_rfl) (fun _ _ _ _ h => h) ⟨⟨_, T0.out⟩, rfl⟩ ?_
     go_big_quiet_op
     refine take_quiet (i := 22) rfl rfl rfl (by kernel_rfl) (by kernel_rfl) (by kernel_rfl) (fun _ _ _ _ h => h) ⟨⟨_, T0.out⟩, rfl⟩ ?_
     go_big_quiet_op
     refine take_quiet (i := 23) rfl rfl rfl (by kernel_rfl) (by kernel_rfl) (by kernel_rfl) (fun _ _ _ _ h => h) ⟨⟨_, T0.out⟩, rfl⟩ ?_
     go_big_quiet_op
     refine wpAnyH_ready (rs := [13]) (by kernel_rfl) (by simp) ?_
     refine ready_cons rfl (fun K hK => ?_) ?_
     ·refine branch_value (w' := (v0.alloc (.cells #[.int .i64 m.resp.client, .int .i64 m.resp.n, .int .i64 m.resp.code, .int .i64 m.resp.off, .int .i64 m.resp.high, .int .i64 m.resp.gen] 3))) (v := .slice (some ⟨v0.heap.size, 0, none⟩) 6 6) rfl (exec_bs6 _ _ _ 50 52 54 56 58 60 _ _ _ _ _ _ rfl rfl rfl rfl rfl rfl rfl) ?_
      have T1 := Lib.hid (T0.out.alloc T0.out.size (.cells #[.int .i64 m.resp.client, .int .i64 m.resp.n, .int .i64 m.resp.code, .int .i64 m.resp.off, .int .i64 m.resp.high, .int .i64 m.resp.gen] 3))
      have I1a : Hid (Ints (v0.alloc (.cells #[.int .i64 m.resp.client, .int .i64 m.resp.n, .int .i64 m.resp.code, .int .i64 m.resp.off, .int .i64 m.resp.high, .int .i64 m.resp.gen] 3)) (.slice (some ⟨v0.heap.size, 0, none⟩) 6 6) [m.resp.client, m.resp.n, m.resp.code, m.resp.off, m.resp.high, m.resp.gen]) := intsN_cl (l := [m.resp.client, m.resp.n, m.resp.code, m.resp.off, m.resp.high, m.resp.gen]) (Cl.new v0 [.int .i64 m.resp.client, .int .i64 m.resp.n, .int .i64 m.resp.code, .int .i64 m.resp.off, .int .i64 m.resp.high, .int .i64 m.resp.gen] 3)
      refine hK.out _ _ ⟨⟨_, T1.out⟩, rfl⟩ (fun _ => ?_)
      clear hK K
      generalize v0.heap.size = g1 at *
      generalize (v0.alloc (.cells #[.int .i64 m.resp.client, .int .i64 m.resp.n, .int .i64 m.resp.code, .int .i64 m.resp.off, .int .i64 m.resp.high, .int .i64 m.resp.gen] 3)) = v1 at *
      simp only [Act.put, List.setIfInBounds_toArray, List.set_cons_zero, List.set_cons_succ]
      refine wpAnyH_ready (rs := [14]) (by kernel_rfl) (by simp) ?_
      refine ready_cons rfl (fun K hK => ?_) ?_
      ·refine branch_call (f := 24) (args := #[.slice (some ⟨g1, 0, none⟩) 6 6]) rfl (exec_call1 _ _ _ _ 61 _ _ rfl rfl rfl (enters_of Tryz.func24 (by kernel_rfl) rfl _ _)) ?_
       refine (J1.out _ _ I1a.out).mono ?_
       rintro e v2 ⟨rfl, hd⟩
       have T2 := Lib.hid (bt T1.out (Drw.bel hd))
       have I2a := Lib.hid (I1a.out.kept (Drw.bel hd))
       refine ⟨_, rfl, hK.out _ _ ⟨⟨_, T2.out⟩, rfl⟩ (fun _ => ?_)⟩
       clear hK K hd
       simp only [Act.put, List.setIfInBounds_toArray, List.set_cons_zero, List.set_cons_succ]
       refine take_quiet (i := 15) rfl rfl rfl (by kernel_rfl) (by kernel_rfl) (by kernel_rfl) (fun _ _ _ _ h => h) ⟨⟨_, T2.out⟩, rfl⟩ ?_
       go_big_quiet_op
       refine take_quiet (i := 16) rfl rfl rfl (by kernel_rfl) (by kernel_rfl) (by kernel_rfl) (fun _ _ _ _ h => h) ⟨⟨_, T2.out⟩, rfl⟩ ?_
       go_big_quiet_op
       refine wpAnyH_ready (rs := [19]) (by kernel_rfl) (by simp) ?_
       refine ready_cons rfl (fun K hK => ?_) ?_
       ·refine branch_call (f := 24) (args := #[.slice sp m.resp.parts.length cp]) rfl (exec_call1 _ _ _ _ 66 _ _ rfl rfl rfl (enters_of Tryz.func24 (by kernel_rfl) rfl _ _)) ?_
        refine (J2.out _ T2.out).mono ?_
        rintro e v3 ⟨rfl, hd⟩
        have T3 := Lib.hid (bt T2.out (Drw.bel hd))
        have I3a := Lib.hid (I2a.out.kept (Drw.bel hd))
        refine ⟨_, rfl, hK.out _ _ ⟨⟨_, T3.out⟩, rfl⟩ (fun _ => ?_)⟩
        clear hK K hd
        simp only [Act.put, List.setIfInBounds_toArray, List.set_cons_zero, List.set_cons_succ]
        refine take_quiet (i := 20) rfl rfl rfl (by kernel_rfl) (by kernel_rfl) (by kernel_rfl) (fun _ _ _ _ h => h) ⟨⟨_, T3.out⟩, rfl⟩ ?_
        go_big_quiet_op
        refine take_quiet (i := 21) rfl rfl rfl (by kernel_rfl) (by kernel_rfl) (by kernel_rfl) (fun _ _ _ _ h => h) ⟨⟨_, T3.out⟩, rfl⟩ ?_
        go_big_quiet_op
        refine wpAnyH_ready (rs := [24]) (by kernel_rfl) (by simp) ?_
        refine ready_cons rfl (fun K hK => ?_) ?_
        ·refine branch_call (f := 26) (args := #[.slice sq m.resp.recs.length cq]) rfl (exec_call1 _ _ _ _ 71 _ _ rfl rfl rfl (enters_of Tryz.func26 (by kernel_rfl) rfl _ _)) ?_
         refine (J3.out _ T3.out).mono ?_
         rintro e v4 ⟨rfl, hd⟩
         have T4 := Lib.hid (bt T3.out (Drw.bel hd))
         have I4a := Lib.hid (I3a.out.kept (Drw.bel hd))
         refine ⟨_, rfl, hK.out _ _ ⟨⟨_, T4.out⟩, rfl⟩ (fun _ => ?_)⟩
         clear hK K hd
         simp only [Act.put, List.setIfInBounds_toArray, List.set_cons_zero, List.set_cons_succ]
         refine take_quiet (i := 25) rfl rfl rfl (by kernel_rfl) (by kernel_rfl) (by kernel_rfl) (fun _ _ _ _ h => h) ⟨⟨_, T4.out⟩, rfl⟩ ?_
         go_big_quiet_op
         refine take_quiet (i := 26) rfl rfl rfl (by kernel_rfl) (by kernel_rfl) (by kernel_rfl) (fun _ _ _ _ h => h) ⟨⟨_, T4.out⟩, rfl⟩ ?_
         go_big_quiet_op
         refine wpAnyH_done (by kernel_rfl) ?_ _
         go_wp2
         go_meet
         case rel => exact ⟨by rw [HT.out] <;> first | rfl | simp [bs_append], BW.out _ T4.out⟩
        exact AllReadyH.nil
       exact AllReadyH.nil
      exact AllReadyH.nil
     exact AllReadyH.nil
   by_cases e3 : m.kind = 3
   ·as_aux_lemma =>
     have hq1 : (m.kind == 1) = false := by rw [e3]; rfl
     have hq7 : (m.kind == 7) = false := by rw [e3]; rfl
     have hq2 : (m.kind == 2) = false := by rw [e3]; rfl
     have hq3 : (m.kind == 3) = true := by rw [e3]; rfl
     have hq4 : (m.kind == 4) = false := by rw [e3]; rfl
     have hq5 : (m.kind == 5) = false := by rw [e3]; rfl
     have hq6 : (m.kind == 6) = false := by rw [e3]; rfl
     have hq8 : (m.kind == 8) = false := by rw [e3]; rfl
     have hq9 : (m.kind == 9) = false := by rw [e3]; rfl
     have HK : Hid (m.kind = 3) := e3
     clear e3
     have k7 := (C9.out.cell 7).trans (show cs[7]? = some (.int .i64 m.life) by rw [HCS.out]; rfl)
     have NK : Hid (NumsOk [m.life]) := ⟨by simp, fun x hx => HNO.out x (by simp only [List.mem_cons, List.not_mem_nil, or_false] at hx ⊢; omega)⟩
     have HQ := Lib.hid (fun (W : World) => refints14_any [m.life] NK.out (.slice (some ⟨W.heap.size, 0, none⟩) 1 1) _ (intsN_cl (l := [m.life]) (Cl.new W [.int .i64 m.life] 3)))
     have hA := encInts_all NK.out
     have BA := Lib.hid (((Below.refl _ w8).alloc (Nat.le_refl _) (.cells #[.int .i64 m.life] 3)))
     have HT : Hid (S2 = S1 ++ Wi.encInts [m.life]) := by
      rw [Hid, HS2.out, HS1.out, Wi.fieldsL, List.flatten_append, Wi.tailL]
      simp [HK.out, Wi.encInts]
     generalize Wi.encInts [m.life] = tA at *
     clear HS1 HS2 HL HO MZ HCS HNO NK
     go_wp2_with fail
     refine (HQ.out w8).mono ?_
     rintro e w5 ⟨rfl, hb5⟩
     have B5 := Lib.hid (bt (Below.refl _ w8) (bt BA.out (Drw.bel hb5)))
     clear hb5
     go_wp2
     go_meet
     case rel => exact ⟨by rw [HT.out] <;> first | rfl | simp [bs_append], B5.out⟩
   by_cases e4 : m.kind = 4
   ·as_aux_lemma =>
     have hq1 : (m.kind == 1) = false := by rw [e4]; rfl
     have hq7 : (m.kind == 7) = false := by rw [e4]; rfl
     have hq2 : (m.kind == 2) = false := by rw [e4]; rfl
     have hq3 : (m.kind == 3) = false := by rw [e4]; rfl
     have hq4 : (m.kind == 4) = true := by rw [e4]; rfl
     have hq5 : (m.kind == 5) = false := by rw [e4]; rfl
     have hq6 : (m.kind == 6) = false := by rw [e4]; rfl
     have hq8 : (m.kind == 8) = false := by rw [e4]; rfl
     have hq9 : (m.kind == 9) = false := by rw [e4]; rfl
     have HK : Hid (m.kind = 4) := e4
     clear e4
     have k8 := (C9.out.cell 8).trans (show cs[8]? = some (.int .i64 m.pep) by rw [HCS.out]; rfl)
     have k9 := (C9.out.cell 9).trans (show cs[9]? = some (v.chain) by rw [HCS.out]; rfl)
     have k10 := (C9.out.cell 10).trans (show cs[10]? = some (.int .i64 m.learner) by rw [HCS.out]; rfl)
     have k11 := (C9.out.cell 11).trans (show cs[11]? = some (v.lives) by rw [HCS.out]; rfl)
     obtain ⟨sp, cp, hvp⟩ := MZ.out.chain.form
     obtain ⟨sq, cq, hva⟩ := MZ.out.lives.form
     have HP0 : Hid (Ints w8 (.slice sp m.chain.length cp) m.chain) := by rw [Hid, ← hvp]; exact MZ.out.chain
     have HR0 : Hid (Rw 2 lifeC w8 (.slice sq m.lives.length cq) m.lives) := by rw [Hid, ← hva]; exact MZ.out.lives
     rw [hvp] at k9
     rw [hva] at k11
     clear hvp hva
     have HB : Hid (Wi.placeB m = true) := by
      rw [Hid]
      have := HL.out
      unfold Wi.lastB at this
      simpa [HK.out] using this
     obtain ⟨b1, b2, b3, b4, b5, b6⟩ := Wi.placeB_parts HB.out
     have NA : Hid (NumsOk [m.pep]) := ⟨by simp, fun x hx => by simp only [List.mem_cons, List.not_mem_nil, or_false] at hx; subst hx; exact numOk (by omega) (by omega)⟩
     have NB : Hid (NumsOk [m.learner]) := ⟨by simp, fun x hx => by simp only [List.mem_cons, List.not_mem_nil, or_false] at hx; subst hx; exact numOk (by omega) (by omega)⟩
     have NC : Hid (NumsOk m.chain) := ⟨by omega, fun x hx => by have := b4 x hx; exact numOk (by omega) (by omega)⟩
     have NX : Hid (∀ x ∈ m.lives, NumsOk [x.1, x.2]) := fun x hx => ⟨by simp, fun y hy => by
      have := b6 x hx
      simp only [List.mem_cons, List.not_mem_nil, or_false] at hy
      rcases hy with rfl | rfl <;> exact numOk (by omega) (by omega)⟩
     have NL : Hid (∀ j, (Wi.encInts (Wi.flatLives (m.lives.take j))).length ≤ 320) := fun j => encInts_all (flat_ok (by rw [List.length_take]; omega) (fun x hx => b6 x (List.mem_of_mem_take hx)))
     have hA := encInts_all NA.out
     have hA2 := encInts_all NC.out
     have hA3 := encInts_all NB.out
     have hll : m.lives.length ≤ 5 := b5
     have HT : Hid (S2 = S1 ++ (Wi.encInts [m.pep] ++ (108 :: (Wi.encInts m.chain ++ (101 :: (Wi.encInts [m.learner] ++ (108 :: (Wi.encInts (Wi.flatLives m.lives) ++ [101])))))))) := by
      rw [Hid, HS2.out, HS1.out, Wi.fieldsL, List.flatten_append, Wi.tailL]
      simp [HK.out, Wi.encInts, Wi.listB]
     have J1 := Lib.hid (fun W v (hv : Ints W v [m.pep]) => refints14_any [m.pep] NA.out v W hv)
     have J2 := Lib.hid (fun W (hW : Below w8.heap.size w8 W) => refints14_any m.chain NC.out _ W (HP0.out.kept hW))
     have J3 := Lib.hid (fun W v (hv : Ints W v [m.learner]) => refints14_any [m.learner] NB.out v W hv)
     generalize Wi.encInts [m.pep] = tA at *
     generalize Wi.encInts m.chain = tB at *
     generalize Wi.encInts [m.learner] = tC at *
     have q8 := fun y : BelowOf w8 => y.cell k8
     have q9 := fun y : BelowOf w8 => y.cell k9
     have q10 := fun y : BelowOf w8 => y.cell k10
     have FL : Hid (∀ W, Below w8.heap.size w8 W → W.cell? ⟨pa, 11, none⟩ = some (.slice sq m.lives.length cq)) := fun W hW => (hW.cell (p := ⟨pa, 11, none⟩) C9.out.lt).trans k11
     clear HS1 HS2 HL HO MZ HCS HNO HB NA NB NC b1 b2 b3 b4 b5 b6 HK HP0 k0
     go_upto_region 16 with (fail)
     go_cut [4] (fun t wz => t = .string ⟨(S1 ++ (tA ++ (108 :: (tB ++ (101 :: (tC ++ [108])))))).toArray⟩ ∧ Below w8.heap.size w8 wz)
     case first =>
      clear FL HR0 NX NL HT C9 k11
      refine wp_region_held (S := fun W => ∃ b : BelowOf w8, W = b.1) (by kernel_rfl) ?_
      change wpAnyH _ _ _ _ _ _ _ _ (World.drew w8)
      have T0 : Hid (Below w8.heap.size w8 (World.drew w8)) := (Below.refl _ _).drew
      generalize hv0 : World.drew w8 = v0 at T0 ⊢
      clear hv0
      refine take_quiet (i := 0) rfl rfl rfl (by kernel_rfl) (by kernel_rfl) (by kernel_rfl) (fun _ _ _ _ h => h) ⟨⟨_, T0.out⟩, rfl⟩ ?_
      go_big_quiet_op
      refine take_quiet (i := 1) rfl rfl rfl (by kernel_rfl) (by kernel_rfl) (by kernel_rfl) (fun _ _ _ _ h => h) ⟨⟨_, T0.out⟩, rfl⟩ ?_
      go_big_quiet_op
      refine take_quiet (i := 2) rfl rfl rfl (by kernel_rfl) (by kernel_rfl) (by kernel_rfl) (fun _ _ _ _ h => h) ⟨⟨_, T0.out⟩, rfl⟩ ?_
      go_big_quiet_op
      refine take_quiet (i := 3) rfl rfl rfl (by kernel_rfl) (by kernel_rfl) (by kernel_rfl) (fun _ _ _ _ h => h) ⟨⟨_, T0.out⟩, rfl⟩ ?_
      go_big_quiet_op
      refine take_quiet (i := 8) rfl rfl rfl (by kernel_rfl) (by kernel_rfl) (by kernel_rfl) (fun _ _ _ _ h => h) ⟨⟨_, T0.out⟩, rfl⟩ ?_
      go_big_quiet_op
      refine take_quiet (i := 9) rfl rfl rfl (by kernel_rfl) (by kernel_rfl) (by kernel_rfl) (fun _ _ _ _ h => h) ⟨⟨_, T0.out⟩, rfl⟩ ?_
      go_big_quiet_op
      refine take_quiet (i := 10) rfl rfl rfl (by kernel_rfl) (by kernel_rfl) (by kernel_rfl) (fun _ _ _ _ h => h) ⟨⟨_, T0.out⟩, rfl⟩ ?_
      go_big_quiet_op
      refine take_quiet (i := 14) rfl rfl rfl (by kernel_rfl) (by kernel_rfl) (by kernel_rfl) (fun _ _ _ _ h => h) ⟨⟨_, T0.out⟩, rfl⟩ ?_
      go_big_quiet_op
      refine take_quiet (i := 15) rfl rfl rfl (by kernel_rfl) (by kernel_rfl) (by kernel_rfl) (fun _ _ _ _ h => h) ⟨⟨_, T0.out⟩, rfl⟩ ?_
      go_big_quiet_op
      refine take_quiet (i := 16) rfl rfl rfl (by kernel_rfl) (by kernel_rfl) (by kernel_rfl) (fun _ _ _ _ h => h) ⟨⟨_, T0.out⟩, rfl⟩ ?_
      go_big_quiet_op
      refine wpAnyH_ready (rs := [4, 17]) (by kernel_rfl) (by simp) ?_
      refine ready_cons rfl (fun K hK => ?_) ?_
      ·refine branch_value (w' := (v0.alloc (.cells #[.int .i64 m.pep] 3))) (v := .slice (some ⟨v0.heap.size, 0, none⟩) 1 1) rfl (exec_bs1 _ _ _ 87 _ rfl rfl) ?_
       have T1 := Lib.hid (T0.out.alloc T0.out.size (.cells #[.int .i64 m.pep] 3))
       have I1a : Hid (Ints (v0.alloc (.cells #[.int .i64 m.pep] 3)) (.slice (some ⟨v0.heap.size, 0, none⟩) 1 1) [m.pep]) := intsN_cl (l := [m.pep]) (Cl.new v0 [.int .i64 m.pep] 3)
       refine hK.out _ _ ⟨⟨_, T1.out⟩, rfl⟩ (fun _ => ?_)
       clear hK K
       generalize v0.heap.size = g1 at *
       generalize (v0.alloc (.cells #[.int .i64 m.pep] 3)) = v1 at *
       simp only [Act.put, List.setIfInBounds_toArray, List.set_cons_zero, List.set_cons_succ]
       refine wpAnyH_ready (rs := [5, 17]) (by kernel_rfl) (by simp) ?_
       refine ready_cons rfl (fun K hK => ?_) ?_
       ·refine branch_call (f := 24) (args := #[.slice (some ⟨g1, 0, none⟩) 1 1]) rfl (exec_call1 _ _ _ _ 88 _ _ rfl rfl rfl (enters_of Tryz.func24 (by kernel_rfl) rfl _ _)) ?_
        refine (J1.out _ _ I1a.out).mono ?_
        rintro e v2 ⟨rfl, hd⟩
        have T2 := Lib.hid (bt T1.out (Drw.bel hd))
        have I2a := Lib.hid (I1a.out.kept (Drw.bel hd))
        refine ⟨_, rfl, hK.out _ _ ⟨⟨_, T2.out⟩, rfl⟩ (fun _ => ?_)⟩
        clear hK K hd
        simp only [Act.put, List.setIfInBounds_toArray, List.set_cons_zero, List.set_cons_succ]
        refine take_quiet (i := 6) rfl rfl rfl (by kernel_rfl) (by kernel_rfl) (by kernel_rfl) (fun _ _ _ _ h => h) ⟨⟨_, T2.out⟩, rfl⟩ ?_
        go_big_quiet_op
        refine take_quiet (i := 7) rfl rfl rfl (by kernel_rfl) (by kernel_rfl) (by kernel_rfl) (fun _ _ _ _ h => h) ⟨⟨_, T2.out⟩, rfl⟩ ?_
        go_big_quiet_op
        refine wpAnyH_ready (rs := [11, 17]) (by kernel_rfl) (by simp) ?_
        refine ready_cons rfl (fun K hK => ?_) ?_
        ·refine branch_call (f := 24) (args := #[.slice sp m.chain.length cp]) rfl (exec_call1 _ _ _ _ 94 _ _ rfl rfl rfl (enters_of Tryz.func24 (by kernel_rfl) rfl _ _)) ?_
         refine (J2.out _ T2.out).mono ?_
         rintro e v3 ⟨rfl, hd⟩
         have T3 := Lib.hid (bt T2.out (Drw.bel hd))
         have I3a := Lib.hid (I2a.out.kept (Drw.bel hd))
         refine ⟨_, rfl, hK.out _ _ ⟨⟨_, T3.out⟩, rfl⟩ (fun _ => ?_)⟩
         clear hK K hd
         simp only [Act.put, List.setIfInBounds_toArray, List.set_cons_zero, List.set_cons_succ]
         refine take_quiet (i := 12) rfl rfl rfl (by kernel_rfl) (by kernel_rfl) (by kernel_rfl) (fun _ _ _ _ h => h) ⟨⟨_, T3.out⟩, rfl⟩ ?_
         go_big_quiet_op
         refine take_quiet (i := 13) rfl rfl rfl (by kernel_rfl) (by kernel_rfl) (by kernel_rfl) (fun _ _ _ _ h => h) ⟨⟨_, T3.out⟩, rfl⟩ ?_
         go_big_quiet_op
         refine wpAnyH_ready (rs := [17]) (by kernel_rfl) (by simp) ?_
         refine ready_cons rfl (fun K hK => ?_) ?_
         ·refine branch_value (w' := (v3.alloc (.cells #[.int .i64 m.learner] 3))) (v := .slice (some ⟨v3.heap.size, 0, none⟩) 1 1) rfl (exec_bs1 _ _ _ 100 _ rfl rfl) ?_
          have T4 := Lib.hid (T3.out.alloc T3.out.size (.cells #[.int .i64 m.learner] 3))
          have I4a := Lib.hid (I3a.out.kept ((Below.refl _ v3).alloc (Nat.le_refl _) (.cells #[.int .i64 m.learner] 3)))
          have I4b : Hid (Ints (v3.alloc (.cells #[.int .i64 m.learner] 3)) (.slice (some ⟨v3.heap.size, 0, none⟩) 1 1) [m.learner]) := intsN_cl (l := [m.learner]) (Cl.new v3 [.int .i64 m.learner] 3)
          refine hK.out _ _ ⟨⟨_, T4.out⟩, rfl⟩ (fun _ => ?_)
          clear hK K
          generalize v3.heap.size = g4 at *
          generalize (v3.alloc (.cells #[.int .i64 m.learner] 3)) = v4 at *
          simp only [Act.put, List.setIfInBounds_toArray, List.set_cons_zero, List.set_cons_succ]
          refine wpAnyH_ready (rs := [18]) (by kernel_rfl) (by simp) ?_
          refine ready_cons rfl (fun K hK => ?_) ?_
          ·refine branch_call (f := 24) (args := #[.slice (some ⟨g4, 0, none⟩) 1 1]) rfl (exec_call1 _ _ _ _ 101 _ _ rfl rfl rfl (enters_of Tryz.func24 (by kernel_rfl) rfl _ _)) ?_
           refine (J3.out _ _ I4b.out).mono ?_
           rintro e v5 ⟨rfl, hd⟩
           have T5 := Lib.hid (bt T4.out (Drw.bel hd))
           have I5a := Lib.hid (I4a.out.kept (Drw.bel hd))
           have I5b := Lib.hid (I4b.out.kept (Drw.bel hd))
           refine ⟨_, rfl, hK.out _ _ ⟨⟨_, T5.out⟩, rfl⟩ (fun _ => ?_)⟩
           clear hK K hd
           simp only [Act.put, List.setIfInBounds_toArray, List.set_cons_zero, List.set_cons_succ]
           refine take_quiet (i := 19) rfl rfl rfl (by kernel_rfl) (by kernel_rfl) (by kernel_rfl) (fun _ _ _ _ h => h) ⟨⟨_, T5.out⟩, rfl⟩ ?_
           go_big_quiet_op
           refine take_quiet (i := 20) rfl rfl rfl (by kernel_rfl) (by kernel_rfl) (by kernel_rfl) (fun _ _ _ _ h => h) ⟨⟨_, T5.out⟩, rfl⟩ ?_
           go_big_quiet_op
           refine take_quiet (i := 21) rfl rfl rfl (by kernel_rfl) (by kernel_rfl) (by kernel_rfl) (fun _ _ _ _ h => h) ⟨⟨_, T5.out⟩, rfl⟩ ?_
           go_big_quiet_op
           refine wpAnyH_done (by kernel_rfl) ?_ _
           go_wp2
           go_meet
           case rel => exact ⟨by first | rfl | simp [bs_append], T5.out⟩
          exact AllReadyH.nil
         exact AllReadyH.nil
        refine ready_cons rfl (fun K hK => ?_) ?_
        ·refine branch_value (w' := (v2.alloc (.cells #[.int .i64 m.learner] 3))) (v := .slice (some ⟨v2.heap.size, 0, none⟩) 1 1) rfl (exec_bs1 _ _ _ 100 _ rfl rfl) ?_
         have T6 := Lib.hid (T2.out.alloc T2.out.size (.cells #[.int .i64 m.learner] 3))
         have I6a := Lib.hid (I2a.out.kept ((Below.refl _ v2).alloc (Nat.le_refl _) (.cells #[.int .i64 m.learner] 3)))
         have I6b : Hid (Ints (v2.alloc (.cells #[.int .i64 m.learner] 3)) (.slice (some ⟨v2.heap.size, 0, none⟩) 1 1) [m.learner]) := intsN_cl (l := [m.learner]) (Cl.new v2 [.int .i64 m.learner] 3)
         refine hK.out _ _ ⟨⟨_, T6.out⟩, rfl⟩ (fun _ => ?_)
         clear hK K
         generalize v2.heap.size = g6 at *
         generalize (v2.alloc (.cells #[.int .i64 m.learner] 3)) = v6 at *
         simp only [Act.put, List.setIfInBounds_toArray, List.set_cons_zero, List.set_cons_succ]
         refine wpAnyH_ready (rs := [11]) (by kernel_rfl) (by simp) ?_
         refine ready_cons rfl (fun K hK => ?_) ?_
         ·refine branch_call (f := 24) (args := #[.slice sp m.chain.length cp]) rfl (exec_call1 _ _ _ _ 94 _ _ rfl rfl rfl (enters_of Tryz.func24 (by kernel_rfl) rfl _ _)) ?_
          refine (J2.out _ T6.out).mono ?_
          rintro e v7 ⟨rfl, hd⟩
          have T7 := Lib.hid (bt T6.out (Drw.bel hd))
          have I7a := Lib.hid (I6a.out.kept (Drw.bel hd))
          have I7b := Lib.hid (I6b.out.kept (Drw.bel hd))
          refine ⟨_, rfl, hK.out _ _ ⟨⟨_, T7.out⟩, rfl⟩ (fun _ => ?_)⟩
          clear hK K hd
          simp only [Act.put, List.setIfInBounds_toArray, List.set_cons_zero, List.set_cons_succ]
          refine take_quiet (i := 12) rfl rfl rfl (by kernel_rfl) (by kernel_rfl) (by kernel_rfl) (fun _ _ _ _ h => h) ⟨⟨_, T7.out⟩, rfl⟩ ?_
          go_big_quiet_op
          refine take_quiet (i := 13) rfl rfl rfl (by kernel_rfl) (by kernel_rfl) (by kernel_rfl) (fun _ _ _ _ h => h) ⟨⟨_, T7.out⟩, rfl⟩ ?_
          go_big_quiet_op
          refine wpAnyH_ready (rs := [18]) (by kernel_rfl) (by simp) ?_
          refine ready_cons rfl (fun K hK => ?_) ?_
          ·refine branch_call (f := 24) (args := #[.slice (some ⟨g6, 0, none⟩) 1 1]) rfl (exec_call1 _ _ _ _ 101 _ _ rfl rfl rfl (enters_of Tryz.func24 (by kernel_rfl) rfl _ _)) ?_
           refine (J3.out _ _ I7b.out).mono ?_
           rintro e v8 ⟨rfl, hd⟩
           have T8 := Lib.hid (bt T7.out (Drw.bel hd))
           have I8a := Lib.hid (I7a.out.kept (Drw.bel hd))
           have I8b := Lib.hid (I7b.out.kept (Drw.bel hd))
           refine ⟨_, rfl, hK.out _ _ ⟨⟨_, T8.out⟩, rfl⟩ (fun _ => ?_)⟩
           clear hK K hd
           simp only [Act.put, List.setIfInBounds_toArray, List.set_cons_zero, List.set_cons_succ]
           refine take_quiet (i := 19) rfl rfl rfl (by kernel_rfl) (by kernel_rfl) (by kernel_rfl) (fun _ _ _ _ h => h) ⟨⟨_, T8.out⟩, rfl⟩ ?_
           go_big_quiet_op
           refine take_quiet (i := 20) rfl rfl rfl (by kernel_rfl) (by kernel_rfl) (by kernel_rfl) (fun _ _ _ _ h => h) ⟨⟨_, T8.out⟩, rfl⟩ ?_
           go_big_quiet_op
           refine take_quiet (i := 21) rfl rfl rfl (by kernel_rfl) (by kernel_rfl) (by kernel_rfl) (fun _ _ _ _ h => h) ⟨⟨_, T8.out⟩, rfl⟩ ?_
           go_big_quiet_op
           refine wpAnyH_done (by kernel_rfl) ?_ _
           go_wp2
           go_meet
           case rel => exact ⟨by first | rfl | simp [bs_append], T8.out⟩
          exact AllReadyH.nil
         exact AllReadyH.nil
        exact AllReadyH.nil
       refine ready_cons rfl (fun K hK => ?_) ?_
       ·refine branch_value (w' := (v1.alloc (.cells #[.int .i64 m.learner] 3))) (v := .slice (some ⟨v1.heap.size, 0, none⟩) 1 1) rfl (exec_bs1 _ _ _ 100 _ rfl rfl) ?_
        have T9 := Lib.hid (T1.out.alloc T1.out.size (.cells #[.int .i64 m.learner] 3))
        have I9a := Lib.hid (I1a.out.kept ((Below.refl _ v1).alloc (Nat.le_refl _) (.cells #[.int .i64 m.learner] 3)))
        have I9b : Hid (Ints (v1.alloc (.cells #[.int .i64 m.learner] 3)) (.slice (some ⟨v1.heap.size, 0, none⟩) 1 1) [m.learner]) := intsN_cl (l := [m.learner]) (Cl.new v1 [.int .i64 m.learner] 3)
        refine hK.out _ _ ⟨⟨_, T9.out⟩, rfl⟩ (fun _ => ?_)
        clear hK K
        generalize v1.heap.size = g9 at *
        generalize (v1.alloc (.cells #[.int .i64 m.learner] 3)) = v9 at *
        simp only [Act.put, List.setIfInBounds_toArray, List.set_cons_zero, List.set_cons_succ]
        refine wpAnyH_ready (rs := [5]) (by kernel_rfl) (by simp) ?_
        refine ready_cons rfl (fun K hK => ?_) ?_
        ·refine branch_call (f := 24) (args := #[.slice (some ⟨g1, 0, none⟩) 1 1]) rfl (exec_call1 _ _ _ _ 88 _ _ rfl rfl rfl (enters_of Tryz.func24 (by kernel_rfl) rfl _ _)) ?_
         refine (J1.out _ _ I9a.out).mono ?_
         rintro e v10 ⟨rfl, hd⟩
         have T10 := Lib.hid (bt T9.out (Drw.bel hd))
         have I10a := Lib.hid (I9a.out.kept (Drw.bel hd))
         have I10b := Lib.hid (I9b.out.kept (Drw.bel hd))
         refine ⟨_, rfl, hK.out _ _ ⟨⟨_, T10.out⟩, rfl⟩ (fun _ => ?_)⟩
         clear hK K hd
         simp only [Act.put, List.setIfInBounds_toArray, List.set_cons_zero, List.set_cons_succ]
         refine take_quiet (i := 6) rfl rfl rfl (by kernel_rfl) (by kernel_rfl) (by kernel_rfl) (fun _ _ _ _ h => h) ⟨⟨_, T10.out⟩, rfl⟩ ?_
         go_big_quiet_op
         refine take_quiet (i := 7) rfl rfl rfl (by kernel_rfl) (by kernel_rfl) (by kernel_rfl) (fun _ _ _ _ h => h) ⟨⟨_, T10.out⟩, rfl⟩ ?_
         go_big_quiet_op
         refine wpAnyH_ready (rs := [11]) (by kernel_rfl) (by simp) ?_
         refine ready_cons rfl (fun K hK => ?_) ?_
         ·refine branch_call (f := 24) (args := #[.slice sp m.chain.length cp]) rfl (exec_call1 _ _ _ _ 94 _ _ rfl rfl rfl (enters_of Tryz.func24 (by kernel_rfl) rfl _ _)) ?_
          refine (J2.out _ T10.out).mono ?_
          rintro e v11 ⟨rfl, hd⟩
          have T11 := Lib.hid (bt T10.out (Drw.bel hd))
          have I11a := Lib.hid (I10a.out.kept (Drw.bel hd))
          have I11b := Lib.hid (I10b.out.kept (Drw.bel hd))
          refine ⟨_, rfl, hK.out _ _ ⟨⟨_, T11.out⟩, rfl⟩ (fun _ => ?_)⟩
          clear hK K hd
          simp only [Act.put, List.setIfInBounds_toArray, List.set_cons_zero, List.set_cons_succ]
          refine take_quiet (i := 12) rfl rfl rfl (by kernel_rfl) (by kernel_rfl) (by kernel_rfl) (fun _ _ _ _ h => h) ⟨⟨_, T11.out⟩, rfl⟩ ?_
          go_big_quiet_op
          refine take_quiet (i := 13) rfl rfl rfl (by kernel_rfl) (by kernel_rfl) (by kernel_rfl) (fun _ _ _ _ h => h) ⟨⟨_, T11.out⟩, rfl⟩ ?_
          go_big_quiet_op
          refine wpAnyH_ready (rs := [18]) (by kernel_rfl) (by simp) ?_
          refine ready_cons rfl (fun K hK => ?_) ?_
          ·refine branch_call (f := 24) (args := #[.slice (some ⟨g9, 0, none⟩) 1 1]) rfl (exec_call1 _ _ _ _ 101 _ _ rfl rfl rfl (enters_of Tryz.func24 (by kernel_rfl) rfl _ _)) ?_
           refine (J3.out _ _ I11b.out).mono ?_
           rintro e v12 ⟨rfl, hd⟩
           have T12 := Lib.hid (bt T11.out (Drw.bel hd))
           have I12a := Lib.hid (I11a.out.kept (Drw.bel hd))
           have I12b := Lib.hid (I11b.out.kept (Drw.bel hd))
           refine ⟨_, rfl, hK.out _ _ ⟨⟨_, T12.out⟩, rfl⟩ (fun _ => ?_)⟩
           clear hK K hd
           simp only [Act.put, List.setIfInBounds_toArray, List.set_cons_zero, List.set_cons_succ]
           refine take_quiet (i := 19) rfl rfl rfl (by kernel_rfl) (by kernel_rfl) (by kernel_rfl) (fun _ _ _ _ h => h) ⟨⟨_, T12.out⟩, rfl⟩ ?_
           go_big_quiet_op
           refine take_quiet (i := 20) rfl rfl rfl (by kernel_rfl) (by kernel_rfl) (by kernel_rfl) (fun _ _ _ _ h => h) ⟨⟨_, T12.out⟩, rfl⟩ ?_
           go_big_quiet_op
           refine take_quiet (i := 21) rfl rfl rfl (by kernel_rfl) (by kernel_rfl) (by kernel_rfl) (fun _ _ _ _ h => h) ⟨⟨_, T12.out⟩, rfl⟩ ?_
           go_big_quiet_op
           refine wpAnyH_done (by kernel_rfl) ?_ _
           go_wp2
           go_meet
           case rel => exact ⟨by first | rfl | simp [bs_append], T12.out⟩
          exact AllReadyH.nil
         exact AllReadyH.nil
        exact AllReadyH.nil
       exact AllReadyH.nil
      refine ready_cons rfl (fun K hK => ?_) ?_
      ·refine branch_value (w' := (v0.alloc (.cells #[.int .i64 m.learner] 3))) (v := .slice (some ⟨v0.heap.size, 0, none⟩) 1 1) rfl (exec_bs1 _ _ _ 100 _ rfl rfl) ?_
       have T13 := Lib.hid (T0.out.alloc T0.out.size (.cells #[.int .i64 m.learner] 3))
       have I13b : Hid (Ints (v0.alloc (.cells #[.int .i64 m.learner] 3)) (.slice (some ⟨v0.heap.size, 0, none⟩) 1 1) [m.learner]) := intsN_cl (l := [m.learner]) (Cl.new v0 [.int .i64 m.learner] 3)
       refine hK.out _ _ ⟨⟨_, T13.out⟩, rfl⟩ (fun _ => ?_)
       clear hK K
       generalize v0.heap.size = g13 at *
       generalize (v0.alloc (.cells #[.int .i64 m.learner] 3)) = v13 at *
       simp only [Act.put, List.setIfInBounds_toArray, List.set_cons_zero, List.set_cons_succ]
       refine wpAnyH_ready (rs := [4]) (by kernel_rfl) (by simp) ?_
       refine ready_cons rfl (fun K hK => ?_) ?_
       ·refine branch_value (w' := (v13.alloc (.cells #[.int .i64 m.pep] 3))) (v := .slice (some ⟨v13.heap.size, 0, none⟩) 1 1) rfl (exec_bs1 _ _ _ 87 _ rfl rfl) ?_
        have T14 := Lib.hid (T13.out.alloc T13.out.size (.cells #[.int .i64 m.pep] 3))
        have I14b := Lib.hid (I13b.out.kept ((Below.refl _ v13).alloc (Nat.le_refl _) (.cells #[.int .i64 m.pep] 3)))
        have I14a : Hid (Ints (v13.alloc (.cells #[.int .i64 m.pep] 3)) (.slice (some ⟨v13.heap.size, 0, none⟩) 1 1) [m.pep]) := intsN_cl (l := [m.pep]) (Cl.new v13 [.int .i64 m.pep] 3)
        refine hK.out _ _ ⟨⟨_, T14.out⟩, rfl⟩ (fun _ => ?_)
        clear hK K
        generalize v13.heap.size = g14 at *
        generalize (v13.alloc (.cells #[.int .i64 m.pep] 3)) = v14 at *
        simp only [Act.put, List.setIfInBounds_toArray, List.set_cons_zero, List.set_cons_succ]
        refine wpAnyH_ready (rs := [5]) (by kernel_rfl) (by simp) ?_
        refine ready_cons rfl (fun K hK => ?_) ?_
        ·refine branch_call (f := 24) (args := #[.slice (some ⟨g14, 0, none⟩) 1 1]) rfl (exec_call1 _ _ _ _ 88 _ _ rfl rfl rfl (enters_of Tryz.func24 (by kernel_rfl) rfl _ _)) ?_
         refine (J1.out _ _ I14a.out).mono ?_
         rintro e v15 ⟨rfl, hd⟩
         have T15 := Lib.hid (bt T14.out (Drw.bel hd))
         have I15b := Lib.hid (I14b.out.kept (Drw.bel hd))
         have I15a := Lib.hid (I14a.out.kept (Drw.bel hd))
         refine ⟨_, rfl, hK.out _ _ ⟨⟨_, T15.out⟩, rfl⟩ (fun _ => ?_)⟩
         clear hK K hd
         simp only [Act.put, List.setIfInBounds_toArray, List.set_cons_zero, List.set_cons_succ]
         refine take_quiet (i := 6) rfl rfl rfl (by kernel_rfl) (by kernel_rfl) (by kernel_rfl) (fun _ _ _ _ h => h) ⟨⟨_, T15.out⟩, rfl⟩ ?_
         go_big_quiet_op
         refine take_quiet (i := 7) rfl rfl rfl (by kernel_rfl) (by kernel_rfl) (by kernel_rfl) (fun _ _ _ _ h => h) ⟨⟨_, T15.out⟩, rfl⟩ ?_
         go_big_quiet_op
         refine wpAnyH_ready (rs := [11]) (by kernel_rfl) (by simp) ?_
         refine ready_cons rfl (fun K hK => ?_) ?_
         ·refine branch_call (f := 24) (args := #[.slice sp m.chain.length cp]) rfl (exec_call1 _ _ _ _ 94 _ _ rfl rfl rfl (enters_of Tryz.func24 (by kernel_rfl) rfl _ _)) ?_
          refine (J2.out _ T15.out).mono ?_
          rintro e v16 ⟨rfl, hd⟩
          have T16 := Lib.hid (bt T15.out (Drw.bel hd))
          have I16b := Lib.hid (I15b.out.kept (Drw.bel hd))
          have I16a := Lib.hid (I15a.out.kept (Drw.bel hd))
          refine ⟨_, rfl, hK.out _ _ ⟨⟨_, T16.out⟩, rfl⟩ (fun _ => ?_)⟩
          clear hK K hd
          simp only [Act.put, List.setIfInBounds_toArray, List.set_cons_zero, List.set_cons_succ]
          refine take_quiet (i := 12) rfl rfl rfl (by kernel_rfl) (by kernel_rfl) (by kernel_rfl) (fun _ _ _ _ h => h) ⟨⟨_, T16.out⟩, rfl⟩ ?_
          go_big_quiet_op
          refine take_quiet (i := 13) rfl rfl rfl (by kernel_rfl) (by kernel_rfl) (by kernel_rfl) (fun _ _ _ _ h => h) ⟨⟨_, T16.out⟩, rfl⟩ ?_
          go_big_quiet_op
          refine wpAnyH_ready (rs := [18]) (by kernel_rfl) (by simp) ?_
          refine ready_cons rfl (fun K hK => ?_) ?_
          ·refine branch_call (f := 24) (args := #[.slice (some ⟨g13, 0, none⟩) 1 1]) rfl (exec_call1 _ _ _ _ 101 _ _ rfl rfl rfl (enters_of Tryz.func24 (by kernel_rfl) rfl _ _)) ?_
           refine (J3.out _ _ I16b.out).mono ?_
           rintro e v17 ⟨rfl, hd⟩
           have T17 := Lib.hid (bt T16.out (Drw.bel hd))
           have I17b := Lib.hid (I16b.out.kept (Drw.bel hd))
           have I17a := Lib.hid (I16a.out.kept (Drw.bel hd))
           refine ⟨_, rfl, hK.out _ _ ⟨⟨_, T17.out⟩, rfl⟩ (fun _ => ?_)⟩
           clear hK K hd
           simp only [Act.put, List.setIfInBounds_toArray, List.set_cons_zero, List.set_cons_succ]
           refine take_quiet (i := 19) rfl rfl rfl (by kernel_rfl) (by kernel_rfl) (by kernel_rfl) (fun _ _ _ _ h => h) ⟨⟨_, T17.out⟩, rfl⟩ ?_
           go_big_quiet_op
           refine take_quiet (i := 20) rfl rfl rfl (by kernel_rfl) (by kernel_rfl) (by kernel_rfl) (fun _ _ _ _ h => h) ⟨⟨_, T17.out⟩, rfl⟩ ?_
           go_big_quiet_op
           refine take_quiet (i := 21) rfl rfl rfl (by kernel_rfl) (by kernel_rfl) (by kernel_rfl) (fun _ _ _ _ h => h) ⟨⟨_, T17.out⟩, rfl⟩ ?_
           go_big_quiet_op
           refine wpAnyH_done (by kernel_rfl) ?_ _
           go_wp2
           go_meet
           case rel => exact ⟨by first | rfl | simp [bs_append], T17.out⟩
          exact AllReadyH.nil
         exact AllReadyH.nil
        exact AllReadyH.nil
       exact AllReadyH.nil
      exact AllReadyH.nil
     case rest =>
      obtain ⟨rfl, hwq⟩ := hcut
      have BQ := Lib.hid hwq
      clear hwq q8 q9 q10 k8 k9 k10 k11 J1 J2 J3 C9
      obtain ⟨P, hP⟩ : ∃ P, P = S1 ++ (tA ++ (108 :: (tB ++ (101 :: (tC ++ [108]))))) := ⟨_, rfl⟩
      rw [← hP]
      have HPT : Hid (S2 = P ++ (Wi.encInts (Wi.flatLives m.lives) ++ [101])) := by rw [Hid, HT.out, hP]; simp
      have hpl : P.length ≤ 3000 := by
       rw [hP]
       simp only [List.length_append, List.length_cons, List.length_nil]
       omega
      clear hP HT
      generalize wc = w9 at *
      have k11 := FL.out _ BQ.out
      go_wp2
      go_loopw [6, 4] (fun i s wr => ∃ (j : Nat) (l : List UInt8), i = .int .i64 j ∧ s = .string ⟨l.toArray⟩ ∧ j ≤ m.lives.length ∧ P ++ Wi.encInts (Wi.flatLives (m.lives.take j)) = l ∧ Below w8.heap.size w8 wr) (fun i _ _ => m.lives.length - (intOf i).toNat)
      case atStart => exact ⟨0, P, rfl, rfl, by omega, by simp [Wi.encInts, Wi.flatLives], BQ.out⟩
      case round =>
       obtain ⟨j, l, rfl, rfl, hj, hl, hb⟩ := hrel
       have HLL := Lib.hid hl
       have BR := Lib.hid hb
       have hll2 : l.length ≤ 3400 := by
        rw [← hl, List.length_append]
        have := NL.out j
        omega
       clear hl hb k11
       have k11 := FL.out _ BR.out
       by_cases hlt : j < m.lives.length
       ·have hlti : (j : Int) < (m.lives.length : Int) := by omega
        obtain ⟨x, hx⟩ : ∃ x, m.lives[j]? = some x := ⟨m.lives[j], by simp [hlt]⟩
        have HX0 := Lib.hid (flat_take hx)
        have NXX := Lib.hid (NX.out x (List.mem_of_getElem? hx))
        obtain ⟨g, off, cap', he, hg, p0, p1⟩ := HR0.out.getL BR.out hx
        injection he with he1 he2 he3
        subst he1 he3
        obtain ⟨x0, x1⟩ := x
        dsimp only at *
        have HX : Hid (P ++ Wi.encInts (Wi.flatLives (m.lives.take (j + 1))) = l ++ Wi.encInts [x0, x1]) := by rw [Hid, HX0.out, ← HLL.out, List.append_assoc]
        have hAX := encInts_all NXX.out
        have JX := Lib.hid (fun W v (hv : Ints W v [x0, x1]) => refints14_any [x0, x1] NXX.out v W hv)
        generalize Wi.encInts [x0, x1] = tX at *
        clear he2 hx HX0 NXX HLL
        go_upto_region 20 with (fail)
        have q11 := fun y : BelowOf wr => y.cell k11
        have r0 := fun y : BelowOf wr => y.cell p0
        have r1 := fun y : BelowOf wr => y.cell p1
        refine wp_region_held (S := fun W => ∃ b : BelowOf wr, W = b.1) (by kernel_rfl) ?_
        change wpAnyH _ _ _ _ _ _ _ _ (World.drew wr)
        have T0 : Hid (Below wr.heap.size wr (World.drew wr)) := (Below.refl _ _).drew
        generalize hv0 : World.drew wr = v0 at T0 ⊢
        clear hv0
        refine take_quiet (i := 0) rfl rfl rfl (by kernel_rfl) (by kernel_rfl) (by kernel_rfl) (fun _ _ _ _ h => h) ⟨⟨_, T0.out⟩, rfl⟩ ?_
        go_big_quiet_op
        refine take_quiet (i := 1) rfl rfl rfl (by kernel_rfl) (by kernel_rfl) (by kernel_rfl) (fun _ _ _ _ h => h) ⟨⟨_, T0.out⟩, rfl⟩ ?_
        go_big_quiet_op
        refine take_quiet (i := 2) rfl rfl rfl (by kernel_rfl) (by kernel_rfl) (by kernel_rfl) (fun _ _ _ _ h => h) ⟨⟨_, T0.out⟩, rfl⟩ ?_
        go_big_quiet_op
        refine take_quiet (i := 3) rfl rfl rfl (by kernel_rfl) (by kernel_rfl) (by kernel_rfl) (fun _ _ _ _ h => h) ⟨⟨_, T0.out⟩, rfl⟩ ?_
        go_big_quiet_op
        refine take_quiet (i := 4) rfl rfl rfl (by kernel_rfl) (by kernel_rfl) (by kernel_rfl) (fun _ _ _ _ h => h) ⟨⟨_, T0.out⟩, rfl⟩ ?_
        go_big_quiet_op
        refine take_quiet (i := 5) rfl rfl rfl (by kernel_rfl) (by kernel_rfl) (by kernel_rfl) (fun _ _ _ _ h => h) ⟨⟨_, T0.out⟩, rfl⟩ ?_
        go_big_quiet_op
        refine take_quiet (i := 6) rfl rfl rfl (by kernel_rfl) (by kernel_rfl) (by kernel_rfl) (fun _ _ _ _ h => h) ⟨⟨_, T0.out⟩, rfl⟩ ?_
        go_big_quiet_op
        refine take_quiet (i := 7) rfl rfl rfl (by kernel_rfl) (by kernel_rfl) (by kernel_rfl) (fun _ _ _ _ h => h) ⟨⟨_, T0.out⟩, rfl⟩ ?_
        go_big_quiet_op
        refine take_quiet (i := 8) rfl rfl rfl (by kernel_rfl) (by kernel_rfl) (by kernel_rfl) (fun _ _ _ _ h => h) ⟨⟨_, T0.out⟩, rfl⟩ ?_
        go_big_quiet_op
        refine take_quiet (i := 9) rfl rfl rfl (by kernel_rfl) (by kernel_rfl) (by kernel_rfl) (fun _ _ _ _ h => h) ⟨⟨_, T0.out⟩, rfl⟩ ?_
        go_big_quiet_op
        refine take_quiet (i := 10) rfl rfl rfl (by kernel_rfl) (by kernel_rfl) (by kernel_rfl) (fun _ _ _ _ h => h) ⟨⟨_, T0.out⟩, rfl⟩ ?_
        go_big_quiet_op
        refine take_quiet (i := 11) rfl rfl rfl (by kernel_rfl) (by kernel_rfl) (by kernel_rfl) (fun _ _ _ _ h => h) ⟨⟨_, T0.out⟩, rfl⟩ ?_
        go_big_quiet_op
        refine take_quiet (i := 12) rfl rfl rfl (by kernel_rfl) (by kernel_rfl) (by kernel_rfl) (fun _ _ _ _ h => h) ⟨⟨_, T0.out⟩, rfl⟩ ?_
        go_big_quiet_op
        refine wpAnyH_ready (rs := [13]) (by kernel_rfl) (by simp) ?_
        refine ready_cons rfl (fun K hK => ?_) ?_
        ·refine branch_value (w' := (v0.alloc (.cells #[.int .i64 x0, .int .i64 x1] 3))) (v := .slice (some ⟨v0.heap.size, 0, none⟩) 2 2) rfl (exec_bs2 _ _ _ 118 124 _ _ rfl rfl rfl) ?_
         have T1 := Lib.hid (T0.out.alloc T0.out.size (.cells #[.int .i64 x0, .int .i64 x1] 3))
         have I1a : Hid (Ints (v0.alloc (.cells #[.int .i64 x0, .int .i64 x1] 3)) (.slice (some ⟨v0.heap.size, 0, none⟩) 2 2) [x0, x1]) := intsN_cl (l := [x0, x1]) (Cl.new v0 [.int .i64 x0, .int .i64 x1] 3)
         refine hK.out _ _ ⟨⟨_, T1.out⟩, rfl⟩ (fun _ => ?_)
         clear hK K
         generalize v0.heap.size = g1 at *
         generalize (v0.alloc (.cells #[.int .i64 x0, .int .i64 x1] 3)) = v1 at *
         simp only [Act.put, List.setIfInBounds_toArray, List.set_cons_zero, List.set_cons_succ]
         refine wpAnyH_ready (rs := [14]) (by kernel_rfl) (by simp) ?_
         refine ready_cons rfl (fun K hK => ?_) ?_
         ·refine branch_call (f := 24) (args := #[.slice (some ⟨g1, 0, none⟩) 2 2]) rfl (exec_call1 _ _ _ _ 125 _ _ rfl rfl rfl (enters_of Tryz.func24 (by kernel_rfl) rfl _ _)) ?_
          refine (JX.out _ _ I1a.out).mono ?_
          rintro e v2 ⟨rfl, hd⟩
          have T2 := Lib.hid (bt T1.out (Drw.bel hd))
          have I2a := Lib.hid (I1a.out.kept (Drw.bel hd))
          refine ⟨_, rfl, hK.out _ _ ⟨⟨_, T2.out⟩, rfl⟩ (fun _ => ?_)⟩
          clear hK K hd
          simp only [Act.put, List.setIfInBounds_toArray, List.set_cons_zero, List.set_cons_succ]
          refine take_quiet (i := 15) rfl rfl rfl (by kernel_rfl) (by kernel_rfl) (by kernel_rfl) (fun _ _ _ _ h => h) ⟨⟨_, T2.out⟩, rfl⟩ ?_
          go_big_quiet_op
          refine take_quiet (i := 16) rfl rfl rfl (by kernel_rfl) (by kernel_rfl) (by kernel_rfl) (fun _ _ _ _ h => h) ⟨⟨_, T2.out⟩, rfl⟩ ?_
          go_big_quiet_op
          refine wpAnyH_done (by kernel_rfl) ?_ _
          have BZ := Lib.hid (bt BR.out T2.out)
          go_wp2
          go_roundw
          case rel => exact ⟨j + 1, l ++ tX, by go_num, by first | rfl | simp [bs_append], by omega, HX.out, BZ.out⟩
          case measure => simp [intOf]; omega
         exact AllReadyH.nil
        exact AllReadyH.nil
       ·obtain rfl : j = m.lives.length := by omega
        have HF : Hid (l ++ [101] = S2) := by rw [Hid, HPT.out, ← HLL.out, List.take_length, List.append_assoc]
        go_wp2
        go_meet
        case rel => exact ⟨by rw [← HF.out] <;> first | rfl | simp [bs_append], BR.out⟩
   by_cases e5 : m.kind = 5
   ·as_aux_lemma =>
     have hq1 : (m.kind == 1) = false := by rw [e5]; rfl
     have hq7 : (m.kind == 7) = false := by rw [e5]; rfl
     have hq2 : (m.kind == 2) = false := by rw [e5]; rfl
     have hq3 : (m.kind == 3) = false := by rw [e5]; rfl
     have hq4 : (m.kind == 4) = false := by rw [e5]; rfl
     have hq5 : (m.kind == 5) = true := by rw [e5]; rfl
     have hq6 : (m.kind == 6) = false := by rw [e5]; rfl
     have hq8 : (m.kind == 8) = false := by rw [e5]; rfl
     have hq9 : (m.kind == 9) = false := by rw [e5]; rfl
     have HK : Hid (m.kind = 5) := e5
     clear e5
     have k12 := (C9.out.cell 12).trans (show cs[12]? = some (.int .i64 m.batch.base) by rw [HCS.out]; rfl)
     have k13 := (C9.out.cell 13).trans (show cs[13]? = some (.int .i64 m.batch.count) by rw [HCS.out]; rfl)
     have k14 := (C9.out.cell 14).trans (show cs[14]? = some (.int .i64 m.batch.prod) by rw [HCS.out]; rfl)
     have k15 := (C9.out.cell 15).trans (show cs[15]? = some (.int .i64 m.batch.seq) by rw [HCS.out]; rfl)
     have k16 := (C9.out.cell 16).trans (show cs[16]? = some (.int .i64 m.batch.time) by rw [HCS.out]; rfl)
     have k17 := (C9.out.cell 17).trans (show cs[17]? = some (v.brecs) by rw [HCS.out]; rfl)
     have HB : Hid (Cr.good m.batch = true) := by
      rw [Hid]
      have := HL.out
      unfold Wi.lastB at this
      simpa [HK.out] using this
     have HQ := Lib.hid (refencode_any m.batch HO.out.b v.brecs w8 MZ.out.brecs)
     rw [show encR m.batch = .tuple #[.string ⟨(Cr.enc m.batch).toArray⟩, .int .i64 0] from if_pos HB.out] at HQ
     unfold batV at HQ
     have hE := (Cr.enc_len HB.out)
     have HX := Lib.hid (fun W => refText_any (Cr.enc m.batch) (by omega) W)
     have hA := Wi.bText_le (t := Cr.enc m.batch) (by omega)
     have hE2 : (Cr.enc m.batch).length ≤ 2000 := by omega
     have HT : Hid (S2 = S1 ++ Bd.bText (Cr.enc m.batch)) := by
      rw [Hid, HS2.out, HS1.out, Wi.fieldsL, List.flatten_append, Wi.tailL]
      simp [HK.out, Wi.encInts]
     generalize Bd.bText (Cr.enc m.batch) = tA at *
     generalize Cr.enc m.batch = tE at *
     clear HS1 HS2 HL HO MZ HCS HNO HB hE
     go_wp2_with fail
     refine HQ.out.mono ?_
     rintro e w4 ⟨rfl, hb4⟩
     have B4 := Lib.hid (bt (Below.refl _ w8) hb4)
     clear hb4
     go_wp2_with fail
     refine (HX.out _).mono ?_
     rintro e w5 ⟨rfl, hb5⟩
     have B5 := Lib.hid (bt B4.out (Drw.bel hb5))
     clear hb5
     go_wp2
     go_meet
     case rel => exact ⟨by rw [HT.out] <;> first | rfl | simp [bs_append], B5.out⟩
   by_cases e6 : m.kind = 6
   ·as_aux_lemma =>
     have hq1 : (m.kind == 1) = false := by rw [e6]; rfl
     have hq7 : (m.kind == 7) = false := by rw [e6]; rfl
     have hq2 : (m.kind == 2) = false := by rw [e6]; rfl
     have hq3 : (m.kind == 3) = false := by rw [e6]; rfl
     have hq4 : (m.kind == 4) = false := by rw [e6]; rfl
     have hq5 : (m.kind == 5) = false := by rw [e6]; rfl
     have hq6 : (m.kind == 6) = true := by rw [e6]; rfl
     have hq8 : (m.kind == 8) = false := by rw [e6]; rfl
     have hq9 : (m.kind == 9) = false := by rw [e6]; rfl
     have HK : Hid (m.kind = 6) := e6
     clear e6
     have k5 := (C9.out.cell 5).trans (show cs[5]? = some (.int .i64 m.off) by rw [HCS.out]; rfl)
     have k6 := (C9.out.cell 6).trans (show cs[6]? = some (.int .i64 m.high) by rw [HCS.out]; rfl)
     have NK : Hid (NumsOk [m.off, m.high]) := ⟨by simp, fun x hx => HNO.out x (by simp only [List.mem_cons, List.not_mem_nil, or_false] at hx ⊢; omega)⟩
     have HQ := Lib.hid (fun (W : World) => refints14_any [m.off, m.high] NK.out (.slice (some ⟨W.heap.size, 0, none⟩) 2 2) _ (intsN_cl (l := [m.off, m.high]) (Cl.new W [.int .i64 m.off, .int .i64 m.high] 3)))
     have hA := encInts_all NK.out
     have BA := Lib.hid (((Below.refl _ w8).alloc (Nat.le_refl _) (.cells #[.int .i64 m.off, .int .i64 m.high] 3)))
     have HT : Hid (S2 = S1 ++ Wi.encInts [m.off, m.high]) := by
      rw [Hid, HS2.out, HS1.out, Wi.fieldsL, List.flatten_append, Wi.tailL]
      simp [HK.out, Wi.encInts]
     generalize Wi.encInts [m.off, m.high] = tA at *
     clear HS1 HS2 HL HO MZ HCS HNO NK
     go_wp2_with fail
     refine (HQ.out w8).mono ?_
     rintro e w5 ⟨rfl, hb5⟩
     have B5 := Lib.hid (bt (Below.refl _ w8) (bt BA.out (Drw.bel hb5)))
     clear hb5
     go_wp2
     go_meet
     case rel => exact ⟨by rw [HT.out] <;> first | rfl | simp [bs_append], B5.out⟩
   by_cases e8 : m.kind = 8
   ·as_aux_lemma =>
     have hq1 : (m.kind == 1) = false := by rw [e8]; rfl
     have hq7 : (m.kind == 7) = false := by rw [e8]; rfl
     have hq2 : (m.kind == 2) = false := by rw [e8]; rfl
     have hq3 : (m.kind == 3) = false := by rw [e8]; rfl
     have hq4 : (m.kind == 4) = false := by rw [e8]; rfl
     have hq5 : (m.kind == 5) = false := by rw [e8]; rfl
     have hq6 : (m.kind == 6) = false := by rw [e8]; rfl
     have hq8 : (m.kind == 8) = true := by rw [e8]; rfl
     have hq9 : (m.kind == 9) = false := by rw [e8]; rfl
     have HK : Hid (m.kind = 8) := e8
     clear e8
     have k18 := (C9.out.cell 18).trans (show cs[18]? = some (v.table) by rw [HCS.out]; rfl)
     have HB : Hid (Wi.tableB m.table = true) := by
      rw [Hid]
      have := HL.out
      unfold Wi.lastB at this
      simpa [HK.out] using this
     have HQ := Lib.hid (reflenc_yes m.table HO.out.t v.table w8 MZ.out.table HB.out)
     have hE := Wi.encTable_le HB.out
     have NK : Hid (NumsOk [m.off]) := ⟨by simp, fun x hx => HNO.out x (by simp only [List.mem_cons, List.not_mem_nil, or_false] at hx ⊢; omega)⟩
     have HN := Lib.hid (fun (W : World) => refints14_any [m.off] NK.out (.slice (some ⟨W.heap.size, 0, none⟩) 1 1) _ (intsN_cl (l := [m.off]) (Cl.new W [.int .i64 m.off] 3)))
     have HX := Lib.hid (fun W => refText_any (Wi.encTable m.table) (by omega) W)
     have hA := encInts_all NK.out
     have hA2 := Wi.bText_le (t := Wi.encTable m.table) (by omega)
     have HT : Hid (S2 = S1 ++ (Wi.encInts [m.off] ++ Bd.bText (Wi.encTable m.table))) := by
      rw [Hid, HS2.out, HS1.out, Wi.fieldsL, List.flatten_append, Wi.tailL]
      simp [HK.out, Wi.encInts]
     generalize Bd.bText (Wi.encTable m.table) = tA at *
     generalize Wi.encTable m.table = tE at *
     generalize Wi.encInts [m.off] = tI at *
     clear HS1 HS2 HL HO MZ HNO HB NK
     go_wp2_with fail
     refine HQ.out.mono ?_
     rintro e w4 ⟨rfl, hb4⟩
     have B4 := Lib.hid (bt (Below.refl _ w8) hb4)
     have C4 := Lib.hid (C9.out.below hb4)
     clear hb4 k18 k0 HQ
     have k5 := (C4.out.cell 5).trans (show cs[5]? = some (.int .i64 m.off) by rw [HCS.out]; rfl)
     have BA := Lib.hid (((Below.refl _ w4).alloc (Nat.le_refl _) (.cells #[.int .i64 m.off] 3)))
     go_wp2_with fail
     refine (HN.out _).mono ?_
     rintro e w6 ⟨rfl, hb6⟩
     have B6 := Lib.hid (bt B4.out (bt BA.out (Drw.bel hb6)))
     clear hb6
     go_wp2_with fail
     refine (HX.out _).mono ?_
     rintro e w5 ⟨rfl, hb5⟩
     have B5 := Lib.hid (bt B6.out (Drw.bel hb5))
     clear hb5
     go_wp2
     go_meet
     case rel => exact ⟨by rw [HT.out] <;> first | rfl | simp [bs_append], B5.out⟩
   by_cases e9 : m.kind = 9
   ·as_aux_lemma =>
     have hq1 : (m.kind == 1) = false := by rw [e9]; rfl
     have hq7 : (m.kind == 7) = false := by rw [e9]; rfl
     have hq2 : (m.kind == 2) = false := by rw [e9]; rfl
     have hq3 : (m.kind == 3) = false := by rw [e9]; rfl
     have hq4 : (m.kind == 4) = false := by rw [e9]; rfl
     have hq5 : (m.kind == 5) = false := by rw [e9]; rfl
     have hq6 : (m.kind == 6) = false := by rw [e9]; rfl
     have hq8 : (m.kind == 8) = false := by rw [e9]; rfl
     have hq9 : (m.kind == 9) = true := by rw [e9]; rfl
     have HK : Hid (m.kind = 9) := e9
     clear e9
     have k5 := (C9.out.cell 5).trans (show cs[5]? = some (.int .i64 m.off) by rw [HCS.out]; rfl)
     have NK : Hid (NumsOk [m.off]) := ⟨by simp, fun x hx => HNO.out x (by simp only [List.mem_cons, List.not_mem_nil, or_false] at hx ⊢; omega)⟩
     have HQ := Lib.hid (fun (W : World) => refints14_any [m.off] NK.out (.slice (some ⟨W.heap.size, 0, none⟩) 1 1) _ (intsN_cl (l := [m.off]) (Cl.new W [.int .i64 m.off] 3)))
     have hA := encInts_all NK.out
     have BA := Lib.hid (((Below.refl _ w8).alloc (Nat.le_refl _) (.cells #[.int .i64 m.off] 3)))
     have HT : Hid (S2 = S1 ++ Wi.encInts [m.off]) := by
      rw [Hid, HS2.out, HS1.out, Wi.fieldsL, List.flatten_append, Wi.tailL]
      simp [HK.out, Wi.encInts]
     generalize Wi.encInts [m.off] = tA at *
     clear HS1 HS2 HL HO MZ HCS HNO NK
     go_wp2_with fail
     refine (HQ.out w8).mono ?_
     rintro e w5 ⟨rfl, hb5⟩
     have B5 := Lib.hid (bt (Below.refl _ w8) (bt BA.out (Drw.bel hb5)))
     clear hb5
     go_wp2
     go_meet
     case rel => exact ⟨by rw [HT.out] <;> first | rfl | simp [bs_append], B5.out⟩
   exfalso
   omega
  case rest =>
   obtain ⟨rfl, hwz⟩ := hcut
   have BF0 := Lib.hid (bt BZ0.out hwz)
   clear hwz C8 MZ0 HS1 HS2 HNO HL HO HF HCS k0
   go_wp2_with fail
   refine (HPUT.out _).mono ?_
   rintro e w9 ⟨rfl, hb9⟩
   have BF := Lib.hid (bt BF0.out hb9)
   clear hb9
   go_wp2
   go_ret2
   exact ⟨rfl, BF.out⟩
end Go.Proofs.YtjfpbeccpcbpcaaGreatDoor
