/-
  Yg: texts of one proof, one behind the other.
  Conditions: none of its own.
-/
import Derived.Test.YtbljbdjmgogknaaGreatDoorZbk
import Derived.Test.YtbljbdjmgogknaaGreatDoorZbm
import Derived.Test.YtbljbdjmgogknaaGreatDoorZbn
import Derived.Test.YtbljbdjmgogknaaGreatDoorZbo
set_option linter.unusedVariables false
set_option linter.unusedSimpArgs false
set_option maxHeartbeats 25600000
set_option maxRecDepth 20000
namespace Go.Proofs.YtbljbdjmgogknaaGreatDoor
open Go.RowKit
theorem quiet_msg {o : Oper} {a : Act} {w : World} {K : Act → Prop} {x : Operand} {g : Nat} {cs : List Value} (ho : o.op = .load 44 x) (hx : a.eval x = .pointer (some ⟨g,0,none⟩)) (hc : Cl w g cs 44) (hi : (Tryz.prog.info? 44).map (·.size) = some cs.length) (hk : K (a.put o.dst (.agg cs.toArray))) : o.quiet Tryz.prog a (fun W => ∃ b : BelowOf w,W = b.1) K :=
 ⟨_,fun W hW => by
  obtain ⟨b,rfl⟩ := hW
  unfold Oper.quietAt
  rw [exec_load ho hx (run_loadAt_mid (P := Tryz.prog) b.1 g 0 44 cs _ (Cl.below hc b.2).range Tryz.underlying44 rfl hi)]
  exact ⟨rfl,rfl⟩,hk⟩
theorem pl_eq' (m : Wi.Msg) : (Wi.inB m.pep 0 1073741824 && (Wi.inB m.learner 0 5 && (decide (m.chain.length ≤ 5) && (Wi.areB 1 5 m.chain && (decide (m.lives.length ≤ 5) && m.lives.all Wi.lifeB))))) = Wi.placeB m := rfl
theorem msg_len38 {m : Wi.Msg} {v : MsgV} {cs : List Value} (h : msgC m v = cs) : cs.length = 38 := by rw [← h]; rfl
theorem refgood14_any (m : Wi.Msg) (v : MsgV) (w : World) (h : MsgAt w m v) (ok : MsgOk m) (hcap : CapOk v.arecs) (cs : List Value) (hcs : msgC m v = cs) :
  Calls Tryz.prog 24 #[.agg cs.toArray] w fun e w' => e = .returned (.bool (Wi.good m)) ∧ Below w.heap.size w w' := by
 have HCS : Hid (cs = msgC m v) := hcs.symm
 have HI38 : Hid ((Tryz.prog.info? 44).map (·.size) = some cs.length) := by rw [Hid,msg_len38 hcs]; kernel_rfl
 have HMV : Hid (msgV m v = .agg cs.toArray) := by rw [Hid,msgV,hcs]
 have HM := hq' h
 have HO := hq' ok
 have HCAP := hq' hcap
 clear hcs h ok hcap
 have W1 := hq' (fun W => refin_any m.kind 1 9 W)
 have W2 := hq' (fun W => refunit_any m.frm W)
 have W3 := hq' (fun W => refunit_any m.«to» W)
 have W4 := hq' (fun W => refin_any m.part 0 3 W)
 have W5 := hq' (fun W => refin_any m.ep 0 1073741824 W)
 have W6 := hq' (fun W => refin_any m.life 0 1073741824 W)
 have W7 := hq' (fun W => refin_any m.off (-1) 1099511627776 W)
 have W8 := hq' (fun W => refin_any m.high (-1) 1099511627776 W)
 obtain ⟨mo,hmo⟩ : ∃ mo,mo = msgV (Wi.only m) (onlyV m v) := ⟨_,rfl⟩
 have W9 : Hid (Wi.inB m.kind 1 9 = true → ∀ W,Below w.heap.size w W → Calls Tryz.prog 50 #[.agg cs.toArray] W fun e w' => e = .returned mo ∧ Below W.heap.size W w') := fun hk W hW => by
  have := refonly_any m v W (HM.out.kept hW) (by simpa [Wi.inB] using hk)
  rwa [HMV.out,← hmo] at this
 have W10 : Hid (∀ W,Below w.heap.size w W → Calls Tryz.prog 14 #[.agg cs.toArray,mo] W fun e w' => e = .returned (.bool (Wi.same m (Wi.only m))) ∧ Below W.heap.size W w') := fun W hW => by
  have := refsameM_any m (Wi.only m) v (onlyV m v) W (HM.out.kept hW) (HM.out.kept hW).only HO.out HO.out.only
  rwa [HMV.out,← hmo] at this
 clear hmo
 have HE : Hid (Wi.good m = ((Wi.inB m.kind 1 9 && (Wi.unitB m.frm && (Wi.unitB m.«to» && (Wi.inB m.part 0 3 && (Wi.inB m.ep 0 1073741824 && (Wi.inB m.life 0 1073741824 && (Wi.inB m.off (-1) 1099511627776 && (Wi.inB m.high (-1) 1099511627776 && Wi.same m (Wi.only m))))))))) && Wi.lastB m)) := by
  rw [Hid]
  unfold Wi.good Wi.first Wi.areB
  simp [Bool.and_assoc]
 rw [HE.out]
 obtain ⟨r1,hr1⟩ : ∃ r,r = (Wi.inB m.kind 1 9 && (Wi.unitB m.frm && (Wi.unitB m.«to» && (Wi.inB m.part 0 3 && (Wi.inB m.ep 0 1073741824 && (Wi.inB m.life 0 1073741824 && (Wi.inB m.off (-1) 1099511627776 && (Wi.inB m.high (-1) 1099511627776 && Wi.same m (Wi.only m))))))))) := ⟨_,rfl⟩
 rw [← hr1]
 have HR1 := hq' hr1
 clear HE hr1
 have HPL := hq' (pl_eq' m)
 go_enter Tryz.func24,Tryz.ntmps24
 obtain ⟨w1,hw1,CA,B1⟩ := oneBox (w := w) cs 44
 have HW1 := hq' hw1
 clear hw1
 go_upto_region 1 with (fail)
 first | rw [HW1.out] | skip
 clear HW1
 generalize w.heap.size = pa at CA ⊢
 have M1w := hq' (HM.out.kept B1.out)
 go_cut [55] (fun t wz => t = .bool (!r1) ∧ Below w1.heap.size w1 wz)
 case first =>
  replace W9 := hq' (fun hk W (hW : Below w1.heap.size w1 W) => W9.out hk W (bt B1.out hW))
  replace W10 := hq' (fun W (hW : Below w1.heap.size w1 W) => W10.out W (bt B1.out hW))
  have M10 := hq' (below_class (w := w1) (fun W hW => W10.out W hW))
  have a0 := fun y : BelowOf w1 => y.cell ((CA.out.cell 0).trans (show cs[0]? = some (.int .i64 m.kind) by rw [HCS.out]; rfl))
  have a1 := fun y : BelowOf w1 => y.cell ((CA.out.cell 1).trans (show cs[1]? = some (.int .i64 m.frm) by rw [HCS.out]; rfl))
  have a2 := fun y : BelowOf w1 => y.cell ((CA.out.cell 2).trans (show cs[2]? = some (.int .i64 m.«to») by rw [HCS.out]; rfl))
  have a3 := fun y : BelowOf w1 => y.cell ((CA.out.cell 3).trans (show cs[3]? = some (.int .i64 m.part) by rw [HCS.out]; rfl))
  have a4 := fun y : BelowOf w1 => y.cell ((CA.out.cell 4).trans (show cs[4]? = some (.int .i64 m.ep) by rw [HCS.out]; rfl))
  have a7 := fun y : BelowOf w1 => y.cell ((CA.out.cell 7).trans (show cs[7]? = some (.int .i64 m.life) by rw [HCS.out]; rfl))
  have a5 := fun y : BelowOf w1 => y.cell ((CA.out.cell 5).trans (show cs[5]? = some (.int .i64 m.off) by rw [HCS.out]; rfl))
  have a6 := fun y : BelowOf w1 => y.cell ((CA.out.cell 6).trans (show cs[6]? = some (.int .i64 m.high) by rw [HCS.out]; rfl))
  have M1 := hq' (fun y : BelowOf w1 => (W1.out y.1).mono (fun e w' (h : _ ∧ _) => (⟨h.1,y,h.2⟩ : _ ∧ ∃ c : BelowOf w1,w' = c.1)))
  have M2 := hq' (fun y : BelowOf w1 => (W2.out y.1).mono (fun e w' (h : _ ∧ _) => (⟨h.1,y,h.2⟩ : _ ∧ ∃ c : BelowOf w1,w' = c.1)))
  have M3 := hq' (fun y : BelowOf w1 => (W3.out y.1).mono (fun e w' (h : _ ∧ _) => (⟨h.1,y,h.2⟩ : _ ∧ ∃ c : BelowOf w1,w' = c.1)))
  have M4 := hq' (fun y : BelowOf w1 => (W4.out y.1).mono (fun e w' (h : _ ∧ _) => (⟨h.1,y,h.2⟩ : _ ∧ ∃ c : BelowOf w1,w' = c.1)))
  have M5 := hq' (fun y : BelowOf w1 => (W5.out y.1).mono (fun e w' (h : _ ∧ _) => (⟨h.1,y,h.2⟩ : _ ∧ ∃ c : BelowOf w1,w' = c.1)))
  have M6 := hq' (fun y : BelowOf w1 => (W6.out y.1).mono (fun e w' (h : _ ∧ _) => (⟨h.1,y,h.2⟩ : _ ∧ ∃ c : BelowOf w1,w' = c.1)))
  have M7 := hq' (fun y : BelowOf w1 => (W7.out y.1).mono (fun e w' (h : _ ∧ _) => (⟨h.1,y,h.2⟩ : _ ∧ ∃ c : BelowOf w1,w' = c.1)))
  have M8 := hq' (fun y : BelowOf w1 => (W8.out y.1).mono (fun e w' (h : _ ∧ _) => (⟨h.1,y,h.2⟩ : _ ∧ ∃ c : BelowOf w1,w' = c.1)))
  generalize Wi.inB m.kind 1 9 = b1 at *
  generalize Wi.unitB m.frm = b2 at *
  generalize Wi.unitB m.«to» = b3 at *
  generalize Wi.inB m.part 0 3 = b4 at *
  generalize Wi.inB m.ep 0 1073741824 = b5 at *
  generalize Wi.inB m.life 0 1073741824 = b6 at *
  generalize Wi.inB m.off (-1) 1099511627776 = b7 at *
  generalize Wi.inB m.high (-1) 1099511627776 = b8 at *
  generalize Wi.same m (Wi.only m) = b9 at *
  clear HM HO HCAP HCS HMV M1w HPL B1 W10 W1 W2 W3 W4 W5 W6 W7 W8
  generalize m.kind = x0 at *
  generalize m.frm = x1 at *
  generalize m.«to» = x2 at *
  generalize m.part = x3 at *
  generalize m.ep = x4 at *
  generalize m.life = x5 at *
  generalize m.off = x6 at *
  generalize m.high = x7 at *
  cases b1 with
  | false =>
   refine wp_region_below (by kernel_rfl) (by kernel_rfl) ?_
   repeat (go_big_quiet_step (fail))
   go_big_quiet_step ((exact M1.out _))
   repeat (go_big_quiet_step (fail))
   refine wpQuiet_nil ?_
   intro w9 h9
   obtain ⟨⟨w9,hb9⟩,rfl⟩ := h9
   have B9 := hq' hb9
   clear hb9
   go_wp2
   go_meet
   case rel => exact ⟨by rw [HR1.out]; first | rfl | simp,B9.out⟩
  | true =>
   cases b2 with
   | false =>
    refine wp_region_below (by kernel_rfl) (by kernel_rfl) ?_
    repeat (go_big_quiet_step (fail))
    go_big_quiet_step ((exact M1.out _))
    repeat (go_big_quiet_step (fail))
    go_big_quiet_step ((exact M2.out _))
    repeat (go_big_quiet_step (fail))
    refine wpQuiet_nil ?_
    intro w9 h9
    obtain ⟨⟨w9,hb9⟩,rfl⟩ := h9
    have B9 := hq' hb9
    clear hb9
    go_wp2
    go_meet
    case rel => exact ⟨by rw [HR1.out]; first | rfl | simp,B9.out⟩
   | true =>
    cases b3 with
    | false =>
     refine wp_region_below (by kernel_rfl) (by kernel_rfl) ?_
     repeat (go_big_quiet_step (fail))
     go_big_quiet_step ((exact M1.out _))
     repeat (go_big_quiet_step (fail))
     go_big_quiet_step ((exact M2.out _))
     repeat (go_big_quiet_step (fail))
     go_big_quiet_step ((exact M3.out _))
     repeat (go_big_quiet_step (fail))
     refine wpQuiet_nil ?_
     intro w9 h9
     obtain ⟨⟨w9,hb9⟩,rfl⟩ := h9
     have B9 := hq' hb9
     clear hb9
     go_wp2
     go_meet
     case rel => exact ⟨by rw [HR1.out]; first | rfl | simp,B9.out⟩
    | true =>
     cases b4 with
     | false =>
      refine wp_region_below (by kernel_rfl) (by kernel_rfl) ?_
      repeat (go_big_quiet_step (fail))
      go_big_quiet_step ((exact M1.out _))
      repeat (go_big_quiet_step (fail))
      go_big_quiet_step ((exact M2.out _))
      repeat (go_big_quiet_step (fail))
      go_big_quiet_step ((exact M3.out _))
      repeat (go_big_quiet_step (fail))
      go_big_quiet_step ((exact M4.out _))
      repeat (go_big_quiet_step (fail))
      refine wpQuiet_nil ?_
      intro w9 h9
      obtain ⟨⟨w9,hb9⟩,rfl⟩ := h9
      have B9 := hq' hb9
      clear hb9
      go_wp2
      go_meet
      case rel => exact ⟨by rw [HR1.out]; first | rfl | simp,B9.out⟩
     | true =>
      cases b5 with
      | false =>
       refine wp_region_below (by kernel_rfl) (by kernel_rfl) ?_
       repeat (go_big_quiet_step (fail))
       go_big_quiet_step ((exact M1.out _))
       repeat (go_big_quiet_step (fail))
       go_big_quiet_step ((exact M2.out _))
       repeat (go_big_quiet_step (fail))
       go_big_quiet_step ((exact M3.out _))
       repeat (go_big_quiet_step (fail))
       go_big_quiet_step ((exact M4.out _))
       repeat (go_big_quiet_step (fail))
       go_big_quiet_step ((exact M5.out _))
       repeat (go_big_quiet_step (fail))
       refine wpQuiet_nil ?_
       intro w9 h9
       obtain ⟨⟨w9,hb9⟩,rfl⟩ := h9
       have B9 := hq' hb9
       clear hb9
       go_wp2
       go_meet
       case rel => exact ⟨by rw [HR1.out]; first | rfl | simp,B9.out⟩
      | true =>
       cases b6 with
       | false =>
        refine wp_region_below (by kernel_rfl) (by kernel_rfl) ?_
        repeat (go_big_quiet_step (fail))
        go_big_quiet_step ((exact M1.out _))
        repeat (go_big_quiet_step (fail))
        go_big_quiet_step ((exact M2.out _))
        repeat (go_big_quiet_step (fail))
        go_big_quiet_step ((exact M3.out _))
        repeat (go_big_quiet_step (fail))
        go_big_quiet_step ((exact M4.out _))
        repeat (go_big_quiet_step (fail))
        go_big_quiet_step ((exact M5.out _))
        repeat (go_big_quiet_step (fail))
        go_big_quiet_step ((exact M6.out _))
        repeat (go_big_quiet_step (fail))
        refine wpQuiet_nil ?_
        intro w9 h9
        obtain ⟨⟨w9,hb9⟩,rfl⟩ := h9
        have B9 := hq' hb9
        clear hb9
        go_wp2
        go_meet
        case rel => exact ⟨by rw [HR1.out]; first | rfl | simp,B9.out⟩
       | true =>
        cases b7 with
        | false =>
         refine wp_region_below (by kernel_rfl) (by kernel_rfl) ?_
         repeat (go_big_quiet_step (fail))
         go_big_quiet_step ((exact M1.out _))
         repeat (go_big_quiet_step (fail))
         go_big_quiet_step ((exact M2.out _))
         repeat (go_big_quiet_step (fail))
         go_big_quiet_step ((exact M3.out _))
         repeat (go_big_quiet_step (fail))
         go_big_quiet_step ((exact M4.out _))
         repeat (go_big_quiet_step (fail))
         go_big_quiet_step ((exact M5.out _))
         repeat (go_big_quiet_step (fail))
         go_big_quiet_step ((exact M6.out _))
         repeat (go_big_quiet_step (fail))
         go_big_quiet_step ((exact M7.out _))
         repeat (go_big_quiet_step (fail))
         refine wpQuiet_nil ?_
         intro w9 h9
         obtain ⟨⟨w9,hb9⟩,rfl⟩ := h9
         have B9 := hq' hb9
         clear hb9
         go_wp2
         go_meet
         case rel => exact ⟨by rw [HR1.out]; first | rfl | simp,B9.out⟩
        | true =>
         cases b8 with
         | false =>
          refine wp_region_below (by kernel_rfl) (by kernel_rfl) ?_
          repeat (go_big_quiet_step (fail))
          go_big_quiet_step ((exact M1.out _))
          repeat (go_big_quiet_step (fail))
          go_big_quiet_step ((exact M2.out _))
          repeat (go_big_quiet_step (fail))
          go_big_quiet_step ((exact M3.out _))
          repeat (go_big_quiet_step (fail))
          go_big_quiet_step ((exact M4.out _))
          repeat (go_big_quiet_step (fail))
          go_big_quiet_step ((exact M5.out _))
          repeat (go_big_quiet_step (fail))
          go_big_quiet_step ((exact M6.out _))
          repeat (go_big_quiet_step (fail))
          go_big_quiet_step ((exact M7.out _))
          repeat (go_big_quiet_step (fail))
          go_big_quiet_step ((exact M8.out _))
          repeat (go_big_quiet_step (fail))
          refine wpQuiet_nil ?_
          intro w9 h9
          obtain ⟨⟨w9,hb9⟩,rfl⟩ := h9
          have B9 := hq' hb9
          clear hb9
          go_wp2
          go_meet
          case rel => exact ⟨by rw [HR1.out]; first | rfl | simp,B9.out⟩
         | true =>
          have M9 := hq' (below_class (w := w1) (fun W hW => W9.out rfl W hW))
          cases b9 with
          | false =>
           refine wp_region_below (by kernel_rfl) (by kernel_rfl) ?_
           repeat (go_big_quiet_step (fail))
           go_big_quiet_step ((exact M1.out _))
           repeat (go_big_quiet_step (fail))
           go_big_quiet_step ((exact M2.out _))
           repeat (go_big_quiet_step (fail))
           go_big_quiet_step ((exact M3.out _))
           repeat (go_big_quiet_step (fail))
           go_big_quiet_step ((exact M4.out _))
           repeat (go_big_quiet_step (fail))
           go_big_quiet_step ((exact M5.out _))
           repeat (go_big_quiet_step (fail))
           go_big_quiet_step ((exact M6.out _))
           repeat (go_big_quiet_step (fail))
           go_big_quiet_step ((exact M7.out _))
           repeat (go_big_quiet_step (fail))
           go_big_quiet_step ((exact M8.out _))
           repeat (go_big_quiet_step (fail))
           go_big_quiet_want
           refine quiet_msg rfl rfl CA.out HI38.out ?_
           go_big_quiet_on
           simp only [Act.put,ta',sz',ss']
           go_big_quiet_want
           refine quiet_msg rfl rfl CA.out HI38.out ?_
           go_big_quiet_on
           simp only [Act.put,ta',sz',ss']
           go_big_quiet_step ((exact M9.out _))
           go_big_quiet_step ((exact M10.out _))
           repeat (go_big_quiet_step (fail))
           refine wpQuiet_nil ?_
           intro w9 h9
           obtain ⟨⟨w9,hb9⟩,rfl⟩ := h9
           have B9 := hq' hb9
           clear hb9
           go_wp2
           go_meet
           case rel => exact ⟨by rw [HR1.out]; first | rfl | simp,B9.out⟩
          | true =>
           refine wp_region_below (by kernel_rfl) (by kernel_rfl) ?_
           repeat (go_big_quiet_step (fail))
           go_big_quiet_step ((exact M1.out _))
           repeat (go_big_quiet_step (fail))
           go_big_quiet_step ((exact M2.out _))
           repeat (go_big_quiet_step (fail))
           go_big_quiet_step ((exact M3.out _))
           repeat (go_big_quiet_step (fail))
           go_big_quiet_step ((exact M4.out _))
           repeat (go_big_quiet_step (fail))
           go_big_quiet_step ((exact M5.out _))
           repeat (go_big_quiet_step (fail))
           go_big_quiet_step ((exact M6.out _))
           repeat (go_big_quiet_step (fail))
           go_big_quiet_step ((exact M7.out _))
           repeat (go_big_quiet_step (fail))
           go_big_quiet_step ((exact M8.out _))
           repeat (go_big_quiet_step (fail))
           go_big_quiet_want
           refine quiet_msg rfl rfl CA.out HI38.out ?_
           go_big_quiet_on
           simp only [Act.put,ta',sz',ss']
           go_big_quiet_want
           refine quiet_msg rfl rfl CA.out HI38.out ?_
           go_big_quiet_on
           simp only [Act.put,ta',sz',ss']
           go_big_quiet_step ((exact M9.out _))
           go_big_quiet_step ((exact M10.out _))
           repeat (go_big_quiet_step (fail))
           refine wpQuiet_nil ?_
           intro w9 h9
           obtain ⟨⟨w9,hb9⟩,rfl⟩ := h9
           have B9 := hq' hb9
           clear hb9
           go_wp2
           go_meet
           case rel => exact ⟨by rw [HR1.out]; first | rfl | simp,B9.out⟩
 case rest =>
  obtain ⟨rfl,hwz⟩ := hcut
  have BZ := hq' (bt B1.out hwz)
  have MZ := hq' (M1w.out.kept hwz)
  have C9 := hq' (Cl.below CA.out hwz)
  clear hwz CA M1w HR1 W9 W10 HM W1 W2 W3 W4 W5 W6 W7 W8
  cases r1 with
  | false =>
   go_wp2
   go_ret
   exact ⟨rfl,BZ.out⟩
  | true =>
   have k0 := (C9.out.cell 0).trans (show cs[0]? = some (.int .i64 m.kind) by rw [HCS.out]; rfl)
   have hok := HO.out
   by_cases e1 : m.kind = 1
   ·as_aux_lemma =>
     rw [e1] at k0
     have k19 := (C9.out.cell 19).trans (show cs[19]? = some (.int .i64 m.req.client) by rw [HCS.out]; rfl)
     have k20 := (C9.out.cell 20).trans (show cs[20]? = some (.int .i64 m.req.n) by rw [HCS.out]; rfl)
     have k21 := (C9.out.cell 21).trans (show cs[21]? = some (.int .i64 m.req.kind) by rw [HCS.out]; rfl)
     have k22 := (C9.out.cell 22).trans (show cs[22]? = some (.int .i64 m.req.part) by rw [HCS.out]; rfl)
     have k23 := (C9.out.cell 23).trans (show cs[23]? = some (.int .i64 m.req.seq) by rw [HCS.out]; rfl)
     have k24 := (C9.out.cell 24).trans (show cs[24]? = some (.int .i64 m.req.off) by rw [HCS.out]; rfl)
     have k25 := (C9.out.cell 25).trans (show cs[25]? = some (.int .i64 m.req.max) by rw [HCS.out]; rfl)
     have k26 := (C9.out.cell 26).trans (show cs[26]? = some (.int .i64 m.req.gen) by rw [HCS.out]; rfl)
     have k27 := (C9.out.cell 27).trans (show cs[27]? = some (.string ⟨m.req.group.toArray⟩) by rw [HCS.out]; rfl)
     have k28 := (C9.out.cell 28).trans (show cs[28]? = some (.string ⟨m.req.member.toArray⟩) by rw [HCS.out]; rfl)
     have k29 := (C9.out.cell 29).trans (show cs[29]? = some (v.qrecs) by rw [HCS.out]; rfl)
     have HQ := hq' (refreq_any m.req v.qrecs wc MZ.out.qrecs hok.q.1 hok.q.2.1 hok.q.2.2.1 hok.q.2.2.2)
     unfold wreqC at HQ
     have HL : Hid (Wi.lastB m = _) := show Wi.lastB m = Wi.reqB m.req by simp [Wi.lastB,e1]
     clear HO hok MZ HCS HMV HI38 HCAP
     go_wp2_with fail
     refine HQ.out.mono ?_
     rintro e w5 ⟨rfl,hb5⟩
     have B5 := hq' (bt BZ.out hb5)
     clear hb5
     go_wp2
     go_ret
     exact ⟨by rw [HL.out]; rfl,B5.out⟩
   by_cases e7 : m.kind = 7
   ·as_aux_lemma =>
     rw [e7] at k0
     have k19 := (C9.out.cell 19).trans (show cs[19]? = some (.int .i64 m.req.client) by rw [HCS.out]; rfl)
     have k20 := (C9.out.cell 20).trans (show cs[20]? = some (.int .i64 m.req.n) by rw [HCS.out]; rfl)
     have k21 := (C9.out.cell 21).trans (show cs[21]? = some (.int .i64 m.req.kind) by rw [HCS.out]; rfl)
     have k22 := (C9.out.cell 22).trans (show cs[22]? = some (.int .i64 m.req.part) by rw [HCS.out]; rfl)
     have k23 := (C9.out.cell 23).trans (show cs[23]? = some (.int .i64 m.req.seq) by rw [HCS.out]; rfl)
     have k24 := (C9.out.cell 24).trans (show cs[24]? = some (.int .i64 m.req.off) by rw [HCS.out]; rfl)
     have k25 := (C9.out.cell 25).trans (show cs[25]? = some (.int .i64 m.req.max) by rw [HCS.out]; rfl)
     have k26 := (C9.out.cell 26).trans (show cs[26]? = some (.int .i64 m.req.gen) by rw [HCS.out]; rfl)
     have k27 := (C9.out.cell 27).trans (show cs[27]? = some (.string ⟨m.req.group.toArray⟩) by rw [HCS.out]; rfl)
     have k28 := (C9.out.cell 28).trans (show cs[28]? = some (.string ⟨m.req.member.toArray⟩) by rw [HCS.out]; rfl)
     have k29 := (C9.out.cell 29).trans (show cs[29]? = some (v.qrecs) by rw [HCS.out]; rfl)
     have HQ := hq' (refreq_any m.req v.qrecs wc MZ.out.qrecs hok.q.1 hok.q.2.1 hok.q.2.2.1 hok.q.2.2.2)
     unfold wreqC at HQ
     have HL : Hid (Wi.lastB m = _) := show Wi.lastB m = Wi.reqB m.req by simp [Wi.lastB,e7]
     clear HO hok MZ HCS HMV HI38 HCAP
     go_wp2_with fail
     refine HQ.out.mono ?_
     rintro e w5 ⟨rfl,hb5⟩
     have B5 := hq' (bt BZ.out hb5)
     clear hb5
     go_wp2
     go_ret
     exact ⟨by rw [HL.out]; rfl,B5.out⟩
   by_cases e2 : m.kind = 2
   ·as_aux_lemma =>
     rw [e2] at k0
     have k30 := (C9.out.cell 30).trans (show cs[30]? = some (.int .i64 m.resp.client) by rw [HCS.out]; rfl)
     have k31 := (C9.out.cell 31).trans (show cs[31]? = some (.int .i64 m.resp.n) by rw [HCS.out]; rfl)
     have k32 := (C9.out.cell 32).trans (show cs[32]? = some (.int .i64 m.resp.code) by rw [HCS.out]; rfl)
     have k33 := (C9.out.cell 33).trans (show cs[33]? = some (.int .i64 m.resp.off) by rw [HCS.out]; rfl)
     have k34 := (C9.out.cell 34).trans (show cs[34]? = some (.int .i64 m.resp.high) by rw [HCS.out]; rfl)
     have k35 := (C9.out.cell 35).trans (show cs[35]? = some (.int .i64 m.resp.gen) by rw [HCS.out]; rfl)
     have k36 := (C9.out.cell 36).trans (show cs[36]? = some (v.parts) by rw [HCS.out]; rfl)
     have k37 := (C9.out.cell 37).trans (show cs[37]? = some (v.arecs) by rw [HCS.out]; rfl)
     have HQ := hq' (refresp_any m.resp v.parts v.arecs wc MZ.out.parts MZ.out.arecs hok.p.1 hok.a.1 hok.a.2 HCAP.out)
     unfold wrespC at HQ
     have HL : Hid (Wi.lastB m = _) := show Wi.lastB m = Wi.respB m.resp by simp [Wi.lastB,e2]
     clear HO hok MZ HCS HMV HI38 HCAP
     go_wp2_with fail
     refine HQ.out.mono ?_
     rintro e w5 ⟨rfl,hb5⟩
     have B5 := hq' (bt BZ.out hb5)
     clear hb5
     go_wp2
     go_ret
     exact ⟨by rw [HL.out]; rfl,B5.out⟩
   by_cases e4 : m.kind = 4
   ·as_aux_lemma =>
     rw [e4] at k0
     have k8 := (C9.out.cell 8).trans (show cs[8]? = some (.int .i64 m.pep) by rw [HCS.out]; rfl)
     have k9 := (C9.out.cell 9).trans (show cs[9]? = some (v.chain) by rw [HCS.out]; rfl)
     have k10 := (C9.out.cell 10).trans (show cs[10]? = some (.int .i64 m.learner) by rw [HCS.out]; rfl)
     have k11 := (C9.out.cell 11).trans (show cs[11]? = some (v.lives) by rw [HCS.out]; rfl)
     have HQ := hq' (refplace_any m.pep m.learner m.chain m.lives v.chain v.lives wc MZ.out.chain hok.c.1 MZ.out.lives hok.l.1)
     skip
     have HL : Hid (Wi.lastB m = _) := show Wi.lastB m = Wi.placeB m by simp [Wi.lastB,e4]
     clear HO hok MZ HCS HMV HI38 HCAP
     go_wp2_with fail
     refine HQ.out.mono ?_
     rintro e w5 ⟨rfl,hb5⟩
     have B5 := hq' (bt BZ.out hb5)
     clear hb5
     go_wp2
     go_ret
     exact ⟨by rw [HL.out]; rw [HPL.out]; rfl,B5.out⟩
   by_cases e5 : m.kind = 5
   ·as_aux_lemma =>
     rw [e5] at k0
     have k12 := (C9.out.cell 12).trans (show cs[12]? = some (.int .i64 m.batch.base) by rw [HCS.out]; rfl)
     have k13 := (C9.out.cell 13).trans (show cs[13]? = some (.int .i64 m.batch.count) by rw [HCS.out]; rfl)
     have k14 := (C9.out.cell 14).trans (show cs[14]? = some (.int .i64 m.batch.prod) by rw [HCS.out]; rfl)
     have k15 := (C9.out.cell 15).trans (show cs[15]? = some (.int .i64 m.batch.seq) by rw [HCS.out]; rfl)
     have k16 := (C9.out.cell 16).trans (show cs[16]? = some (.int .i64 m.batch.time) by rw [HCS.out]; rfl)
     have k17 := (C9.out.cell 17).trans (show cs[17]? = some (v.brecs) by rw [HCS.out]; rfl)
     have HQ := hq' (refgood_any m.batch hok.b v.brecs wc MZ.out.brecs)
     unfold batV at HQ
     have HL : Hid (Wi.lastB m = _) := show Wi.lastB m = Cr.good m.batch by simp [Wi.lastB,e5]
     clear HO hok MZ HCS HMV HI38 HCAP
     go_wp2_with fail
     refine HQ.out.mono ?_
     rintro e w5 ⟨rfl,hb5⟩
     have B5 := hq' (bt BZ.out hb5)
     clear hb5
     go_wp2
     go_ret
     exact ⟨by rw [HL.out]; rfl,B5.out⟩
   by_cases e8 : m.kind = 8
   ·as_aux_lemma =>
     rw [e8] at k0
     have k18 := (C9.out.cell 18).trans (show cs[18]? = some (v.table) by rw [HCS.out]; rfl)
     have HQ := hq' (refgood6_any m.table hok.t.1 (fun x hx => (hok.t.2 x hx).2.1) v.table wc MZ.out.table)
     skip
     have HL : Hid (Wi.lastB m = _) := show Wi.lastB m = Wi.tableB m.table by simp [Wi.lastB,e8]
     clear HO hok MZ HCS HMV HI38 HCAP
     go_wp2_with fail
     refine HQ.out.mono ?_
     rintro e w5 ⟨rfl,hb5⟩
     have B5 := hq' (bt BZ.out hb5)
     clear hb5
     go_wp2
     go_ret
     exact ⟨by rw [HL.out]; rfl,B5.out⟩
   as_aux_lemma =>
    have HL : Hid (Wi.lastB m = true) := by simp [Hid,Wi.lastB,e1,e2,e4,e5,e7,e8]
    clear HO hok MZ HCS HMV HI38 HCAP
    generalize m.kind = kd at *
    go_wp2
    go_ret
    exact ⟨by rw [HL.out]; rfl,BZ.out⟩
end Go.Proofs.YtbljbdjmgogknaaGreatDoor
