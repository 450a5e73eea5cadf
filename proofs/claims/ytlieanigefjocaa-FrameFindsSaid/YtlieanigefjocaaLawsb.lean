/-
  The walks of FrameSteps and FrameJoins: each returns true and leaves old memory as it was.
  Conditions: none but the model's longest length.
-/
import Derived.Test.YtlieanigefjocaaLawsa
import Derived.Test.YtlieanigefjocaaFrma
set_option linter.unusedVariables false
set_option linter.unusedSimpArgs false
namespace Go.Proofs.Ytlieanigefjocaa
open Go.RowKit

theorem Txts.kept {w w' : World} {v : Value} {ls : List (List UInt8)} (h : Txts w v ls) (hb : Below w.heap.size w w') : Txts w' v ls := by
  obtain ⟨a, cap, rfl, hc⟩ := h
  refine ⟨a, cap, rfl, fun i hi => ?_⟩
  obtain ⟨b, off, rfl, hlt, hcell⟩ := hc i hi
  exact ⟨b, off, rfl, Nat.lt_of_lt_of_le hlt hb.size, (hb.cell (p := ⟨b, off + i, none⟩) hlt).trans hcell⟩
/-- What holds at the head of FrameSteps' loop. -/
def StepsAt (l : List UInt8) (w0 : World) (k n : Nat) (w : World) : Prop :=
  n ≤ (Frm.scan l).1.length ∧ k ≤ l.length ∧ (Frm.scan l).1.drop n = (Frm.scanFrom l k).1 ∧ (Frm.scan l).2 = (Frm.scanFrom l k).2 ∧ Below w0.heap.size w0 w

set_option maxHeartbeats 400000 in
theorem steps_walk (l : List UInt8) (w : World) (hs : l.length ≤ maxLen) :
    Calls Try.prog 9 #[.string ⟨l.toArray⟩] w fun e w' => e = .returned (.bool true) ∧ Below w.heap.size w w' := by
  by_cases hl : l.length ≤ 8192
  · go_enter Try.func9, Try.ntmps9
    go_wp2_with fail
    refine (awake_any _).mono ?_
    rintro e w1 ⟨rfl, hb1⟩
    have HB1 := Lib.hid hb1
    clear hb1
    go_wp2_with fail
    refine (scan_any _ _ (by omega)).mono ?_
    rintro e w2 ⟨v, rfl, hown, hb2⟩
    have HB2 := Lib.hid (bt HB1.out hb2)
    have HT := Lib.hid hown.txts
    obtain ⟨a, cap, rfl, _⟩ := hown.txts
    clear hb2 hown
    have HL := scan_length l
    go_wp2
    go_loopw [5, 6] (fun p i wr => ∃ k n : Nat, p = .int .i64 k ∧ i = .int .i64 n ∧ StepsAt l w2 k n wr) (fun _ i _ => (Frm.scan l).1.length - (intOf i).toNat)
    case atStart => exact ⟨0, 0, rfl, rfl, by omega, by omega, rfl, rfl, Below.refl _ _⟩
    case round =>
      obtain ⟨k, n, rfl, rfl, hn, hk, hdrop, hend, hbel⟩ := hrel
      have HB := Lib.hid hbel
      have HD := Lib.hid hdrop
      have HE := Lib.hid hend
      have HT2 := Lib.hid (HT.out.kept hbel)
      clear hdrop hend hbel
      by_cases hlt : n < (Frm.scan l).1.length
      · have hz : (Frm.next l k).2.2 = 0 := by
          by_cases hz : (Frm.next l k).2.2 = 0
          · exact hz
          · have e := HD.out
            rw [Frm.scan_end hz] at e
            have := congrArg List.length e
            simp at this
            omega
        obtain ⟨h1, h2, h3, h4, h5, h6⟩ := Frm.next_zero hz
        have e4 : (Frm.next l k).2.1 = ((k + 8 + (Crc.num (l.drop k)).toNat : Nat) : Int) := by rw [h4]; omega
        have hmore := Frm.scan_more hz e4
        have hx : (Frm.scan l).1.getD n [] = (Frm.next l k).1 := by
          have e := HD.out
          rw [hmore, List.drop_eq_getElem_cons hlt] at e
          simp only at e
          injection e with e1 e2
          rw [← e1]; simp [List.getD, hlt]
        have HM : Hid ((Frm.scan l).1.drop (n + 1) = (Frm.scanFrom l (k + 8 + (Crc.num (l.drop k)).toNat)).1 ∧ (Frm.scan l).2 = (Frm.scanFrom l (k + 8 + (Crc.num (l.drop k)).toNat)).2) := by
          have e := HD.out
          rw [hmore, List.drop_eq_getElem_cons hlt] at e
          simp only at e
          injection e with e1 e2
          exact ⟨e2, by rw [HE.out, hmore]⟩
        go_wp2_with fail
        refine (next_any _ _ _ hs).mono ?_
        rintro e w3 ⟨rfl, hb3⟩
        obtain ⟨a', cap', he, hcells⟩ := HT2.out.kept hb3
        injection he with he1 he2 he3
        subst he1 he3
        obtain ⟨b, off, rfl, hblt, hcell⟩ := hcells n hlt
        rw [hx] at hcell
        have HB3 := Lib.hid (HB.out.trans (hb3.mono HB.out.size))
        rw [hz, e4]
        have hbl : ((Frm.next l k).1.length : Int) = (Crc.num (l.drop k)).toNat := by rw [h6]
        clear hb3 hcells h3 h4 h5 h6 hz e4 hmore hx
        generalize (Frm.next l k).1 = bb at hcell hbl
        generalize (Crc.num (l.drop k)).toNat = m at h1 h2 HM hbl
        have hbl2 : ((((k + 8 + m : Nat) : Int)) != (k : Int) + 8 + (bb.length : Int)) = false := by simp; omega
        have hbl3 : bb.length ≤ 16384 := by omega
        clear hbl
        go_wp2
        go_roundw
        case rel => exact ⟨k + 8 + m, n + 1, rfl, by go_num, by omega, by omega, HM.out.1, HM.out.2, HB3.out⟩
        case measure => simp [intOf]; omega
      · have hz : ((Frm.next l k).2.2 != 0) = true := by
          rw [bne_iff_ne]
          intro hz
          obtain ⟨h1, h2, h3, h4, h5, h6⟩ := Frm.next_zero hz
          have e := HD.out
          rw [Frm.scan_more (m := k + 8 + (Crc.num (l.drop k)).toNat) hz (by rw [h4]; omega), List.drop_eq_nil_of_le (by omega)] at e
          cases e
        have he : ((k : Int) == ((Frm.scan l).2 : Int)) = true := by
          have e := HE.out
          rw [Frm.scan_end (by simpa using hz)] at e
          simp only at e
          rw [e]; simp
        go_wp2_with fail
        refine (next_any _ _ _ hs).mono ?_
        rintro e w3 ⟨rfl, hb3⟩
        have HB3 := Lib.hid (bt HB2.out (HB.out.trans (hb3.mono HB.out.size)))
        clear hb3
        generalize Frm.next l k = q at hz
        obtain ⟨q1, q2, q3⟩ := q
        go_wp2
        go_ret
        exact ⟨rfl, HB3.out⟩
  · go_enter Try.func9, Try.ntmps9
    unfold maxLen at hs
    go_wp2_with fail
    refine (awake_any _).mono ?_
    rintro e w1 ⟨rfl, hb1⟩
    have HB1 := Lib.hid hb1
    clear hb1
    go_wp2
    go_ret
    exact ⟨rfl, HB1.out⟩

end Go.Proofs.Ytlieanigefjocaa
