/-
  The walks of four laws of layer 2: FrameWrites, FrameReads, FrameRest, FrameSteps: each returns true and leaves old memory as it was.
  Conditions: none but the model's longest length.
-/
import Derived.Test.YtlieanigefjocaaAwake
set_option linter.unusedVariables false
set_option linter.unusedSimpArgs false
namespace Go.Proofs.Ytlieanigefjocaa
open Go.RowKit

theorem toWorld {w w' : World} {e : Ending} {v : Value} (h : e = .returned v ∧ w = w') : e = .returned v ∧ Below w.heap.size w w' := ⟨h.1, h.2 ▸ Below.refl _ _⟩

set_option maxHeartbeats 400000 in
theorem writes_walk (l : List UInt8) (w : World) (hs : l.length ≤ maxLen) :
    Calls Try.prog 3 #[.string ⟨l.toArray⟩] w fun e w' => e = .returned (.bool true) ∧ Below w.heap.size w w' := by
  obtain ⟨p, c, h1, h2⟩ : ∃ (p : List UInt8) (c : Int), (∀ w, Calls Try.prog 11 #[.string ⟨l.toArray⟩] w fun e w' => e = .returned (.tuple #[.string ⟨p.toArray⟩, .int .i64 c]) ∧ Below w.heap.size w w') ∧
      (∀ w, Calls Try.prog 12 #[.string ⟨l.toArray⟩] w fun e w' => e = .returned (.tuple #[.string ⟨p.toArray⟩, .int .i64 c]) ∧ Below w.heap.size w w') := by
    by_cases h : l.length ≤ 16384
    · exact ⟨_, _, fun w => put_any l w h, fun w => refput_any l w h⟩
    · exact ⟨[], 4, fun w => (put_long l w (by omega) hs).mono fun e w' h => toWorld h, fun w => (refput_long l w (by omega) hs).mono fun e w' h => toWorld h⟩
  have H1 := Lib.hid h1
  have H2 := Lib.hid h2
  clear h1 h2
  go_enter Try.func3, Try.ntmps3
  go_wp2_with fail
  refine (awake_any _).mono ?_
  rintro e w1 ⟨rfl, hb1⟩
  have HB1 := Lib.hid hb1
  clear hb1
  go_wp2_with fail
  refine (H1.out _).mono ?_
  rintro e w2 ⟨rfl, hb2⟩
  have HB2 := Lib.hid (bt HB1.out hb2)
  clear hb2
  go_wp2_with fail
  refine (H2.out _).mono ?_
  rintro e w3 ⟨rfl, hb3⟩
  have HB3 := Lib.hid (bt HB2.out hb3)
  clear hb3
  go_wp2_with fail
  refine (sum_any _ _ hs).mono ?_
  rintro e w4 ⟨rfl, hb4⟩
  have HB4 := Lib.hid (bt HB3.out hb4)
  clear hb4
  go_wp2_with fail
  refine (refsum_any _ _ hs).mono ?_
  rintro e w5 ⟨rfl, rfl⟩
  go_wp2
  go_ret
  exact ⟨rfl, HB4.out⟩

set_option maxHeartbeats 400000 in
theorem rest_walk (l : List UInt8) (w : World) (hs : l.length ≤ maxLen) :
    Calls Try.prog 8 #[.string ⟨l.toArray⟩] w fun e w' => e = .returned (.bool true) ∧ Below w.heap.size w w' := by
  by_cases hl : l.length ≤ 16384
  · have hconv := fun (a b c d : Int) (w : World) => run_convert_bytes_arg (P := Try.prog) (w.alloc (.cells #[.int .u8 a, .int .u8 b, .int .u8 c, .int .u8 d] 5)) 42 5 Try.underlying42 Try.underlying5 w.heap.size 0 4 4 [a, b, c, d] rfl
      (fun i hi => by match i, hi with | 0, _ => simp [go_sem] | 1, _ => simp [go_sem] | 2, _ => simp [go_sem] | 3, _ => simp [go_sem]) 9 Try.underlying9
    have hres := Lib.hid (Crc.sum_rest l)
    have hn := (Crc.sum l).isLt
    have h4 := str_four (Crc.sum l)
    have hfl := Crc.four_length (Crc.sum l)
    generalize Crc.four (Crc.sum l) = f4 at h4 hres hfl
    have HF := Lib.hid hfl
    have hfl' : f4.length ≤ 4 := by omega
    clear hfl
    go_enter Try.func8, Try.ntmps8
    go_wp2_with fail
    refine (awake_any _).mono ?_
    rintro e w1 ⟨rfl, hb1⟩
    have HB1 := Lib.hid hb1
    clear hb1
    go_wp2_with fail
    refine (sum_any _ _ hs).mono ?_
    rintro e w2 ⟨rfl, hb2⟩
    have HB2 := Lib.hid (bt HB1.out hb2)
    clear hb2
    go_wp2_with fail
    refine (sum_any _ _ (by simp [maxLen]; omega)).mono ?_
    rintro e w3 ⟨rfl, hb3⟩
    have HB3 := Lib.hid (bt HB2.out ((((Below.refl _ _).alloc (Nat.le_refl _) _)).trans (hb3.mono (by simp))))
    clear hb3
    rw [hres.out]
    go_wp2
    go_ret
    exact ⟨rfl, HB3.out⟩
  · go_enter Try.func8, Try.ntmps8
    unfold maxLen at hs
    go_wp2_with fail
    refine (awake_any _).mono ?_
    rintro e w1 ⟨rfl, hb1⟩
    have HB1 := Lib.hid hb1
    clear hb1
    go_wp2
    go_ret
    exact ⟨rfl, HB1.out⟩

set_option maxHeartbeats 400000 in
theorem reads_walk (l : List UInt8) (k : Int) (w : World) (hs : l.length ≤ maxLen) :
    Calls Try.prog 4 #[.string ⟨l.toArray⟩, .int .i64 k] w fun e w' => e = .returned (.bool true) ∧ Below w.heap.size w w' := by
  by_cases hl : l.length ≤ 65536
  · go_enter Try.func4, Try.ntmps4
    go_wp2_with fail
    refine (awake_any _).mono ?_
    rintro e w1 ⟨rfl, hb1⟩
    have HB1 := Lib.hid hb1
    clear hb1
    go_wp2_with fail
    refine (next_any _ _ _ hs).mono ?_
    rintro e w2 ⟨rfl, hb2⟩
    have HB2 := Lib.hid (bt HB1.out hb2)
    clear hb2
    go_wp2_with fail
    refine (refnext_any _ _ _ hs).mono ?_
    rintro e w3 ⟨rfl, hb3⟩
    have HB3 := Lib.hid (bt HB2.out hb3)
    clear hb3
    generalize Frm.next l k = q
    obtain ⟨q1, q2, q3⟩ := q
    go_wp2_with fail
    refine (scan_any _ _ (by omega)).mono ?_
    rintro e w4 ⟨v4, rfl, hown4, hb4⟩
    have HB4 := Lib.hid (bt HB3.out hb4)
    have HO4 := Lib.hid hown4
    clear hb4 hown4
    go_wp2_with fail
    refine (refscan_any _ _ (by omega)).mono ?_
    rintro e w5 ⟨v5, rfl, hown5, hb5⟩
    have HB5 := Lib.hid (bt HB4.out hb5)
    have HO5 := Lib.hid hown5
    have HO4' := Lib.hid (Strs.kept HO4.out hb5)
    clear hb5 hown5 HO4
    have hlen := Lib.hid (scan_length l)
    go_wp2_with fail
    refine (same_any _ _ _ _ _ HO4'.out.txts HO5.out.txts (by have := hlen.out; unfold maxLen; omega) (by have := hlen.out; unfold maxLen; omega)).mono ?_
    rintro e w6 ⟨rfl, n, rfl⟩
    rw [decide_eq_true rfl]
    go_wp2
    go_ret
    exact ⟨rfl, below_drewN HB5.out _⟩
  · go_enter Try.func4, Try.ntmps4
    unfold maxLen at hs
    go_wp2_with fail
    refine (awake_any _).mono ?_
    rintro e w1 ⟨rfl, hb1⟩
    have HB1 := Lib.hid hb1
    clear hb1
    go_wp2
    go_ret
    exact ⟨rfl, HB1.out⟩

end Go.Proofs.Ytlieanigefjocaa
