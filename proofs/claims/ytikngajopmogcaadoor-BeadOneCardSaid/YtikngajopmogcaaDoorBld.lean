/-
  BeadOne: the walk.
  Conditions: the library's variables hold what they are laid with.
-/
import Derived.Test.YtikngajopmogcaaDoorBlc
import Derived.Test.YtikngajopmogcaaDoorQt
set_option linter.unusedVariables false
set_option linter.unusedSimpArgs false
namespace Go.Proofs.YtikngajopmogcaaDoor
open Go.RowKit

/-- Two readers, and elder memory as it was. -/
def Two (w : World) (p : Nat) (q : Bd.St) (p2 : Nat) (q2 : Bd.St) (W : World) : Prop := Rd W p q ∧ Rd W p2 q2 ∧ Below w.heap.size w W
theorem Two.below {w W W' : World} {p p2 : Nat} {q q2 : Bd.St} (h : Two w p q p2 q2 W) (hb : Below W.heap.size W W') : Two w p q p2 q2 W' := ⟨h.1.below hb, h.2.1.below hb, bt h.2.2 hb⟩
theorem Two.two {w W : World} {p p2 : Nat} {q q2 : Bd.St} (h : Two w p q p2 q2 W) : Rd W p2 q2 := h.2.1
theorem Two.one {w W : World} {p p2 : Nat} {q q2 : Bd.St} (h : Two w p q p2 q2 W) : Rd W p q := h.1
theorem Two.bel {w W : World} {p p2 : Nat} {q q2 : Bd.St} (h : Two w p q p2 q2 W) : Below w.heap.size w W := h.2.2
theorem Two.drew {w W : World} {p p2 : Nat} {q q2 : Bd.St} (h : Two w p q p2 q2 W) : Two w p q p2 q2 W.drew := ⟨h.1, h.2.1, below_drewN h.2.2 1⟩
set_option maxRecDepth 20000 in
set_option maxHeartbeats 4000000 in
theorem one_walk (s : List UInt8) (hs : s.length ≤ maxLen) (w : World) (hw : Lw w) :
    Calls Tryd.prog 6 #[.string ⟨s.toArray⟩] w fun e w' => e = .returned (.bool true) ∧ Below w.heap.size w w' := by
  unfold maxLen at hs
  have HW := Lib.hid hw
  clear hw
  by_cases h0 : s.length ≤ 4096
  · go_enter Tryd.func6, Tryd.ntmps6
    go_wp2_with fail
    refine (awake_any _ HW.out).mono ?_
    rintro e w1 ⟨rfl, hb1⟩
    have B1 := Lib.hid hb1
    clear hb1
    go_wp2
    go_loopw [3] (fun i wr => ∃ k : Nat, i = .int .i64 k ∧ k ≤ s.length + 1 ∧ Below w.heap.size w wr) (fun i _ => s.length + 1 - (intOf i).toNat)
    case atStart => exact ⟨0, rfl, by omega, B1.out⟩
    case round =>
      obtain ⟨k, rfl, hk, hb⟩ := hrel
      have HB := Lib.hid hb
      clear hb B1
      by_cases hlt : k ≤ s.length
      · have hsl := str_to (P := Tryd.prog) s k k .i64 rfl hlt 9 Tryd.underlying9
        have hc := Lib.hid (one_cases (s.take k))
        have hpl : (s.take k).length ≤ 4096 := by rw [List.length_take]; omega
        have hk0 := Lib.hid (fun e : k = 0 => (by rw [e, List.take_zero]; exact one_nil : Bd.sDone (Bd.sInt (s.take k, false)).2 = 3 ∧ Bd.sDone (Bd.sText 4096 (s.take k, false)).2 = 3))
        generalize s.take k = t at *
        go_wp2_with fail
        refine (new_any t _).mono ?_
        rintro e w4 ⟨rfl, rfl⟩
        have B5 : Hid (Below w.heap.size w (wr.alloc (.cells #[.string ⟨t.toArray⟩, .bool false] 53))) := HB.out.alloc HB.out.size _
        have R5 := Lib.hid (Rd.new t wr)
        have hp := HB.out.size
        generalize wr.alloc (.cells #[.string ⟨t.toArray⟩, .bool false] 53) = w5 at *
        generalize wr.heap.size = p at *
        clear HB
        go_wp2_with fail
        refine (int_any _ _ _ R5.out (by simp only; omega) (HW.out.below B5.out)).mono ?_
        rintro e w6 ⟨rfl, h6⟩
        have B6 := Lib.hid (h6.bel B5.out hp)
        have R6 := Lib.hid h6.1
        clear h6 B5 R5
        go_wp2_with fail
        refine (new_any t _).mono ?_
        rintro e w4 ⟨rfl, rfl⟩
        have B7 : Hid (Below w.heap.size w (w6.alloc (.cells #[.string ⟨t.toArray⟩, .bool false] 53))) := B6.out.alloc B6.out.size _
        have R7 := Lib.hid (Rd.new t w6)
        have R7' : Hid (Rd (w6.alloc (.cells #[.string ⟨t.toArray⟩, .bool false] 53)) p (Bd.sInt (t, false)).2) := R6.out.keep (S := fun _ => False) (Keeps.alloc _ _ _) id
        have hp2 := B6.out.size
        have hpp := R6.out.lt
        generalize w6.alloc (.cells #[.string ⟨t.toArray⟩, .bool false] 53) = w7 at *
        generalize w6.heap.size = p2 at *
        clear B6 R6
        go_wp2_with fail
        refine (text_any _ _ _ _ R7.out (by simp only; omega) (HW.out.below B7.out)).mono ?_
        rintro e w8 ⟨rfl, h8⟩
        have B8 := Lib.hid (h8.bel B7.out hp2)
        have R8 := Lib.hid h8.1
        have R8' := Lib.hid (R7'.out.keep h8.2 (by omega))
        clear h8 B7 R7 R7'
        go_wp2_with fail
        rcases hc.out with ⟨n, hn, e1, e2, e3⟩ | ⟨x, hx, e1, e2, e3⟩ | ⟨e1, e2⟩
        · have heq : (Bd.bInt n == t) = true := by rw [e1]; simp
          have hk1 : ((k : Int) == 0) = false := by
            refine beq_eq_false_iff_ne.2 (fun e => ?_)
            have := hk0.out (by omega)
            rw [e2] at this
            exact absurd this.1 (by simp [Bd.sDone])
          have hin := Lib.hid hn
          rw [e2] at R8' ⊢
          rw [e3] at R8
          have r1 : Two w p ([], false) p2 (t, true) w8 := ⟨R8'.out, R8.out, B8.out⟩
          clear e1 e2 e3 hc hk0 R8 R8' B8 hn
          generalize (Bd.sText 4096 (t, false)).1 = tx
          dsimp only
          refine wp_region_class (Two w p ([], false) p2 (t, true)) (by kernel_rfl) (by kernel_rfl) r1.drew ?_
          repeat (go_big_quiet_step ((exact fun _ => rfl)))
          go_big_quiet_step ((intro hC; refine (done_is _ _ 0 rfl _ hC.one).mono ?_; rintro e w' ⟨rfl, rfl⟩; exact ⟨rfl, hC⟩))
          repeat (go_big_quiet_step ((exact fun _ => rfl)))
          go_big_quiet_step ((intro hC; refine (beadInt_any n hin.out _ (HW.out.below hC.bel)).mono ?_; rintro e w' ⟨rfl, hb⟩; exact ⟨rfl, hC.below hb⟩))
          repeat (go_big_quiet_step ((exact fun _ => rfl)))
          go_big_quiet_step ((intro hC; refine (done_is _ _ 3 rfl _ hC.two).mono ?_; rintro e w' ⟨rfl, rfl⟩; exact ⟨rfl, hC⟩))
          repeat (go_big_quiet_step ((exact fun _ => rfl)))
          go_big_quiet_step ((intro hC; refine (done_is _ _ 0 rfl _ hC.one).mono ?_; rintro e w' ⟨rfl, rfl⟩; exact ⟨rfl, hC⟩))
          repeat (go_big_quiet_step ((exact fun _ => rfl)))
          go_big_quiet_step ((intro hC; refine (done_is _ _ 3 rfl _ hC.two).mono ?_; rintro e w' ⟨rfl, rfl⟩; exact ⟨rfl, hC⟩))
          repeat (go_big_quiet_step ((exact fun _ => rfl)))
          refine wpQuiet_nil ?_
          intro w9 hC9
          have B9 := Lib.hid hC9.bel
          clear hC9 r1
          go_wp2
          go_roundw
          case rel => exact ⟨k + 1, by go_num, by omega, B9.out⟩
          case measure => simp [intOf]; omega
        · have heq : (Bd.bText x == t) = true := by rw [e1]; simp
          have hk1 : ((k : Int) == 0) = false := by
            refine beq_eq_false_iff_ne.2 (fun e => ?_)
            have := hk0.out (by omega)
            rw [e2] at this
            exact absurd this.2 (by simp [Bd.sDone])
          rw [e3] at R8'
          rw [e2] at R8 ⊢
          have r1 : Two w p (t, true) p2 ([], false) w8 := ⟨R8'.out, R8.out, B8.out⟩
          clear e1 e2 e3 hc hk0 R8 R8' B8
          generalize (Bd.sInt (t, false)).1 = tn
          dsimp only
          refine wp_region_class (Two w p (t, true) p2 ([], false)) (by kernel_rfl) (by kernel_rfl) r1.drew ?_
          repeat (go_big_quiet_step ((exact fun _ => rfl)))
          go_big_quiet_step ((intro hC; refine (done_is _ _ 3 rfl _ hC.one).mono ?_; rintro e w' ⟨rfl, rfl⟩; exact ⟨rfl, hC⟩))
          repeat (go_big_quiet_step ((exact fun _ => rfl)))
          go_big_quiet_step ((intro hC; refine (done_is _ _ 0 rfl _ hC.two).mono ?_; rintro e w' ⟨rfl, rfl⟩; exact ⟨rfl, hC⟩))
          repeat (go_big_quiet_step ((exact fun _ => rfl)))
          go_big_quiet_step ((intro hC; refine (beadText_any x (by omega) _ (HW.out.below hC.bel)).mono ?_; rintro e w' ⟨rfl, hb⟩; exact ⟨rfl, hC.below hb⟩))
          repeat (go_big_quiet_step ((exact fun _ => rfl)))
          go_big_quiet_step ((intro hC; refine (done_is _ _ 3 rfl _ hC.one).mono ?_; rintro e w' ⟨rfl, rfl⟩; exact ⟨rfl, hC⟩))
          repeat (go_big_quiet_step ((exact fun _ => rfl)))
          refine wpQuiet_nil ?_
          intro w9 hC9
          have B9 := Lib.hid hC9.bel
          clear hC9 r1
          go_wp2
          go_roundw
          case rel => exact ⟨k + 1, by go_num, by omega, B9.out⟩
          case measure => simp [intOf]; omega
        · have r1 : Two w p (Bd.sInt (t, false)).2 p2 (Bd.sText 4096 (t, false)).2 w8 := ⟨R8'.out, R8.out, B8.out⟩
          have E1 := Lib.hid e1
          have E2 := Lib.hid e2
          clear e1 e2 hc hk0 R8 R8' B8
          generalize (Bd.sText 4096 (t, false)).1 = tx
          generalize (Bd.sInt (t, false)).1 = tn
          generalize (Bd.sText 4096 (t, false)).2 = qx at *
          generalize (Bd.sInt (t, false)).2 = qn at *
          refine wp_region_class (Two w p qn p2 qx) (by kernel_rfl) (by kernel_rfl) r1.drew ?_
          repeat (go_big_quiet_step ((exact fun _ => rfl)))
          go_big_quiet_step ((intro hC; refine (done_is _ _ 3 E1.out _ hC.one).mono ?_; rintro e w' ⟨rfl, rfl⟩; exact ⟨rfl, hC⟩))
          repeat (go_big_quiet_step ((exact fun _ => rfl)))
          go_big_quiet_step ((intro hC; refine (done_is _ _ 3 E2.out _ hC.two).mono ?_; rintro e w' ⟨rfl, rfl⟩; exact ⟨rfl, hC⟩))
          repeat (go_big_quiet_step ((exact fun _ => rfl)))
          go_big_quiet_step ((intro hC; refine (done_is _ _ 3 E1.out _ hC.one).mono ?_; rintro e w' ⟨rfl, rfl⟩; exact ⟨rfl, hC⟩))
          repeat (go_big_quiet_step ((exact fun _ => rfl)))
          refine wpQuiet_nil ?_
          intro w9 hC9
          have B9 := Lib.hid hC9.bel
          have C9 := Lib.hid hC9
          clear hC9 r1
          by_cases hk1 : k = 0
          · subst hk1
            go_wp2_with fail
            refine (done_is _ _ 3 E1.out _ C9.out.one).mono ?_
            rintro e w10 ⟨rfl, rfl⟩
            go_wp2_with fail
            refine (done_is _ _ 3 E2.out _ C9.out.two).mono ?_
            rintro e w10 ⟨rfl, rfl⟩
            go_wp2
            go_roundw
            case rel => exact ⟨0 + 1, by go_num, by omega, B9.out⟩
            case measure => simp [intOf]
          · have hk2 : ((k : Int) == 0) = false := beq_eq_false_iff_ne.2 (by omega)
            go_wp2
            go_roundw
            case rel => exact ⟨k + 1, by go_num, by omega, B9.out⟩
            case measure => simp [intOf]; omega
      · obtain rfl : k = s.length + 1 := by omega
        go_wp2
        go_ret
        exact ⟨rfl, HB.out⟩
  · go_enter Tryd.func6, Tryd.ntmps6
    go_wp2_with fail
    refine (awake_any _ HW.out).mono ?_
    rintro e w1 ⟨rfl, hb1⟩
    have B1 := Lib.hid hb1
    clear hb1
    go_wp2
    go_ret
    exact ⟨rfl, B1.out⟩

end Go.Proofs.YtikngajopmogcaaDoor
