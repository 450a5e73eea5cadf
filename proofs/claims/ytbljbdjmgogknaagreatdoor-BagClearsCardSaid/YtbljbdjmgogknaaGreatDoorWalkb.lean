/-
  The walks of Put and Next, the program's and the reference's.
  Conditions: texts of at most the model's longest length (Next), a bound that leaves room for the frame (Put).
-/
import Derived.Test.YtbljbdjmgogknaaGreatDoorWalka
import Derived.Test.YtbljbdjmgogknaaGreatDoorFrm
import Derived.Deep.RegionWith
set_option linter.unusedVariables false
set_option linter.unusedSimpArgs false
namespace Go.Proofs.YtbljbdjmgogknaaGreatDoor
open Go.RowKit

attribute [local go_sem] Crc.four_length
theorem ne_no {a b : BitVec 32} (h : a = b) : ((a.toNat : Int) != (b.toNat : Int)) = false := by rw [h]; simp
theorem ne_yes {a b : BitVec 32} (h : a ≠ b) : ((a.toNat : Int) != (b.toNat : Int)) = true := by
  rw [bne_iff_ne]
  intro e
  exact h (BitVec.eq_of_toNat_eq (by omega))

theorem four_int (n : Int) (w : World) (h0 : 0 ≤ n) (h1 : n < 4294967296) :
    Calls Tryz.prog 77 #[.int .u32 n] w fun e w' => e = .returned (.string ⟨(Crc.four (BitVec.ofNat 32 n.toNat)).toArray⟩) ∧ Below w.heap.size w w' := by
  have e : n = ((BitVec.ofNat 32 n.toNat).toNat : Int) := by rw [BitVec.toNat_ofNat]; omega
  have h := four_any (BitVec.ofNat 32 n.toNat) w
  rwa [← e] at h
set_option maxHeartbeats 400000 in
theorem put_any (l : List UInt8) (w : World) (hs : l.length ≤ 16384) :
    Calls Tryz.prog 45 #[.string ⟨l.toArray⟩] w fun e w' => e = .returned (.tuple #[.string ⟨(Frm.put l).toArray⟩, .int .i64 0]) ∧ Below w.heap.size w w' := by
  go_enter Tryz.func45, Tryz.ntmps45
  go_wp2_with fail
  refine (four_int _ _ (by omega) (by omega)).mono ?_
  rintro e w1 ⟨rfl, hb1⟩
  have HB1 := Lib.hid hb1
  clear hb1
  go_wp2_with fail
  refine (sum_any _ _ (by unfold maxLen; omega)).mono ?_
  rintro e w2 ⟨rfl, hb2⟩
  have HB2 := Lib.hid hb2
  clear hb2
  go_wp2_with fail
  refine (four_any _ _).mono ?_
  rintro e w3 ⟨rfl, hb3⟩
  have HB3 := Lib.hid hb3
  clear hb3
  go_wp2
  go_ret2
  exact ⟨rfl, bt (bt HB1.out HB2.out) HB3.out⟩

set_option maxHeartbeats 400000 in
theorem put_long (l : List UInt8) (w : World) (hs : 16384 < l.length) (hm : l.length ≤ maxLen) :
    Calls Tryz.prog 45 #[.string ⟨l.toArray⟩] w fun e w' => e = .returned (.tuple #[.string ⟨#[]⟩, .int .i64 4]) ∧ w = w' := by
  unfold maxLen at hm
  go_enter Tryz.func45, Tryz.ntmps45
  go_wp2
  go_ret2
  exact ⟨rfl, rfl⟩

/-- Next: the place lies outside. -/
theorem next_arg (l : List UInt8) (k : Int) (w : World) (h : k < 0 ∨ (l.length : Int) < k) (hm : l.length ≤ maxLen) :
    Calls Tryz.prog 56 #[.string ⟨l.toArray⟩, .int .i64 k] w fun e w' => e = .returned (.tuple #[.string ⟨#[]⟩, .int .i64 0, .int .i64 1]) ∧ w = w' := by
  unfold maxLen at hm
  by_cases h0 : k < 0
  · go_enter Tryz.func56, Tryz.ntmps56
    go_wp2
    go_ret3
    exact ⟨rfl, rfl⟩
  · have h1 : (l.length : Int) < k := by omega
    clear h
    go_enter Tryz.func56, Tryz.ntmps56
    go_wp2
    go_ret3
    exact ⟨rfl, rfl⟩
set_option maxHeartbeats 400000 in
theorem next_short (l : List UInt8) (k : Nat) (w : World) (h : k ≤ l.length) (h8 : l.length - k < 8) (hm : l.length ≤ maxLen) :
    Calls Tryz.prog 56 #[.string ⟨l.toArray⟩, .int .i64 k] w fun e w' => e = .returned (.tuple #[.string ⟨#[]⟩, .int .i64 0, .int .i64 5]) ∧ w = w' := by
  unfold maxLen at hm
  have hs := str_from (P := Tryz.prog) l k k rfl h 9 .i64 Tryz.underlying9
  have hl : (l.drop k).length < 8 := by simp; omega
  generalize l.drop k = r at hs hl
  go_enter Tryz.func56, Tryz.ntmps56
  go_wp2
  go_ret3
  exact ⟨rfl, rfl⟩
set_option maxHeartbeats 400000 in
theorem next_rest (l : List UInt8) (k : Nat) (w : World) (h : k ≤ l.length) (h8 : 8 ≤ l.length - k) (hm : l.length ≤ maxLen) :
    Calls Tryz.prog 56 #[.string ⟨l.toArray⟩, .int .i64 k] w fun e w' => e = .returned (.tuple #[.string ⟨(Frm.next l k).1.toArray⟩, .int .i64 (Frm.next l k).2.1, .int .i64 (Frm.next l k).2.2]) ∧ Below w.heap.size w w' := by
  unfold maxLen at hm
  have hs := str_from (P := Tryz.prog) l k k rfl h 9 .i64 Tryz.underlying9
  have hl : 8 ≤ (l.drop k).length := by simp; omega
  have hl2 : (l.drop k).length + k ≤ 9223372036854775807 := by simp; omega
  have H1 := Lib.hid (@Frm.next_long l k h h8)
  have H2 := Lib.hid (@Frm.next_short2 l k h h8)
  have H3 := Lib.hid (@Frm.next_sum l k h h8)
  have H4 := Lib.hid (@Frm.next_ok l k h h8)
  have hlen : l.length - k - 8 = (l.drop k).length - 8 := by simp
  rw [hlen] at H2 H3 H4
  clear hlen
  generalize l.drop k = r at hs hl hl2 H1 H2 H3 H4
  generalize Frm.next l k = q at H1 H2 H3 H4
  obtain ⟨q1, q2, q3⟩ := q
  have hn := (Crc.num r).isLt
  go_enter Tryz.func56, Tryz.ntmps56
  go_wp2_with fail
  refine (number_any _ _ (by omega) (by unfold maxLen; omega)).mono ?_
  rintro e w1 ⟨rfl, rfl⟩
  by_cases c1 : 16384 < (Crc.num r).toNat
  · have e1 := H1.out c1
    injection e1 with e1 e2
    injection e2 with e2 e3
    subst e1 e2 e3
    go_wp2
    go_ret3
    exact ⟨rfl, Below.refl _ _⟩
  · by_cases c2 : r.length - 8 < (Crc.num r).toNat
    · have e1 := H2.out (by omega) c2
      injection e1 with e1 e2
      injection e2 with e2 e3
      subst e1 e2 e3
      go_wp2
      go_ret3
      exact ⟨rfl, Below.refl _ _⟩
    · have hc := str_cut (P := Tryz.prog) r 8 (8 + (Crc.num r).toNat) 8 (8 + (Crc.num r).toNat) .i64 .u32 rfl (by omega) (by omega) (by omega) 9 Tryz.underlying9
      have h4 := str_from (P := Tryz.prog) r 4 4 rfl (by omega) 9 .i64 Tryz.underlying9
      have hb : ((r.take (8 + (Crc.num r).toNat)).drop 8).length ≤ 16384 := by simp; omega
      have h4l : 4 ≤ (r.drop 4).length := by simp; omega
      have h4m : (r.drop 4).length ≤ 9223372036854775807 := by simp; omega
      generalize (r.take (8 + (Crc.num r).toNat)).drop 8 = b at hc hb H3 H4
      generalize r.drop 4 = r4 at h4 h4l h4m H3 H4
      by_cases c3 : Crc.sum b = Crc.num r4
      · have e1 := H4.out (by omega) (by omega) c3
        injection e1 with e1 e2
        injection e2 with e2 e3
        subst e1 e2 e3
        have ht := ne_no c3
        clear hn c3
        go_wp2_with fail
        go_region_with (first | (go_at_call 78; refine (sum_any _ _ (by unfold maxLen; omega)).mono ?_; rintro e w2 ⟨rfl, hb2⟩) | (go_at_call 90; refine (number_any _ _ h4l (by unfold maxLen; omega)).mono ?_; rintro e w3 ⟨rfl, rfl⟩))
        all_goals
          have HB2 := Lib.hid hb2
          clear hb2
          go_wp2
          go_ret3
          exact ⟨rfl, bd HB2.out⟩
      · have e1 := H3.out (by omega) (by omega) c3
        injection e1 with e1 e2
        injection e2 with e2 e3
        subst e1 e2 e3
        have ht := ne_yes c3
        clear hn c3
        go_wp2_with fail
        go_region_with (first | (go_at_call 78; refine (sum_any _ _ (by unfold maxLen; omega)).mono ?_; rintro e w2 ⟨rfl, hb2⟩) | (go_at_call 90; refine (number_any _ _ h4l (by unfold maxLen; omega)).mono ?_; rintro e w3 ⟨rfl, rfl⟩))
        all_goals
          have HB2 := Lib.hid hb2
          clear hb2
          go_wp2
          go_ret3
          exact ⟨rfl, bd HB2.out⟩

/-- Next, whatever the place. -/
theorem next_any (l : List UInt8) (k : Int) (w : World) (hm : l.length ≤ maxLen) :
    Calls Tryz.prog 56 #[.string ⟨l.toArray⟩, .int .i64 k] w fun e w' => e = .returned (.tuple #[.string ⟨(Frm.next l k).1.toArray⟩, .int .i64 (Frm.next l k).2.1, .int .i64 (Frm.next l k).2.2]) ∧ Below w.heap.size w w' := by
  by_cases h : k < 0 ∨ (l.length : Int) < k
  · rw [Frm.next_arg h]
    exact (next_arg l k w h hm).mono fun e w' ⟨he, hw⟩ => ⟨he, hw ▸ Below.refl _ _⟩
  · obtain ⟨n, rfl⟩ := Int.eq_ofNat_of_zero_le (show 0 ≤ k by omega)
    by_cases h8 : l.length - n < 8
    · rw [Frm.next_short (by omega) h8]
      exact (next_short l n w (by omega) h8 hm).mono fun e w' ⟨he, hw⟩ => ⟨he, hw ▸ Below.refl _ _⟩
    · exact next_rest l n w (by omega) (by omega) hm

/- The reference's. -/
end Go.Proofs.YtbljbdjmgogknaaGreatDoor
