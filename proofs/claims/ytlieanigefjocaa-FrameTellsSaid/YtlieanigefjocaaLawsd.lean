/-
  The walk of FrameTells: it returns true and leaves old memory as it was.
  Conditions: none but the model's longest length.
-/
import Derived.Test.YtlieanigefjocaaLawsb
import Derived.Test.YtlieanigefjocaaFrma
import Derived.Test.YtlieanigefjocaaApp
set_option linter.unusedVariables false
set_option linter.unusedSimpArgs false
namespace Go.Proofs.Ytlieanigefjocaa
open Go.RowKit

/-- What the changed bytes are. -/
theorem tells_form (a b : List UInt8) (j : Nat) (hj : j + 4 ≤ b.length) (c0 c1 c2 c3 : UInt8) :
    (Frm.put a ++ Frm.put b).take ((Frm.put a).length + 8 + j) ++ [c0, c1, c2, c3] ++ (Frm.put a ++ Frm.put b).drop ((Frm.put a).length + 8 + j + 4) =
      Frm.put a ++ (Crc.four (BitVec.ofNat 32 b.length) ++ (Crc.four (Crc.sum b) ++ (b.take j ++ [c0, c1, c2, c3] ++ b.drop (j + 4)))) := by
  have e1 : (Frm.put a ++ Frm.put b).take ((Frm.put a).length + 8 + j) = Frm.put a ++ (Frm.put b).take (8 + j) := by
    rw [Nat.add_assoc, List.take_length_add_append]
  have e2 : (Frm.put a ++ Frm.put b).drop ((Frm.put a).length + 8 + j + 4) = (Frm.put b).drop (8 + (j + 4)) := by
    rw [show (Frm.put a).length + 8 + j + 4 = (Frm.put a).length + (8 + (j + 4)) by omega, List.drop_append, List.drop_eq_nil_of_le (by omega)]
    simp
  have hp : Frm.put b = (Crc.four (BitVec.ofNat 32 b.length) ++ Crc.four (Crc.sum b)) ++ b := by rw [Frm.put, List.append_assoc]
  have h8 : (Crc.four (BitVec.ofNat 32 b.length) ++ Crc.four (Crc.sum b)).length = 8 := by simp [Crc.four_length]
  have e3 : (Frm.put b).take (8 + j) = (Crc.four (BitVec.ofNat 32 b.length) ++ Crc.four (Crc.sum b)) ++ b.take j := by
    rw [hp, ← h8, List.take_length_add_append]
  have e4 : (Frm.put b).drop (8 + (j + 4)) = b.drop (j + 4) := by
    rw [hp, List.drop_append, List.drop_eq_nil_of_le (by omega), h8]
    simp
  rw [e1, e2, e3, e4]
  simp [List.append_assoc]

theorem scan_nil : Frm.scan [] = ([], 0) := by
  apply Frm.scan_end
  rw [Frm.next_short (l := []) (k := 0) (by simp) (by simp)]; decide
/-- What is found in the changed bytes. -/
theorem tells_facts (a b : List UInt8) (j : Nat) (hj : j + 4 ≤ b.length) (ha : a.length ≤ 4096) (hb : b.length ≤ 4096) (c0 c1 c2 c3 : UInt8) :
    let T := Frm.put a ++ (Crc.four (BitVec.ofNat 32 b.length) ++ (Crc.four (Crc.sum b) ++ (b.take j ++ [c0, c1, c2, c3] ++ b.drop (j + 4))))
    (Frm.put a ++ Frm.put b = T → (Frm.next T ((Frm.put a).length : Int)).2.2 = 0 ∧ (Frm.scan T).1.length = 2) ∧
    (¬ Frm.put a ++ Frm.put b = T → Frm.next T ((Frm.put a).length : Int) = ([], 0, 6) ∧ Frm.scan T = ([a], (Frm.put a).length)) := by
  intro T
  constructor
  · intro h
    rw [← h]
    constructor
    · have h1 := Frm.next_shift (Frm.put a) (Frm.put b ++ []) 0
      rw [Frm.next_put b [] (by omega)] at h1
      simp only [List.append_nil, Nat.add_zero] at h1
      rw [h1]
    · rw [Frm.scan_put a _ (by omega)]
      have := Frm.scan_put b [] (by omega)
      rw [List.append_nil, scan_nil] at this
      rw [this]
      rfl
  · intro h
    have hne : Crc.sum (b.take j ++ [c0, c1, c2, c3] ++ b.drop (j + 4)) ≠ Crc.sum b := by
      intro hs
      apply h
      obtain ⟨d0, d1, d2, d3, hd⟩ : ∃ d0 d1 d2 d3, b = b.take j ++ [d0, d1, d2, d3] ++ b.drop (j + 4) := by
        have hlen : ((b.drop j).take 4).length = 4 := by rw [List.length_take, List.length_drop]; omega
        match hx : (b.drop j).take 4, hlen with
        | [d0, d1, d2, d3], _ =>
          refine ⟨d0, d1, d2, d3, ?_⟩
          rw [← hx, List.append_assoc, show b.drop (j + 4) = (b.drop j).drop 4 by rw [List.drop_drop], List.take_append_drop, List.take_append_drop]
      have h2 := Crc.sum_tells (b.take j) (b.drop (j + 4)) (hs.trans (congrArg Crc.sum hd))
      show Frm.put a ++ Frm.put b = Frm.put a ++ (Crc.four (BitVec.ofNat 32 b.length) ++ (Crc.four (Crc.sum b) ++ (b.take j ++ [c0, c1, c2, c3] ++ b.drop (j + 4))))
      rw [h2, ← hd]
      rfl
    have hlen : (b.take j ++ [c0, c1, c2, c3] ++ b.drop (j + 4)).length = b.length := by simp; omega
    have h1 := Frm.next_changed (Frm.put a) b _ (by omega) hlen hne
    refine ⟨h1, ?_⟩
    have h3 : Frm.scan (Crc.four (BitVec.ofNat 32 b.length) ++ (Crc.four (Crc.sum b) ++ (b.take j ++ [c0, c1, c2, c3] ++ b.drop (j + 4)))) = ([], 0) := by
      apply Frm.scan_end
      have := Frm.next_changed [] b _ (by omega) hlen hne
      simp only [List.nil_append, List.length_nil] at this
      rw [this]
      decide
    show Frm.scan (Frm.put a ++ _) = _
    rw [Frm.scan_put a _ (by omega), h3]
    rfl

set_option maxHeartbeats 400000 in
theorem tells_walk (a b : List UInt8) (p : Int) (c0 c1 c2 c3 : UInt8) (w : World) (hs : a.length ≤ maxLen) (ht : b.length ≤ maxLen) :
    Calls Try.prog 6 #[.string ⟨a.toArray⟩, .string ⟨b.toArray⟩, .agg #[.int .i64 p, .int .u8 c0.toNat, .int .u8 c1.toNat, .int .u8 c2.toNat, .int .u8 c3.toNat]] w fun e w' => e = .returned (.bool true) ∧ Below w.heap.size w w' := by
  by_cases hl : a.length ≤ 4096 ∧ b.length ≤ 4096 ∧ 4 ≤ b.length
  · obtain ⟨hl1, hl2, hl3⟩ := hl
    have HL1 := Lib.hid (Frm.put_length a)
    have HL2 := Lib.hid (Frm.put_length b)
    have hla : (Frm.put a).length ≤ 4104 := by rw [HL1.out]; omega
    have hlb : (Frm.put b).length ≤ 4104 := by rw [HL2.out]; omega
    obtain ⟨j, hj, hjm⟩ := uint_rem p ((b.length : Int) - 3) (by omega) (by omega)
    go_enter Try.func6, Try.ntmps6
    go_wp2_with fail
    refine (awake_any _).mono ?_
    rintro e w1 ⟨rfl, hb1⟩
    have HB1 := Lib.hid hb1
    clear hb1
    go_wp2_with fail
    refine (put_any _ _ (by omega)).mono ?_
    rintro e w2 ⟨rfl, hb2⟩
    have HB2 := Lib.hid (bt HB1.out hb2)
    clear hb2
    go_wp2_with fail
    refine (put_any _ _ (by omega)).mono ?_
    rintro e w3 ⟨rfl, hb3⟩
    have HB3 := Lib.hid (bt HB2.out hb3)
    clear hb3
    have k0 : w3.cell? ⟨w.heap.size, 0, none⟩ = some (.int .i64 p) := by rw [HB3.out.cell (by simp)]; simp [go_sem]
    have k1 : w3.cell? ⟨w.heap.size, 1, none⟩ = some (.int .u8 c0.toNat) := by rw [HB3.out.cell (by simp)]; simp [go_sem]
    have k2 : w3.cell? ⟨w.heap.size, 2, none⟩ = some (.int .u8 c1.toNat) := by rw [HB3.out.cell (by simp)]; simp [go_sem]
    have k3 : w3.cell? ⟨w.heap.size, 3, none⟩ = some (.int .u8 c2.toNat) := by rw [HB3.out.cell (by simp)]; simp [go_sem]
    have k4 : w3.cell? ⟨w.heap.size, 4, none⟩ = some (.int .u8 c3.toNat) := by rw [HB3.out.cell (by simp)]; simp [go_sem]
    have hk : (((Frm.put a).length : Int) + 8 + (j : Int)) = (((Frm.put a).length + 8 + j : Nat) : Int) := by omega
    have hk4 : (((Frm.put a).length : Int) + 8 + (j : Int) + 4) = (((Frm.put a).length + 8 + j + 4 : Nat) : Int) := by omega
    have hle : (Frm.put a).length + 8 + j + 4 ≤ (Frm.put a ++ Frm.put b).length := by rw [List.length_append, HL2.out]; omega
    have hc1 := str_to (P := Try.prog) (Frm.put a ++ Frm.put b) ((Frm.put a).length + 8 + j) (((Frm.put a).length : Int) + 8 + (j : Int)) .i64 hk (by omega) 9 Try.underlying9
    have hc2 := str_from (P := Try.prog) (Frm.put a ++ Frm.put b) ((Frm.put a).length + 8 + j + 4) (((Frm.put a).length : Int) + 8 + (j : Int) + 4) hk4 (by omega) 9 .i64 Try.underlying9
    have hw4 := IntWalk.i64_in (((Frm.put a).length : Int) + 8 + (j : Int) + 4) (by omega)
    have hP : ((Frm.put a ++ Frm.put b).take ((Frm.put a).length + 8 + j)).length ≤ 8208 := by rw [List.length_take, List.length_append]; omega
    have hQ : ((Frm.put a ++ Frm.put b).drop ((Frm.put a).length + 8 + j + 4)).length ≤ 8208 := by rw [List.length_drop, List.length_append]; omega
    have hform := Lib.hid (tells_form a b j (by omega) c0 c1 c2 c3)
    generalize (Frm.put a ++ Frm.put b).take ((Frm.put a).length + 8 + j) = P at hc1 hP hform
    generalize (Frm.put a ++ Frm.put b).drop ((Frm.put a).length + 8 + j + 4) = Q at hc2 hQ hform
    clear hk hk4 hle
    go_wp2_with fail
    have hconv := fun n => run_convert_bytes_arg (P := Try.prog) (w3.drewN n) 42 5 Try.underlying42 Try.underlying5 w.heap.size 1 4 4 [c0.toNat, c1.toNat, c2.toNat, c3.toNat] rfl
      (fun i hi => by match i, hi with | 0, _ => simpa using k1 | 1, _ => simpa using k2 | 2, _ => simpa using k3 | 3, _ => simpa using k4) 9 Try.underlying9
    have hnum : strOfNums [(c0.toNat : Int), c1.toNat, c2.toNat, c3.toNat] = ⟨[c0, c1, c2, c3].toArray⟩ := by simp [strOfNums]
    rw [hnum] at hconv
    clear hnum k1 k2 k3 k4 k0
    go_quiet (fail)
    go_wp2_with fail
    have hT : Hid (P ++ c0 :: c1 :: c2 :: c3 :: Q = Frm.put a ++ (Crc.four (BitVec.ofNat 32 b.length) ++ (Crc.four (Crc.sum b) ++ (b.take j ++ [c0, c1, c2, c3] ++ b.drop (j + 4))))) := by
      have := hform.out
      show (_ : List UInt8) = _
      simpa [List.append_assoc] using this
    have hTl : (P ++ c0 :: c1 :: c2 :: c3 :: Q).length ≤ 20000 := by simp; omega
    have hfacts := Lib.hid (tells_facts a b j (by omega) (by omega) (by omega) c0 c1 c2 c3)
    rw [← hT.out] at hfacts
    generalize P ++ c0 :: c1 :: c2 :: c3 :: Q = T at hTl hfacts
    generalize Frm.put a ++ Frm.put b = S at hfacts
    have hal : Hid (a.length ≤ 4096) := hl1
    clear hform hT hconv hc1 hc2 hP hQ hw4 hjm hj
    refine (next_any _ _ _ (by unfold maxLen; omega)).mono ?_
    rintro e w4 ⟨rfl, hb4⟩
    have HB4 := Lib.hid (bt HB3.out (bdn hb4))
    clear hb4
    go_wp2_with fail
    refine (scan_any _ _ (by omega)).mono ?_
    rintro e w5 ⟨v5, rfl, hown5, hb5⟩
    have HB5 := Lib.hid (bt HB4.out hb5)
    have HO5 := Lib.hid hown5
    clear hb5 hown5
    by_cases hst : S = T
    · obtain ⟨f1, f2⟩ := hfacts.out.1 hst
      subst hst
      obtain ⟨a5, cap5, hv5⟩ := HO5.out.form
      rw [f2] at hv5
      subst hv5
      rw [f1]
      clear f1 f2
      go_wp2
      go_ret
      exact ⟨rfl, (((Below.refl _ _).alloc (Nat.le_refl _) _)).trans (HB5.out.mono (by simp))⟩
    · have hst' : (S == T) = false := by simpa using hst
      obtain ⟨f1, f2⟩ := hfacts.out.2 hst
      have HF := Lib.hid f2
      rw [f1]
      rw [HF.out] at HO5 ⊢
      clear hst f1 f2
      have hT2 : Hid (Txts (w5.alloc (.cells #[.string ⟨a.toArray⟩] 9)) (.slice (some ⟨w5.heap.size, 0, none⟩) 1 1) [a]) :=
        ⟨_, 1, rfl, fun i hi => ⟨_, _, rfl, by simp, by have : i = 0 := by simp at hi; exact hi
                                                        subst this; simp [go_sem]⟩⟩
      have hT1 : Hid (Txts (w5.alloc (.cells #[.string ⟨a.toArray⟩] 9)) v5 [a]) := (HO5.out.kept ((Below.refl _ _).alloc (Nat.le_refl _) _)).txts
      go_wp2_with fail
      refine (same_any _ _ _ _ _ hT1.out hT2.out (by simp [maxLen]) (by simp [maxLen])).mono ?_
      rintro e w6 ⟨rfl, n6, rfl⟩
      rw [decide_eq_true rfl]
      go_wp2
      go_ret
      exact ⟨rfl, below_drewN ((((Below.refl _ _).alloc (Nat.le_refl _) _).trans (HB5.out.mono (by simp))).alloc (by have := HB5.out.size; simp at this; omega) _) _⟩
  · have hl' : 4096 < a.length ∨ 4096 < b.length ∨ b.length < 4 := by omega
    clear hl
    unfold maxLen at hs ht
    rcases hl' with h | h | h
    · go_enter Try.func6, Try.ntmps6
      go_wp2_with fail
      refine (awake_any _).mono ?_
      rintro e w1 ⟨rfl, hb1⟩
      have HB1 := Lib.hid hb1
      clear hb1
      go_wp2
      go_ret
      exact ⟨rfl, (((Below.refl _ _).alloc (Nat.le_refl _) _)).trans (HB1.out.mono (by simp))⟩
    · by_cases h0 : 4096 < a.length
      · go_enter Try.func6, Try.ntmps6
        go_wp2_with fail
        refine (awake_any _).mono ?_
        rintro e w1 ⟨rfl, hb1⟩
        have HB1 := Lib.hid hb1
        clear hb1
        go_wp2
        go_ret
        exact ⟨rfl, (((Below.refl _ _).alloc (Nat.le_refl _) _)).trans (HB1.out.mono (by simp))⟩
      · go_enter Try.func6, Try.ntmps6
        go_wp2_with fail
        refine (awake_any _).mono ?_
        rintro e w1 ⟨rfl, hb1⟩
        have HB1 := Lib.hid hb1
        clear hb1
        go_wp2
        go_ret
        exact ⟨rfl, (((Below.refl _ _).alloc (Nat.le_refl _) _)).trans (HB1.out.mono (by simp))⟩
    · by_cases h0 : 4096 < a.length
      · go_enter Try.func6, Try.ntmps6
        go_wp2_with fail
        refine (awake_any _).mono ?_
        rintro e w1 ⟨rfl, hb1⟩
        have HB1 := Lib.hid hb1
        clear hb1
        go_wp2
        go_ret
        exact ⟨rfl, (((Below.refl _ _).alloc (Nat.le_refl _) _)).trans (HB1.out.mono (by simp))⟩
      · go_enter Try.func6, Try.ntmps6
        go_wp2_with fail
        refine (awake_any _).mono ?_
        rintro e w1 ⟨rfl, hb1⟩
        have HB1 := Lib.hid hb1
        clear hb1
        go_wp2
        go_ret
        exact ⟨rfl, (((Below.refl _ _).alloc (Nat.le_refl _) _)).trans (HB1.out.mono (by simp))⟩

end Go.Proofs.Ytlieanigefjocaa
