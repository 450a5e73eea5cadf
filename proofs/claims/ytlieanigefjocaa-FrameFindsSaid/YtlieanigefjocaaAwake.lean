/-
  The law's awake: the document's examples hold of the program.
  Conditions: none.
-/
import Derived.Test.YtlieanigefjocaaWalkd
set_option linter.unusedVariables false
set_option linter.unusedSimpArgs false
namespace Go.Proofs.Ytlieanigefjocaa
open Go.RowKit

def lit0 : List UInt8 := [0, 0, 0, 0, 0, 0, 0, 0]
def litAb : List UInt8 := [2, 0, 0, 0, 109, 72, 131, 158, 97, 98]
theorem put_nil : Frm.put [] = [0, 0, 0, 0, 0, 0, 0, 0] := by decide +kernel
theorem put_ab : Frm.put [97, 98] = [2, 0, 0, 0, 109, 72, 131, 158, 97, 98] := by decide +kernel
theorem next_ab : Frm.next [0, 0, 0, 0, 0, 0, 0, 0, 2, 0, 0, 0, 109, 72, 131, 158, 97, 98] (8 : Int) = ([97, 98], 18, 0) := by decide +kernel
theorem scan_abx : Frm.scan [0, 0, 0, 0, 0, 0, 0, 0, 2, 0, 0, 0, 109, 72, 131, 158, 97, 98, 120] = ([[], [97, 98]], 18) := by
  have h0 : Frm.next [0, 0, 0, 0, 0, 0, 0, 0, 2, 0, 0, 0, 109, 72, 131, 158, 97, 98, 120] ((0 : Nat) : Int) = ([], 8, 0) := by decide +kernel
  have h1 : Frm.next [0, 0, 0, 0, 0, 0, 0, 0, 2, 0, 0, 0, 109, 72, 131, 158, 97, 98, 120] ((8 : Nat) : Int) = ([97, 98], 18, 0) := by decide +kernel
  have h2 : Frm.next [0, 0, 0, 0, 0, 0, 0, 0, 2, 0, 0, 0, 109, 72, 131, 158, 97, 98, 120] ((18 : Nat) : Int) = ([], 0, 5) := by decide +kernel
  have e2 := Frm.scan_end (l := [0, 0, 0, 0, 0, 0, 0, 0, 2, 0, 0, 0, 109, 72, 131, 158, 97, 98, 120]) (k := 18) (by rw [h2]; decide)
  have e1 := Frm.scan_more (l := [0, 0, 0, 0, 0, 0, 0, 0, 2, 0, 0, 0, 109, 72, 131, 158, 97, 98, 120]) (k := 8) (m := 18) (by rw [h1]) (by rw [h1]; rfl)
  have e0 := Frm.scan_more (l := [0, 0, 0, 0, 0, 0, 0, 0, 2, 0, 0, 0, 109, 72, 131, 158, 97, 98, 120]) (k := 0) (m := 8) (by rw [h0]) (by rw [h0]; rfl)
  rw [Frm.scan, e0, e1, e2, h0, h1]
theorem sum_nine : (Crc.sum [49, 50, 51, 52, 53, 54, 55, 56, 57]).toNat = 3421780262 := by decide +kernel

theorem Strs.txts {w : World} {B : Nat} {v : Value} {ls : List (List UInt8)} (h : Strs w B v ls) : Txts w v ls := by
  obtain ⟨h1, h2⟩ := h
  rcases h2 with ⟨rfl, h0⟩ | ⟨g, cap, cur, rfl, hB, hg, hn, hm, hs, ht⟩
  · have : ls = [] := List.eq_nil_of_length_eq_zero h0
    subst this
    exact ⟨none, 0, rfl, fun i hi => by simp at hi⟩
  · have hlt : g < w.heap.size := (Array.getElem?_eq_some_iff.1 hg).1
    refine ⟨some ⟨g, 0, none⟩, cap, rfl, fun i hi => ⟨g, 0, rfl, hlt, ?_⟩⟩
    have hc := World.ownsRow.cells (g := g) (show w.ownsRow B 9 1 (.slice (some ⟨g, 0, none⟩) ls.length cap) ls.length _ from ⟨h1, .inr ⟨g, cap, cur, rfl, hB, hg, hn, hm, hs, ht⟩⟩) rfl i (.string ⟨(ls.getD i []).toArray⟩) (by simp [List.getD, hi])
    have hadd : (⟨g, 0, none⟩ : Addr).add i = ⟨g, 0 + i, none⟩ := by unfold Addr.add; split <;> simp_all
    rwa [hadd] at hc
theorem Strs.form {w : World} {B : Nat} {v : Value} {ls : List (List UInt8)} (h : Strs w B v ls) : ∃ a cap, v = .slice a ls.length cap :=
  let ⟨a, cap, h, _⟩ := h.txts
  ⟨a, cap, h⟩

theorem scanFrom_length (l : List UInt8) : ∀ n k, l.length - k ≤ n → 8 * (Frm.scanFrom l k).1.length ≤ l.length - k := by
  intro n
  induction n with
  | zero =>
    intro k hk
    by_cases hz : (Frm.next l k).2.2 = 0
    · obtain ⟨h1, h2⟩ := Frm.next_zero hz
      omega
    · rw [Frm.scan_end hz]; simp
  | succ n ih =>
    intro k hk
    by_cases hz : (Frm.next l k).2.2 = 0
    · obtain ⟨h1, h2, h3, h4, h5, h6⟩ := Frm.next_zero hz
      rw [Frm.scan_more (m := k + 8 + (Crc.num (l.drop k)).toNat) hz (by rw [h4]; omega)]
      have := ih (k + 8 + (Crc.num (l.drop k)).toNat) (by omega)
      simp only [List.length_cons]
      omega
    · rw [Frm.scan_end hz]; simp
theorem scan_length (l : List UInt8) : 8 * (Frm.scan l).1.length ≤ l.length := scanFrom_length l l.length 0 (by omega)

set_option maxHeartbeats 800000 in
theorem awake_any (w : World) : Calls Try.prog 10 #[] w fun e w' => e = .returned (.bool true) ∧ Below w.heap.size w w' := by
  go_enter Try.func10, Try.ntmps10
  go_wp2_with fail
  refine (put_any [] _ (by simp)).mono ?_
  rintro e w1 ⟨rfl, hb1⟩
  have HB1 := Lib.hid hb1
  clear hb1
  rw [put_nil]
  go_wp2_with fail
  refine (put_any [97, 98] _ (by simp)).mono ?_
  rintro e w2 ⟨rfl, hb2⟩
  have HB2 := Lib.hid (bt HB1.out hb2)
  clear hb2
  rw [put_ab]
  go_wp2_with fail
  refine (next_any [0, 0, 0, 0, 0, 0, 0, 0, 2, 0, 0, 0, 109, 72, 131, 158, 97, 98] 8 _ (by simp [maxLen])).mono ?_
  rintro e w3 ⟨rfl, hb3⟩
  have HB3 := Lib.hid (bt HB2.out hb3)
  clear hb3
  rw [next_ab]
  go_wp2_with fail
  refine (scan_any [0, 0, 0, 0, 0, 0, 0, 0, 2, 0, 0, 0, 109, 72, 131, 158, 97, 98, 120] _ (by simp)).mono ?_
  rintro e w4 ⟨v, rfl, hown, hb4⟩
  have HB4 := Lib.hid (bt HB3.out hb4)
  clear hb4
  rw [scan_abx] at hown ⊢
  obtain ⟨a, cap, rfl⟩ := hown.form
  clear hown
  go_wp2_with fail
  refine (sum_any [49, 50, 51, 52, 53, 54, 55, 56, 57] _ (by simp [maxLen])).mono ?_
  rintro e w5 ⟨rfl, hb5⟩
  have HB5 := Lib.hid (bt HB4.out hb5)
  clear hb5
  rw [sum_nine]
  go_wp2
  go_ret
  exact ⟨rfl, HB5.out⟩

end Go.Proofs.Ytlieanigefjocaa
