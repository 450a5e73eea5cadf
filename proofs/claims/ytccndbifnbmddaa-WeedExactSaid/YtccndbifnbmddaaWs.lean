/-
  awake of chapter 8, walked.
  Conditions: none.
-/
import Derived.Test.YtccndbifnbmddaaWm
import Derived.Test.YtccndbifnbmddaaWo
set_option linter.unusedVariables false
set_option linter.unusedSimpArgs false
namespace Go.Proofs.Ytccndbifnbmddaa
open Go.RowKit

def awRecs : List Cr.Rec := [⟨0, [97], [49], false⟩, ⟨1, [97], [50], false⟩, ⟨2, [98], [], true⟩]
def awBat : Cr.Batch := ⟨0, 3, 0, 0, 0, awRecs⟩
theorem aw_thin : thin [awBat] 3 10 5 = [⟨0, 3, 0, 0, 0, [⟨1, [97], [50], false⟩]⟩] := by kernel_rfl
theorem aw_fold : (liveR (foldL 1 [awBat])).map (·.2) = [⟨0, [97], [49], false⟩] := by kernel_rfl
theorem aw_old1 : oldN [5, 9, 12] [10, 20, 30] 9 30 = 2 := by decide +kernel
theorem aw_old2 : oldN [5, 9, 12] [10, 20, 30] 8 30 = 1 := by decide +kernel
theorem cells_recs {w : World} {g : Nat} {l : List Cr.Rec} (h : Cl w g (recCells l) 44) (n : Nat) (hn : l.length = n) : Recs w (.slice (some ⟨g, 0, none⟩) n n) l := by
  subst hn
  refine ⟨_, _, rfl, fun i x hx => ⟨g, 0, rfl, h.lt, ?_⟩⟩
  obtain ⟨q0, q1, q2, q3⟩ := recCells_get l i x hx
  exact ⟨by rw [Nat.zero_add, h.cell]; exact q0, by rw [Nat.zero_add, h.cell]; exact q1, by rw [Nat.zero_add, h.cell]; exact q2, by rw [Nat.zero_add, h.cell]; exact q3⟩
theorem cells_bat {w : World} {g : Nat} {b : Cr.Batch} {rv : Value} (h : Cl w g [.int .i64 b.base, .int .i64 b.count, .int .i64 b.prod, .int .i64 b.seq, .int .i64 b.time, rv] 42) (hr : Recs w rv b.recs) : Bats w (.slice (some ⟨g, 0, none⟩) 1 1) [b] := by
  refine ⟨_, _, rfl, fun i x hx => ?_⟩
  cases i with
  | succ i => simp at hx
  | zero =>
    simp at hx
    subst hx
    exact ⟨g, 0, rv, rfl, h.lt, h.cell 0, h.cell 1, h.cell 2, h.cell 3, h.cell 4, h.cell 5, hr⟩
theorem cells_ints {w : World} {g : Nat} {zs : List Int} (h : Cl w g (zs.map (Value.int .i64)) 3) (n : Nat) (hn : zs.length = n) : Ints w (.slice (some ⟨g, 0, none⟩) n n) zs := by
  subst hn
  refine ⟨_, _, rfl, fun i hi => ⟨g, 0, rfl, h.lt, ?_⟩⟩
  rw [Nat.zero_add, h.cell, List.getElem?_map, List.getElem?_eq_getElem hi]
  simp [List.getD, hi]
theorem old_aw (high : Int) (w : World) : Calls Try.prog 18 #[.slice (some ⟨w.heap.size, 0, none⟩) 3 3, .slice (some ⟨w.heap.size + 1, 0, none⟩) 3 3, .int .i64 high, .int .i64 30] ((w.alloc (.cells #[.int .i64 5, .int .i64 9, .int .i64 12] 3)).alloc (.cells #[.int .i64 10, .int .i64 20, .int .i64 30] 3)) fun e w' => e = .returned (.int .i64 (oldN [5, 9, 12] [10, 20, 30] high 30)) ∧ Below w.heap.size w w' := by
  have C1 : Cl ((w.alloc (.cells #[.int .i64 5, .int .i64 9, .int .i64 12] 3)).alloc (.cells #[.int .i64 10, .int .i64 20, .int .i64 30] 3)) w.heap.size ([5, 9, 12].map (Value.int .i64)) 3 := (Cl.new w [.int .i64 5, .int .i64 9, .int .i64 12] 3).alloc _
  have C2 : Cl ((w.alloc (.cells #[.int .i64 5, .int .i64 9, .int .i64 12] 3)).alloc (.cells #[.int .i64 10, .int .i64 20, .int .i64 30] 3)) (w.heap.size + 1) ([10, 20, 30].map (Value.int .i64)) 3 := by
    have := Cl.new (w.alloc (.cells #[.int .i64 5, .int .i64 9, .int .i64 12] 3)) [.int .i64 10, .int .i64 20, .int .i64 30] 3
    rwa [show (w.alloc (.cells #[.int .i64 5, .int .i64 9, .int .i64 12] 3)).heap.size = w.heap.size + 1 from by simp] at this
  refine (old_any _ _ [5, 9, 12] [10, 20, 30] high 30 _ (cells_ints C1 3 rfl) (cells_ints C2 3 rfl) (by simp [maxLen]) (by simp [maxLen]) (fun a n c e => by cases e; omega) (by intro z hz; simp at hz; omega)).mono ?_
  rintro e w' ⟨rfl, hb⟩
  exact ⟨rfl, (((Below.refl _ _).alloc (Nat.le_refl _) _).alloc (by simp) _).trans (hb.mono (by simp; omega))⟩
def AwW (w : World) (e : Ending) (w' : World) : Prop := e = .returned (.bool true) ∧ Below w.heap.size w w'
set_option maxRecDepth 20000 in
set_option maxHeartbeats 6400000 in
theorem awake_any (w : World) : Calls Try.prog 10 #[] w (AwW w) := by
  have B1 : Hid (Below w.heap.size w ((w.alloc (.cells (recCells awRecs).toArray 44)).alloc (.cells #[.int .i64 0, .int .i64 3, .int .i64 0, .int .i64 0, .int .i64 0, .slice (some ⟨w.heap.size, 0, none⟩) 3 3] 42))) := ((Below.refl _ _).alloc (Nat.le_refl _) _).alloc (by simp) _
  have C0 : Hid (Cl ((w.alloc (.cells (recCells awRecs).toArray 44)).alloc (.cells #[.int .i64 0, .int .i64 3, .int .i64 0, .int .i64 0, .int .i64 0, .slice (some ⟨w.heap.size, 0, none⟩) 3 3] 42)) w.heap.size (recCells awRecs) 44) := (Cl.new w _ _).alloc _
  have C1 : Hid (Cl ((w.alloc (.cells (recCells awRecs).toArray 44)).alloc (.cells #[.int .i64 0, .int .i64 3, .int .i64 0, .int .i64 0, .int .i64 0, .slice (some ⟨w.heap.size, 0, none⟩) 3 3] 42)) (w.heap.size + 1) [.int .i64 0, .int .i64 3, .int .i64 0, .int .i64 0, .int .i64 0, .slice (some ⟨w.heap.size, 0, none⟩) 3 3] 42) := by
    have := Cl.new (w.alloc (.cells (recCells awRecs).toArray 44)) [.int .i64 0, .int .i64 3, .int .i64 0, .int .i64 0, .int .i64 0, .slice (some ⟨w.heap.size, 0, none⟩) 3 3] 42
    rwa [show (w.alloc (.cells (recCells awRecs).toArray 44)).heap.size = w.heap.size + 1 from by simp] at this
  have HB : Hid (Bats ((w.alloc (.cells (recCells awRecs).toArray 44)).alloc (.cells #[.int .i64 0, .int .i64 3, .int .i64 0, .int .i64 0, .int .i64 0, .slice (some ⟨w.heap.size, 0, none⟩) 3 3] 42)) (.slice (some ⟨w.heap.size + 1, 0, none⟩) 1 1) [awBat]) := cells_bat (b := awBat) C1.out (cells_recs C0.out 3 rfl)
  clear C0 C1
  have hcells : (recCells awRecs).toArray = #[.int .i64 0, .string ⟨#[97]⟩, .string ⟨#[49]⟩, .bool false, .int .i64 1, .string ⟨#[97]⟩, .string ⟨#[50]⟩, .bool false, .int .i64 2, .string ⟨#[98]⟩, .string ⟨#[]⟩, .bool true] := rfl
  rw [hcells] at HB B1
  clear hcells
  go_enter Try.func10, Try.ntmps10
  go_upto_region 2 with (fail)
  generalize (w.alloc (.cells #[.int .i64 0, .string ⟨#[97]⟩, .string ⟨#[49]⟩, .bool false, .int .i64 1, .string ⟨#[97]⟩, .string ⟨#[50]⟩, .bool false, .int .i64 2, .string ⟨#[98]⟩, .string ⟨#[]⟩, .bool true] 44)).alloc (.cells #[.int .i64 0, .int .i64 3, .int .i64 0, .int .i64 0, .int .i64 0, .slice (some ⟨w.heap.size, 0, none⟩) 3 3] 42) = w1 at *
  generalize w.heap.size + 1 = g1 at HB ⊢
  go_wp2_with fail
  refine (thin_any [awBat] 3 10 5 _ w1 HB.out (by simp) (by simp [awBat, awRecs]) (by intro b hb x hx; simp at hb; subst hb; simp [awBat, awRecs] at hx; rcases hx with rfl | rfl | rfl <;> simp [maxLen])).mono ?_
  rintro e w2 ⟨v2, rfl, hB2, hb2⟩
  rw [aw_thin] at hB2
  have T2 := Lib.hid hB2
  have B2 := Lib.hid (bt B1.out hb2)
  have HB2 := Lib.hid (HB.out.kept hb2)
  clear hB2 hb2 HB B1
  go_wp2_with fail
  refine (fold_any [awBat] 1 _ w2 HB2.out (by simp [maxLen]) (by simp [totalR, awBat, awRecs]) (by intro b hb x hx; simp at hb; subst hb; simp [awBat, awRecs] at hx; rcases hx with rfl | rfl | rfl <;> simp [maxLen])).mono ?_
  rintro e w3 ⟨v3, f, rfl, hp, hs, hr, hb3⟩
  rw [aw_fold] at hp
  obtain rfl := List.perm_singleton.1 hp
  have T3 := T2.out.kept hb3
  have B3 := Lib.hid (bt B2.out hb3)
  obtain ⟨g, off, cap, rv, hv2, hg, _, _, _, _, _, c5, hrv⟩ := T3.get (Below.refl _ _) (i := 0) rfl
  obtain ⟨g2, off2, cap2, hv3, hg2, _, _, d2, _⟩ := hrv.get (Below.refl _ _) (k := 0) rfl
  obtain ⟨g3, off3, cap3, hv4, hg3, _, _, e2, _⟩ := hr.get (Below.refl _ _) (k := 0) rfl
  subst hv2 hv3 hv4
  simp only [Nat.zero_mul, Nat.add_zero, List.length_cons, List.length_nil, Nat.zero_add] at c5 d2 e2 ⊢
  have O1 := Lib.hid (old_aw 9 w3)
  have O2 := Lib.hid (fun W => old_aw 8 W)
  rw [aw_old1] at O1
  simp only [aw_old2] at O2
  clear T2 T3 hp hs hr hb3 hrv HB2 B2
  go_wp2_with fail
  refine O1.out.mono ?_
  rintro e w4 ⟨rfl, hb4⟩
  have B4 := Lib.hid (bt B3.out hb4)
  clear hb4
  go_wp2_with fail
  refine (O2.out _).mono ?_
  rintro e w5 ⟨rfl, hb5⟩
  have B5 := Lib.hid (bt B4.out hb5)
  clear hb5
  go_wp2
  go_ret
  exact ⟨rfl, B5.out⟩

end Go.Proofs.Ytccndbifnbmddaa
