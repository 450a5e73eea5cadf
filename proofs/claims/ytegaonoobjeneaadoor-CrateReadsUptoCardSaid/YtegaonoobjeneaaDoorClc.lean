/-
  CrateReads, walked.
  Conditions: the library's variables hold what they are laid with; a text of at most 2^20 bytes.
-/
import Derived.Test.YtegaonoobjeneaaDoorCld
import Derived.Test.YtegaonoobjeneaaDoorCrj
import Derived.Test.YtegaonoobjeneaaDoorCrb
set_option linter.unusedVariables false
set_option linter.unusedSimpArgs false
namespace Go.Proofs.YtegaonoobjeneaaDoor
open Go.RowKit

set_option maxRecDepth 20000 in
set_option maxHeartbeats 6400000 in
theorem creads_walk (s : List UInt8) (hs : s.length ≤ 1048576) (w : World) (hw : Lw w) :
    Calls Tryd.prog 4 #[.string ⟨s.toArray⟩] w fun e w' => e = .returned (.bool true) ∧ Below w.heap.size w w' := by
  have HW := Lib.hid hw
  clear hw
  go_enter Tryd.func4, Tryd.ntmps4
  go_wp2_with fail
  refine (awake_any _ HW.out).mono ?_
  rintro e w2 ⟨rfl, hb1⟩
  have B1 := Lib.hid hb1
  clear hb1
  have HP := Lib.hid (decode_any s (by omega) w2 (HW.out.below B1.out))
  have HRP := Lib.hid (fun W => refdecode_any s (by omega) W)
  cases hpk : Cr.dec s with
  | none =>
    rw [hpk] at HP HRP
    clear hpk
    go_wp2_with fail
    refine HP.out.mono ?_
    intro e w3 h3
    obtain ⟨a3, cap3, rfl, r3, b3⟩ := h3.none'
    have B3 := Lib.hid (bt B1.out b3)
    have D3 : Hid (Below w3.heap.size w3 (w3.alloc (.cells #[.int .i64 0, .int .i64 0, .int .i64 0, .int .i64 0, .int .i64 0, .slice a3 0 cap3] 24))) := (Below.refl _ _).alloc (Nat.le_refl _) _
    have R3 := Lib.hid (r3.kept D3.out)
    have N3 : Hid (Cl (w3.alloc (.cells #[.int .i64 0, .int .i64 0, .int .i64 0, .int .i64 0, .int .i64 0, .slice a3 0 cap3] 24)) w3.heap.size [.int .i64 0, .int .i64 0, .int .i64 0, .int .i64 0, .int .i64 0, .slice a3 0 cap3] 24) := Cl.new _ _ _
    clear h3 r3 b3 HP
    unfold batV
    dsimp only [zeroBat]
    go_wp2_with fail
    generalize w3.alloc (.cells #[.int .i64 0, .int .i64 0, .int .i64 0, .int .i64 0, .int .i64 0, .slice a3 0 cap3] 24) = w4 at *
    refine (HRP.out _).mono ?_
    intro e w5 h5
    obtain ⟨a5, cap5, rfl, r5, b5⟩ := h5.none'
    have B5 := Lib.hid (bt B3.out (bt D3.out b5))
    have N5 := Lib.hid (N3.out.below b5)
    have R5' := Lib.hid (R3.out.kept b5)
    have D5 : Hid (Below w5.heap.size w5 (w5.alloc (.cells #[.int .i64 0, .int .i64 0, .int .i64 0, .int .i64 0, .int .i64 0, .slice a5 0 cap5] 24))) := (Below.refl _ _).alloc (Nat.le_refl _) _
    have N6 := Lib.hid (N5.out.below D5.out)
    have N7 : Hid (Cl (w5.alloc (.cells #[.int .i64 0, .int .i64 0, .int .i64 0, .int .i64 0, .int .i64 0, .slice a5 0 cap5] 24)) w5.heap.size [.int .i64 0, .int .i64 0, .int .i64 0, .int .i64 0, .int .i64 0, .slice a5 0 cap5] 24) := Cl.new _ _ _
    have HS := Lib.hid (refsame_any zeroBat zeroBat batOkZ batOkZ _ _ _ (R5'.out.kept D5.out) (r5.kept D5.out))
    rw [Cr.same_iff.2 rfl] at HS
    clear h5 r5 b5 HRP N3 R3 N5 R5'
    unfold batV
    dsimp only [zeroBat]
    obtain ⟨c0, c1, c2, c3, c4, c5⟩ := N6.out.cell6
    obtain ⟨d0, d1, d2, d3, d4, d5⟩ := N7.out.cell6
    go_wp2_with fail
    refine HS.out.mono ?_
    rintro e w8 ⟨rfl, hb8⟩
    have B8 := Lib.hid (bt B5.out (bt D5.out hb8))
    clear hb8
    go_wp2
    go_ret
    exact ⟨rfl, B8.out⟩
  | some pb =>
    have OP := Lib.hid (batOk_good (Cr.dec_some hpk).1)
    have hpl : pb.recs.length ≤ 9223372036854775807 := by have := OP.out.2.2.2.2.2.1; unfold maxLen at this; omega
    rw [hpk] at HP HRP
    clear hpk
    go_wp2_with fail
    refine HP.out.mono ?_
    intro e w3 h3
    obtain ⟨a3, cap3, rfl, r3, b3⟩ := h3.some'
    have B3 := Lib.hid (bt B1.out b3)
    have D3 : Hid (Below w3.heap.size w3 (w3.alloc (.cells #[.int .i64 pb.base, .int .i64 pb.count, .int .i64 pb.prod, .int .i64 pb.seq, .int .i64 pb.time, .slice a3 pb.recs.length cap3] 24))) := (Below.refl _ _).alloc (Nat.le_refl _) _
    have R3 := Lib.hid (r3.kept D3.out)
    have N3 := Lib.hid (batCl w3 pb (.slice a3 pb.recs.length cap3))
    clear h3 r3 b3 HP
    unfold batV
    go_wp2_with fail
    generalize w3.alloc (.cells #[.int .i64 pb.base, .int .i64 pb.count, .int .i64 pb.prod, .int .i64 pb.seq, .int .i64 pb.time, .slice a3 pb.recs.length cap3] 24) = w4 at *
    refine (HRP.out _).mono ?_
    intro e w5 h5
    obtain ⟨a5, cap5, rfl, r5, b5⟩ := h5.some'
    have B5 := Lib.hid (bt B3.out (bt D3.out b5))
    have N5 := Lib.hid (N3.out.below b5)
    have R5' := Lib.hid (R3.out.kept b5)
    have D5 : Hid (Below w5.heap.size w5 (w5.alloc (.cells #[.int .i64 pb.base, .int .i64 pb.count, .int .i64 pb.prod, .int .i64 pb.seq, .int .i64 pb.time, .slice a5 pb.recs.length cap5] 24))) := (Below.refl _ _).alloc (Nat.le_refl _) _
    have N6 := Lib.hid (N5.out.below D5.out)
    have N7 := Lib.hid (batCl w5 pb (.slice a5 pb.recs.length cap5))
    have HS := Lib.hid (refsame_any pb pb OP.out OP.out _ _ _ (R5'.out.kept D5.out) (r5.kept D5.out))
    rw [Cr.same_iff.2 rfl] at HS
    clear h5 r5 b5 HRP N3 R3 N5 R5'
    unfold batV at HS ⊢
    obtain ⟨c0, c1, c2, c3, c4, c5⟩ := N6.out.cell6
    obtain ⟨d0, d1, d2, d3, d4, d5⟩ := N7.out.cell6
    go_wp2_with fail
    refine HS.out.mono ?_
    rintro e w8 ⟨rfl, hb8⟩
    have B8 := Lib.hid (bt B5.out (bt D5.out hb8))
    clear hb8
    go_wp2
    go_ret
    exact ⟨rfl, B8.out⟩

end Go.Proofs.YtegaonoobjeneaaDoor
