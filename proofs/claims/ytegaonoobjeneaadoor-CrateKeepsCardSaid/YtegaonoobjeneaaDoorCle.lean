/-
  CratePacks and CrateKeeps, walked.
  Conditions: the library's variables hold what they are laid with.
-/
import Derived.Test.YtegaonoobjeneaaDoorCla
import Derived.Test.YtegaonoobjeneaaDoorCri
import Derived.Test.YtegaonoobjeneaaDoorCrb
set_option linter.unusedVariables false
set_option linter.unusedSimpArgs false
namespace Go.Proofs.YtegaonoobjeneaaDoor
open Go.RowKit

/-- Where a batch comes, as a value. -/
def plV (b p s t : Int) : Value := .agg #[.int .i64 b, .int .i64 p, .int .i64 s, .int .i64 t]
set_option maxRecDepth 20000 in
set_option maxHeartbeats 6400000 in
theorem packs_walk (l : List Cr.Rec) (hok : ∀ x ∈ l, RecOk x) (hl : l.length ≤ maxLen) (lv : Value) (base prod seq time : Int) (hb : Bd.inR base) (hp : Bd.inR prod) (hs : Bd.inR seq) (ht : Bd.inR time) (w : World) (h : Recs w lv l) (hw : Lw w) :
    Calls Tryd.prog 5 #[lv, plV base prod seq time] w fun e w' => e = .returned (.bool true) ∧ Below w.heap.size w w' := by
  have HW := Lib.hid hw
  have HZ := Lib.hid h
  have HO := Lib.hid hok
  have HL := Lib.hid hl
  obtain ⟨a, cap, rfl⟩ := h.form
  have B0 : Hid (Below w.heap.size w (w.alloc (.cells #[.int .i64 base, .int .i64 prod, .int .i64 seq, .int .i64 time] 36))) := (Below.refl _ _).alloc (Nat.le_refl _) _
  have C0 : Hid (Cl (w.alloc (.cells #[.int .i64 base, .int .i64 prod, .int .i64 seq, .int .i64 time] 36)) w.heap.size [.int .i64 base, .int .i64 prod, .int .i64 seq, .int .i64 time] 36) := Cl.new _ _ _
  clear h hw hok
  unfold plV
  go_enter Tryd.func5, Tryd.ntmps5
  go_wp2_with fail
  refine (awake_any _ (HW.out.below B0.out)).mono ?_
  rintro e w1 ⟨rfl, hb1⟩
  have B1 := Lib.hid (bt B0.out hb1)
  have C1 := Lib.hid (C0.out.below hb1)
  clear hb1 C0
  obtain ⟨c0, c1, c2, c3⟩ := C1.out.cell4
  have HGR := Lib.hid (great_any l HO.out HL.out _ w1 (HZ.out.kept B1.out))
  go_wp2_with fail
  refine HGR.out.mono ?_
  rintro e w2 ⟨rfl, rfl⟩
  cases hg : greatB l with
  | true =>
    go_wp2
    go_ret
    exact ⟨rfl, B1.out⟩
  | false =>
    clear hg HGR
    have HP := Lib.hid (pack_any l HO.out HL.out base prod seq time hb hp hs ht _ w2 (HZ.out.kept B1.out))
    have HRP := Lib.hid (fun W (hW : Below w.heap.size w W) => refpack_any l HO.out HL.out base prod seq time hb hp hs ht _ W (HZ.out.kept hW))
    have HOK : Hid (∀ b, Cr.pack l base prod seq time = some b → BatOk b) := fun b hb' => by
      unfold Cr.pack at hb'
      split at hb'
      · rename_i hc
        simp only [Bool.and_eq_true] at hc
        injection hb' with hb'
        subst hb'
        have hl8 : l.length ≤ 8 := by
          have := hc.1.1
          simp only [Cr.fits, Bool.and_eq_true, decide_eq_true_eq] at this
          exact this.2.1
        exact batOk_packed HO.out hl8 hc.1.2 hp hs ht
      · cases hb'
    cases hpk : Cr.pack l base prod seq time with
    | none =>
      rw [hpk] at HP HRP
      clear hpk HOK
      go_wp2_with fail
      refine HP.out.mono ?_
      intro e w3 h3
      obtain ⟨a3, cap3, rfl, r3, b3⟩ := h3.none'
      have B3 := Lib.hid (bt B1.out b3)
      have D3 : Hid (Below w3.heap.size w3 (w3.alloc (.cells #[.int .i64 0, .int .i64 0, .int .i64 0, .int .i64 0, .int .i64 0, .slice a3 0 cap3] 24))) := (Below.refl _ _).alloc (Nat.le_refl _) _
      have C3 := Lib.hid ((C1.out.below b3).below D3.out)
      have R3 := Lib.hid (r3.kept D3.out)
      have N3 : Hid (Cl (w3.alloc (.cells #[.int .i64 0, .int .i64 0, .int .i64 0, .int .i64 0, .int .i64 0, .slice a3 0 cap3] 24)) w3.heap.size [.int .i64 0, .int .i64 0, .int .i64 0, .int .i64 0, .int .i64 0, .slice a3 0 cap3] 24) := Cl.new _ _ _
      clear h3 r3 b3 HP C1 c0 c1 c2 c3
      unfold batV
      dsimp only [zeroBat]
      obtain ⟨c0, c1, c2, c3⟩ := C3.out.cell4
      have HR3 := Lib.hid (HRP.out _ (bt B3.out D3.out))
      go_wp2_with fail
      generalize w3.alloc (.cells #[.int .i64 0, .int .i64 0, .int .i64 0, .int .i64 0, .int .i64 0, .slice a3 0 cap3] 24) = w4 at *
      refine HR3.out.mono ?_
      intro e w5 h5
      obtain ⟨a5, cap5, rfl, r5, b5⟩ := h5.none'
      have B5 := Lib.hid (bt B3.out (bt D3.out b5))
      have N5 := Lib.hid (N3.out.below b5)
      have R5' := Lib.hid (R3.out.kept b5)
      have D5 : Hid (Below w5.heap.size w5 (w5.alloc (.cells #[.int .i64 0, .int .i64 0, .int .i64 0, .int .i64 0, .int .i64 0, .slice a5 0 cap5] 24))) := (Below.refl _ _).alloc (Nat.le_refl _) _
      have N6 := Lib.hid (N5.out.below D5.out)
      have N7 : Hid (Cl (w5.alloc (.cells #[.int .i64 0, .int .i64 0, .int .i64 0, .int .i64 0, .int .i64 0, .slice a5 0 cap5] 24)) w5.heap.size [.int .i64 0, .int .i64 0, .int .i64 0, .int .i64 0, .int .i64 0, .slice a5 0 cap5] 24) := Cl.new _ _ _
      have HS := Lib.hid (refsame_any zeroBat zeroBat batOkZ batOkZ _ _ _ (R5'.out.kept D5.out) (r5.kept D5.out))
      rw [Cr.same_iff.2 rfl] at HS
      clear h5 r5 b5 HR3 HRP N3 R3 N5 R5' c0 c1 c2 c3 C3
      unfold batV
      dsimp only [zeroBat]
      obtain ⟨c0, c1, c2, c3, c4, c5⟩ := N6.out.cell6
      obtain ⟨d0, d1, d2, d3, d4, d5⟩ := N7.out.cell6
      go_wp2_with fail
      refine HS.out.mono ?_
      rintro e w8 ⟨rfl, hb8⟩
      have B8 := Lib.hid (bt B5.out (bt D5.out hb8))
      clear hb8
      go_wp2
      go_ret
      exact ⟨rfl, B8.out⟩
    | some pb =>
      have OP := Lib.hid (HOK.out pb hpk)
      have hpl : pb.recs.length ≤ 9223372036854775807 := by have := OP.out.2.2.2.2.2.1; unfold maxLen at this; omega
      rw [hpk] at HP HRP
      clear hpk HOK
      go_wp2_with fail
      refine HP.out.mono ?_
      intro e w3 h3
      obtain ⟨a3, cap3, rfl, r3, b3⟩ := h3.some'
      have B3 := Lib.hid (bt B1.out b3)
      have D3 : Hid (Below w3.heap.size w3 (w3.alloc (.cells #[.int .i64 pb.base, .int .i64 pb.count, .int .i64 pb.prod, .int .i64 pb.seq, .int .i64 pb.time, .slice a3 pb.recs.length cap3] 24))) := (Below.refl _ _).alloc (Nat.le_refl _) _
      have C3 := Lib.hid ((C1.out.below b3).below D3.out)
      have R3 := Lib.hid (r3.kept D3.out)
      have N3 := Lib.hid (batCl w3 pb (.slice a3 pb.recs.length cap3))
      clear h3 r3 b3 HP C1 c0 c1 c2 c3
      unfold batV
      obtain ⟨c0, c1, c2, c3⟩ := C3.out.cell4
      have HR3 := Lib.hid (HRP.out _ (bt B3.out D3.out))
      go_wp2_with fail
      generalize w3.alloc (.cells #[.int .i64 pb.base, .int .i64 pb.count, .int .i64 pb.prod, .int .i64 pb.seq, .int .i64 pb.time, .slice a3 pb.recs.length cap3] 24) = w4 at *
      refine HR3.out.mono ?_
      intro e w5 h5
      obtain ⟨a5, cap5, rfl, r5, b5⟩ := h5.some'
      have B5 := Lib.hid (bt B3.out (bt D3.out b5))
      have N5 := Lib.hid (N3.out.below b5)
      have R5' := Lib.hid (R3.out.kept b5)
      have D5 : Hid (Below w5.heap.size w5 (w5.alloc (.cells #[.int .i64 pb.base, .int .i64 pb.count, .int .i64 pb.prod, .int .i64 pb.seq, .int .i64 pb.time, .slice a5 pb.recs.length cap5] 24))) := (Below.refl _ _).alloc (Nat.le_refl _) _
      have N6 := Lib.hid (N5.out.below D5.out)
      have N7 := Lib.hid (batCl w5 pb (.slice a5 pb.recs.length cap5))
      have HS := Lib.hid (refsame_any pb pb OP.out OP.out _ _ _ (R5'.out.kept D5.out) (r5.kept D5.out))
      rw [Cr.same_iff.2 rfl] at HS
      clear h5 r5 b5 HR3 HRP N3 R3 N5 R5' c0 c1 c2 c3 C3
      unfold batV at HS ⊢
      obtain ⟨c0, c1, c2, c3, c4, c5⟩ := N6.out.cell6
      obtain ⟨d0, d1, d2, d3, d4, d5⟩ := N7.out.cell6
      go_wp2_with fail
      refine HS.out.mono ?_
      rintro e w8 ⟨rfl, hb8⟩
      have B8 := Lib.hid (bt B5.out (bt D5.out hb8))
      clear hb8
      go_wp2
      go_ret
      exact ⟨rfl, B8.out⟩

end Go.Proofs.YtegaonoobjeneaaDoor
