/-
  WeedExact: the walk.
  Conditions: none but the model's longest length.
-/
import Derived.Test.YtccndbifnbmddaaXo
import Derived.Test.YtccndbifnbmddaaXh
import Derived.Deep.RegionHeld3
set_option linter.unusedVariables false
set_option linter.unusedSimpArgs false
namespace Go.Proofs.Ytccndbifnbmddaa
open Go.RowKit

def When3 (W : World) (p : Nat) (h0 n0 z0 : Int) : Prop := W.cell? ⟨p, 0, none⟩ = some (.int .i64 h0) ∧ W.cell? ⟨p, 1, none⟩ = some (.int .i64 n0) ∧ W.cell? ⟨p, 2, none⟩ = some (.int .i64 z0)
theorem When3.below {w W : World} {p : Nat} {h0 n0 z0 : Int} (h : When3 w p h0 n0 z0) (hb : Below w.heap.size w W) : When3 W p h0 n0 z0 := by
  obtain ⟨a, b, c⟩ := h
  have hp := World.block_lt_of_cell? w _ a
  exact ⟨(hb.cell (p := ⟨p, 0, none⟩) hp).trans a, (hb.cell (p := ⟨p, 1, none⟩) hp).trans b, (hb.cell (p := ⟨p, 2, none⟩) hp).trans c⟩
/-- Fold, at small rows. -/
theorem foldX {l : List Cr.Batch} (h : SmL l) (upto : Int) (v : Value) (w : World) (hv : Bats w v l) : Calls Try.prog 16 #[v, .int .i64 upto] w fun e w' => ∃ v', e = .returned v' ∧ Recs w' v' (refFold upto l) ∧ Below w.heap.size w w' := by
  refine (fold_any l upto v w hv h.max.2.1 h.total h.max.2.2.2.1).mono ?_
  rintro e w' ⟨v', f, rfl, hp, hs, hr, hb⟩
  obtain rfl := refFold_eq hp hs
  exact ⟨v', rfl, hr, hb⟩
theorem refFold_ok {l : List Cr.Batch} (h : SmL l) (upto : Int) : (refFold upto l).length ≤ maxLen ∧ ∀ x ∈ refFold upto l, RecOk x := by
  constructor
  · have h1 := refB_take upto l l.length
    have h2 := h.total
    have h3 : (refFold upto l).length ≤ (refL upto l).length := List.length_filter_le _ _
    rw [List.take_length] at h1
    have h4 : (refL upto l).length ≤ totalR l := h1
    unfold maxLen
    omega
  · intro x hx
    have hx1 := (List.mem_filter.1 hx).1
    have hm := ((refL_of upto l).mem x).1 hx1
    obtain ⟨_, _, hr, _⟩ := (foldL_of upto l).mem _ hm
    obtain ⟨b, hb, hxr⟩ := mem_recsOf.1 hr
    exact (h.each b hb).1.2.2.2.2.2.2 x hxr
set_option maxRecDepth 20000 in
set_option maxHeartbeats 6400000 in
theorem weedExact_walk (v : Value) (l : List Cr.Batch) (h0 n0 z0 u : Int) (w : World) (hB : Bats w v l) (hl : l.length ≤ maxLen) (hok : ∀ b ∈ l, BatOk b) :
    Calls Try.prog 3 #[v, .agg #[.int .i64 h0, .int .i64 n0, .int .i64 z0], .int .i64 u] w fun e w' => e = .returned (.bool true) ∧ Below w.heap.size w w' := by
  have B1 : Hid (Below w.heap.size w (w.alloc (.cells #[.int .i64 h0, .int .i64 n0, .int .i64 z0] 24))) := (Below.refl _ _).alloc (Nat.le_refl _) _
  have C1 : Hid (Cl (w.alloc (.cells #[.int .i64 h0, .int .i64 n0, .int .i64 z0] 24)) w.heap.size [.int .i64 h0, .int .i64 n0, .int .i64 z0] 24) := Cl.new w _ _
  have HGR := Lib.hid (fun W (hW : Below w.heap.size w W) => great_any l hl hok v W (hB.kept hW))
  have HBA := Lib.hid (fun W (hW : Below w.heap.size w W) => hB.kept hW)
  have HOK := Lib.hid hok
  obtain ⟨a, cap, rfl⟩ := hB.form
  clear hB hok
  unfold maxLen at hl
  go_enter Try.func3, Try.ntmps3
  go_upto_region 1 with (fail)
  generalize w.alloc (.cells #[.int .i64 h0, .int .i64 n0, .int .i64 z0] 24) = w1 at *
  generalize w.heap.size = p at C1 ⊢
  go_wp2_with fail
  refine (awake_any w1).mono ?_
  rintro e w2 ⟨rfl, hb2⟩
  have B2 := Lib.hid (bt B1.out hb2)
  have C2 := Lib.hid (C1.out.below hb2)
  clear hb2 C1 B1
  go_wp2_with fail
  refine (HGR.out w2 B2.out).mono ?_
  rintro e w3 ⟨b, rfl, rfl, hsm0⟩
  cases b with
  | true =>
    go_wp2
    go_ret
    exact ⟨rfl, B2.out⟩
  | false =>
    obtain ⟨hl30, hr12⟩ := hsm0 rfl
    have HSM : Hid (SmL l) := ⟨by omega, fun b hb => ⟨HOK.out b hb, hr12 b hb⟩⟩
    have LD : Hid (Bats w3.drew (.slice a l.length cap) l) := HBA.out w3 B2.out
    have BD : Hid (Below w.heap.size w w3.drew) := below_drewN B2.out 1
    have c0 := C2.out.cell 0
    have c1 := C2.out.cell 1
    have c2 := C2.out.cell 2
    simp only [List.getElem?_cons_zero, List.getElem?_cons_succ] at c0 c1 c2
    have hcd : When3 w3.drew p h0 n0 z0 := ⟨c0, c1, c2⟩
    clear C2 HGR HBA hr12 hsm0
    go_wp2_with fail
    unfold When3 at hcd
    go_region_held3 (fun W => W.cell? ⟨p, 0, none⟩ = some (.int .i64 h0) ∧ W.cell? ⟨p, 1, none⟩ = some (.int .i64 n0) ∧ W.cell? ⟨p, 2, none⟩ = some (.int .i64 z0)) (first | assumption | exact hcd) (first
      | (go_at_call 13; refine (thinS HSM.out h0 n0 z0 _ _ LD.out).mono ?_; rintro e w6 ⟨v6, rfl, hB6, hb6⟩; have L6 := Lib.hid hB6; have LB6 := Lib.hid (LD.out.kept hb6); have B6 := Lib.hid (bt BD.out hb6); have hc6 := When3.below hcd hb6; unfold When3 at hc6; clear hB6 hb6)
      | (go_at_call 14; refine (refthin_any l h0 n0 z0 _ _ LB6.out HSM.out.max.1 HSM.out.max.2.2.1 HSM.out.max.2.2.2.1).mono ?_; rintro e w7 ⟨v7, rfl, hB7, hb7⟩; have L7 := Lib.hid hB7; have L67 := Lib.hid (L6.out.kept hb7); have LB7 := Lib.hid (LB6.out.kept hb7); have B7 := Lib.hid (bt B6.out hb7); have hc7 := When3.below hc6 hb7; unfold When3 at hc7; clear hB7 hb7)
      | (go_at_call 12; refine (batsEq_any _ (HSM.out.thin h0 n0 z0).max.2.1 (HSM.out.thin h0 n0 z0).max.2.2.2.2 _ _ _ L67.out L7.out).mono ?_; rintro e w8 ⟨rfl, hb8⟩; have LB8 := Lib.hid (LB7.out.kept hb8); have B8 := Lib.hid (bt B7.out hb8); have hc8 := When3.below hc7 hb8; unfold When3 at hc8; clear hb8)
      | (go_at_call 16; refine (foldX HSM.out u _ _ LB8.out).mono ?_; rintro e w9 ⟨v9, rfl, hR9, hb9⟩; have R9 := Lib.hid hR9; have LB9 := Lib.hid (LB8.out.kept hb9); have B9 := Lib.hid (bt B8.out hb9); have hc9 := When3.below hc8 hb9; unfold When3 at hc9; clear hR9 hb9)
      | (go_at_call 17; refine (reffold_any l u _ _ LB9.out HSM.out.max.2.1 (fun b hb => Nat.le_trans (HSM.out.max.2.2.1 b hb) (by unfold maxLen; omega)) HSM.out.total HSM.out.max.2.2.2.1).mono ?_; rintro e wa ⟨va, rfl, hRa, hba⟩; have Ra := Lib.hid hRa; have R9a := Lib.hid (R9.out.kept hba); have Ba := Lib.hid (bt B9.out hba); have hca := When3.below hc9 hba; unfold When3 at hca; clear hRa hba)
      | (go_at_call 15; refine (recsEq_any _ (refFold_ok HSM.out u).1 (refFold_ok HSM.out u).2 _ _ _ R9a.out Ra.out).mono ?_; rintro e wb ⟨rfl, hbb⟩; have Bb := Lib.hid (bt Ba.out hbb); have hcb := When3.below hca hbb; unfold When3 at hcb; clear hbb))
    go_wp2
    go_ret
    exact ⟨rfl, Bb.out⟩

end Go.Proofs.Ytccndbifnbmddaa
