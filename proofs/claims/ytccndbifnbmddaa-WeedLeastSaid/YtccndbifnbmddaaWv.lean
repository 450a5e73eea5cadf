/-
  WeedOld: the walk.
  Conditions: none but the model's longest length.
-/
import Derived.Test.YtccndbifnbmddaaWs
import Derived.Test.YtccndbifnbmddaaWt
import Derived.Test.YtccndbifnbmddaaWu
import Derived.Test.YtccndbifnbmddaaQt
set_option linter.unusedVariables false
set_option linter.unusedSimpArgs false
namespace Go.Proofs.Ytccndbifnbmddaa
open Go.RowKit

set_option maxRecDepth 20000 in
set_option maxHeartbeats 3200000 in
theorem weedOld_walk (ve vb : Value) (ends bytes : List Int) (high keep : Int) (w : World) (he : Ints w ve ends) (hb : Ints w vb bytes) (hel : ends.length ≤ maxLen) (hbl : bytes.length ≤ maxLen) (hcap : ∀ a n c, ve = .slice a n c → n ≤ c)
    (hr : ∀ z ∈ bytes, -9223372036854775808 ≤ z ∧ z ≤ 9223372036854775807) (hkp : Bd.inR keep) :
    Calls Try.prog 4 #[ve, vb, .agg #[.int .i64 high, .int .i64 keep]] w fun e w' => e = .returned (.bool true) ∧ Below w.heap.size w w' := by
  have HE := Lib.hid he
  have HB := Lib.hid hb
  have O1 := Lib.hid (fun W (hW : Below w.heap.size w W) => old_any ve vb ends bytes high keep W (he.kept hW) (hb.kept hW) hel hbl hcap hr)
  have O2 := Lib.hid (fun W (hW : Below w.heap.size w W) => rold_any ve vb ends bytes high keep W (he.kept hW) (hb.kept hW) hel hbl hkp)
  obtain ⟨ae, cape, rfl, -⟩ := id he
  obtain ⟨ab, capb, rfl, -⟩ := id hb
  clear he hb hr hcap hkp
  unfold maxLen at hel hbl
  have B1 : Hid (Below w.heap.size w (w.alloc (.cells #[.int .i64 high, .int .i64 keep] 34))) := (Below.refl _ _).alloc (Nat.le_refl _) _
  have C1 : Hid (Cl (w.alloc (.cells #[.int .i64 high, .int .i64 keep] 34)) w.heap.size [.int .i64 high, .int .i64 keep] 34) := Cl.new w _ _
  generalize ends.length = n at *
  generalize bytes.length = m at *
  go_enter Try.func4, Try.ntmps4
  go_upto_region 1 with (fail)
  generalize w.alloc (.cells #[.int .i64 high, .int .i64 keep] 34) = w1 at *
  generalize w.heap.size = p at C1 ⊢
  go_wp2_with fail
  refine (awake_any w1).mono ?_
  rintro e w2 ⟨rfl, hb2⟩
  have B2 := Lib.hid (bt B1.out hb2)
  have C2 := Lib.hid (C1.out.below hb2)
  clear hb2 C1 B1
  by_cases h1 : n ≤ 5000
  · by_cases h2 : m ≤ 5000
    · have d0 := C2.out.cell 0
      have d1 := C2.out.cell 1
      simp only [List.getElem?_cons_zero, List.getElem?_cons_succ] at d0 d1
      have n0 := fun x : BelowOf w2 => x.cell d0
      have n1 := fun x : BelowOf w2 => x.cell d1
      have I1 := Lib.hid (below_class (w := w2) fun W hW => O1.out W (bt B2.out hW))
      have I2 := Lib.hid (below_class (w := w2) fun W hW => O2.out W (bt B2.out hW))
      go_wp2_with fail
      refine wp_region_below (by kernel_rfl) (by kernel_rfl) ?_
      repeat (go_big_quiet_step (fail))
      go_big_quiet_step ((exact I1.out _))
      repeat (go_big_quiet_step (fail))
      go_big_quiet_step ((exact I2.out _))
      repeat (go_big_quiet_step (fail))
      refine wpQuiet_nil ?_
      intro w9 h
      obtain ⟨⟨w9, hb⟩, rfl⟩ := h
      have B9 := Lib.hid (bt B2.out hb)
      clear hb
      go_wp2
      go_ret
      exact ⟨by simp, B9.out⟩
    · go_wp2
      go_ret
      exact ⟨rfl, B2.out⟩
  · go_wp2
    go_ret
    exact ⟨rfl, B2.out⟩

end Go.Proofs.Ytccndbifnbmddaa
