/-
  BeadApart: things that came in, opened; the law's walk, of every two.
  Conditions: the library's variables hold what they are laid with.
-/
import Derived.Test.YtikngajopmogcaaDoorBlg
import Derived.Test.YtikngajopmogcaaDoorOi
import Derived.Deep.Strs
set_option linter.unusedVariables false
set_option linter.unusedSimpArgs false
namespace Go.Proofs.YtikngajopmogcaaDoor
open Go.ChangeShapes Go.WideShapes Go.ChangeAt Go.RowKit

theorem in_r {n : Int} (h : (Lit.int .i64 n).wf = true) : Bd.inR n := by
  have e1 : IntKind.i64.min = -9223372036854775808 := by decide
  have e2 : IntKind.i64.max = 9223372036854775807 := by decide
  simp [Lit.wf, e1, e2] at h
  exact h
set_option maxRecDepth 100000 in
theorem open_thing {W : World} {r : Reach} {base b0 : Nat} {H : Type} {enc : TypeId × Value → H} {spare : Nat → Bool} {held : Bool} {v : Value} {d : DataW H} {p : List MemPlace} (hv : Value.okWide Tryd.prog W r base 44 v)
    (h : DataW.Trod enc Tryd.prog W b0 spare held 44 v d p) : ∃ (b : Bool) (n : Int) (s : List UInt8), v = .agg #[.bool b, .int .i64 n, .string ⟨s.toArray⟩] ∧ Bd.inR n ∧ s.length ≤ maxLen := by
  obtain ⟨cs, rfl, hsz⟩ := okWide_struct Tryd.underlying44 hv
  obtain ⟨fuel, hf⟩ := h
  obtain ⟨y0, y1, y2, m, _, _, hy0, hy1, hy2⟩ := Go.Deep.trod_struct3 Tryd.underlying44 (by simpa [Value.cells] using hf)
  obtain ⟨q0, e0, _⟩ := DataW.trod_bool Tryd.underlying4 hy0
  obtain ⟨q1, e1, _, w1⟩ := DataW.trod_int Tryd.underlying3 hy1
  obtain ⟨q2, e2, _, w2⟩ := DataW.trod_string Tryd.underlying9 hy2
  have hl : cs.toList.length = 3 := by rw [Array.length_toList, hsz]; kernel_rfl
  obtain ⟨l, rfl⟩ : ∃ l, cs = ⟨l⟩ := ⟨_, rfl⟩
  match l, hl with
  | [c0, c1, c2], _ =>
    simp [show Tryd.prog.cellsOf 3 = 1 by kernel_rfl, show Tryd.prog.cellsOf 4 = 1 by kernel_rfl, show Tryd.prog.cellsOf 9 = 1 by kernel_rfl] at e0 e1 e2
    subst e0 e1 e2
    exact ⟨q0, q1, q2.data.toList, rfl, in_r w1, w2⟩

set_option maxHeartbeats 1600000 in
theorem apart_wide (ba bb : Bool) (na nb : Int) (ta tb : List UInt8) (cut : Int) (w : World) (hw : Lw w) (ha : ta.length ≤ maxLen) (hb : tb.length ≤ maxLen) (hl : ¬(ta.length ≤ 4096 ∧ tb.length ≤ 4096)) :
    Calls Tryd.prog 7 #[.agg #[.bool ba, .int .i64 na, .string ⟨ta.toArray⟩], .agg #[.bool bb, .int .i64 nb, .string ⟨tb.toArray⟩], .int .i64 cut] w fun e w' => e = .returned (.bool true) ∧ Below w.heap.size w w' := by
  unfold maxLen at ha hb
  have HW := Lib.hid hw
  have HL := Lib.hid hl
  obtain ⟨B0, hB0⟩ : ∃ W, (w.alloc (.cells #[.bool ba, .int .i64 na, .string ⟨ta.toArray⟩] 44)).alloc (.cells #[.bool bb, .int .i64 nb, .string ⟨tb.toArray⟩] 44) = W := ⟨_, rfl⟩
  have hbel : Hid (Below w.heap.size w B0) := hB0 ▸ ((Below.refl _ _).alloc (Nat.le_refl _) _).alloc (by simp) _
  have hblk : Hid (B0.heap[w.heap.size]? = some (.cells #[.bool ba, .int .i64 na, .string ⟨ta.toArray⟩] 44 (0, 0)) ∧ B0.heap[w.heap.size + 1]? = some (.cells #[.bool bb, .int .i64 nb, .string ⟨tb.toArray⟩] 44 (0, 0))) := by
    rw [← hB0]
    refine ⟨?_, ?_⟩
    · exact (Below.heap_alloc _ _ _ (by simp)).trans (heap_alloc_new w _)
    · have := heap_alloc_new (w.alloc (.cells #[.bool ba, .int .i64 na, .string ⟨ta.toArray⟩] 44)) (.cells #[.bool bb, .int .i64 nb, .string ⟨tb.toArray⟩] 44)
      rwa [World.size_alloc] at this
  have hsz : Hid (B0.heap.size = w.heap.size + 2) := by rw [Hid, ← hB0, World.size_alloc, World.size_alloc]
  have hcells : ∀ W : World, Below B0.heap.size B0 W → W.cell? ⟨w.heap.size, 2, none⟩ = some (.string ⟨ta.toArray⟩) ∧ W.cell? ⟨w.heap.size + 1, 2, none⟩ = some (.string ⟨tb.toArray⟩) := fun W hb => by
    have e1 := (hb.block w.heap.size (by rw [hsz.out]; omega)).trans hblk.out.1
    have e2 := (hb.block (w.heap.size + 1) (by rw [hsz.out]; omega)).trans hblk.out.2
    simp [World.cell?, e1, e2]
  have HCE := Lib.hid hcells
  have LB := Lib.hid (HW.out.below hbel.out)
  have HB0 := Lib.hid hB0
  clear hw hl hcells hB0 hblk
  go_enter Tryd.func7, Tryd.ntmps7
  go_wp2_with fail
  rw [HB0.out]
  refine (awake_any _ LB.out).mono ?_
  rintro e w1 ⟨rfl, hb1⟩
  have B1 := Lib.hid hb1
  clear hb1
  obtain ⟨a2, b2⟩ := HCE.out _ B1.out
  go_wp2_with fail
  all_goals first
    | (exfalso; have := HL.out; omega)
    | (go_ret; exact ⟨rfl, hbel.out.trans (B1.out.mono (by rw [hsz.out]; omega))⟩)

theorem apart_any (ba bb : Bool) (na nb : Int) (ta tb : List UInt8) (cut : Int) (w : World) (hna : Bd.inR na) (hnb : Bd.inR nb) (ha : ta.length ≤ maxLen) (hb : tb.length ≤ maxLen) (hw : Lw w) :
    Calls Tryd.prog 7 #[.agg #[.bool ba, .int .i64 na, .string ⟨ta.toArray⟩], .agg #[.bool bb, .int .i64 nb, .string ⟨tb.toArray⟩], .int .i64 cut] w fun e w' => e = .returned (.bool true) ∧ Below w.heap.size w w' := by
  by_cases hl : ta.length ≤ 4096 ∧ tb.length ≤ 4096
  · obtain ⟨hta, htb⟩ := hl
    cases ba <;> cases bb
    · cases hs : (na == nb)
      · exact apart_ii0 na nb ta tb cut w hna hnb hta htb hw hs
      · exact apart_ii1 na nb ta tb cut w hna hnb hta htb hw hs
    · exact apart_it na nb ta tb cut w hna hnb hta htb hw
    · exact apart_ti na nb ta tb cut w hna hnb hta htb hw
    · cases hs : (ta == tb)
      · exact apart_tt0 na nb ta tb cut w hna hnb hta htb hw hs
      · exact apart_tt1 na nb ta tb cut w hna hnb hta htb hw hs
  · exact apart_wide ba bb na nb ta tb cut w hw ha hb hl

end Go.Proofs.YtikngajopmogcaaDoor
