/-
  GaugeOf: the size of every batch.
  Conditions: the library's variables hold what they are laid with.
-/
import Derived.Test.YtadioaeeobmdgaaDoorGwf
import Derived.Test.YtadioaeeobmdgaaDoorCrh
import Derived.Test.YtadioaeeobmdgaaDoorCl
import Derived.Test.YtadioaeeobmdgaaDoorQt
set_option linter.unusedVariables false
set_option linter.unusedSimpArgs false
namespace Go.Proofs.YtadioaeeobmdgaaDoor
open Go.RowKit Fl

theorem any_step (l : List Cr.Rec) (f : Cr.Rec → Bool) (k : Nat) (x : Cr.Rec) (h : l[k]? = some x) : (l.drop k).any f = (f x || (l.drop (k + 1)).any f) := by
  obtain ⟨hk, rfl⟩ := List.getElem?_eq_some_iff.1 h
  rw [List.drop_eq_getElem_cons hk]
  rfl
/-- A size that the document reads. -/
abbrev szV (q : Nat × Nat) : Value := .agg #[.int .i64 q.1, .int .i64 q.2]
/-- A batch's size. -/
def szOf (b : Cr.Batch) : Nat × Nat := if Cr.good b then (b.recs.length, 8 + (Cr.enc b).length) else (0, 0)
theorem szOf_le (b : Cr.Batch) : (szOf b).1 < 2 ^ 53 ∧ (szOf b).2 < 2 ^ 53 := by
  unfold szOf
  split
  · rename_i h
    have := Cr.enc_len h
    constructor <;> dsimp only <;> omega
  · constructor <;> decide
theorem batCl (w : World) (b : Cr.Batch) (rv : Value) : Cl (w.alloc (.cells #[.int .i64 b.base, .int .i64 b.count, .int .i64 b.prod, .int .i64 b.seq, .int .i64 b.time, rv] 24)) w.heap.size [.int .i64 b.base, .int .i64 b.count, .int .i64 b.prod, .int .i64 b.seq, .int .i64 b.time, rv] 24 := Cl.new _ _ _

set_option maxRecDepth 20000 in
set_option maxHeartbeats 1000000 in
theorem complex_any (a b : Nat) (w : World) :
    Calls Tryd.prog 7 #[szV (a, b)] w fun e w' => e = .returned (cx (a, b)) ∧ Below w.heap.size w w' := by
  have ha := floatOfInt_fl a
  have hb := floatOfInt_fl b
  have B0 : Hid (Below w.heap.size w (w.alloc (.cells #[.int .i64 a, .int .i64 b] 31))) := (Below.refl _ _).alloc (Nat.le_refl _) _
  go_enter Tryd.func7, Tryd.ntmps7
  go_wp2
  go_ret
  exact ⟨rfl, B0.out⟩

set_option maxRecDepth 20000 in
set_option maxHeartbeats 1600000 in
theorem of_any (b : Cr.Batch) (hok : BatOk b) (rv : Value) (w : World) (h : Recs w rv b.recs) (hw : Lw w) :
    Calls Tryd.prog 5 #[batV b rv] w fun e w' => e = .returned (cx (szOf b)) ∧ Below w.heap.size w w' := by
  have HW := Lib.hid hw
  have HZ := Lib.hid h
  have HO := Lib.hid hok
  have hl := hok.2.2.2.2.2.1
  unfold maxLen at hl
  obtain ⟨a, cap, rfl⟩ := h.form
  have B0 : Hid (Below w.heap.size w (w.alloc (.cells #[.int .i64 b.base, .int .i64 b.count, .int .i64 b.prod, .int .i64 b.seq, .int .i64 b.time, .slice a b.recs.length cap] 24))) := (Below.refl _ _).alloc (Nat.le_refl _) _
  have C0 := Lib.hid (batCl w b (.slice a b.recs.length cap))
  obtain ⟨c0, c1, c2, c3, c4, c5⟩ := C0.out.cell6
  have HE := Lib.hid (encode_any b HO.out _ _ (HZ.out.kept B0.out) (HW.out.below B0.out))
  clear h hw hok
  unfold batV at HE ⊢
  go_enter Tryd.func5, Tryd.ntmps5
  go_wp2_with fail
  refine HE.out.mono ?_
  rintro e w3 ⟨rfl, hb3⟩
  have B3 := Lib.hid (bt B0.out hb3)
  have C3 := Lib.hid (C0.out.below hb3)
  clear hb3 C0 HE c0 c1 c2 c3 c4 c5
  obtain ⟨c0, c1, c2, c3, c4, c5⟩ := C3.out.cell6
  cases hg : Cr.good b with
  | false =>
    have HX : Hid (encR b = .tuple #[.string ⟨#[]⟩, .int .i64 1]) := by rw [Hid, encR, if_neg (by rw [hg]; decide)]
    have HS : Hid (szOf b = (0, 0)) := by rw [Hid, szOf, if_neg (by rw [hg]; decide)]
    rw [HX.out]
    go_wp2
    go_ret
    exact ⟨by rw [HS.out, cx, fl_zero]; rfl, B3.out⟩
  | true =>
    have HX : Hid (encR b = .tuple #[.string ⟨(Cr.enc b).toArray⟩, .int .i64 0]) := by rw [Hid, encR, if_pos hg]
    have HS : Hid (szOf b = (b.recs.length, 8 + (Cr.enc b).length)) := by rw [Hid, szOf, if_pos hg]
    obtain ⟨l1, l2, l3⟩ := Cr.enc_len hg
    rw [HX.out]
    clear hg HX
    generalize Cr.enc b = l at *
    generalize b.recs.length = n at *
    have f1 := floatOfInt_fl n
    have f2 : floatOfInt .f64 (8 + (l.length : Int)) = fl (8 + l.length) := by
      have := floatOfInt_fl (8 + l.length)
      rwa [Int.natCast_add] at this
    go_wp2
    go_ret
    exact ⟨by rw [HS.out]; rfl, B3.out⟩

set_option maxRecDepth 20000 in
set_option maxHeartbeats 1600000 in
theorem refof_any (b : Cr.Batch) (hok : BatOk b) (rv : Value) (w : World) (h : Recs w rv b.recs) :
    Calls Tryd.prog 6 #[batV b rv] w fun e w' => e = .returned (szV (szOf b)) ∧ Below w.heap.size w w' := by
  have HZ := Lib.hid h
  have HO := Lib.hid hok
  have hl := hok.2.2.2.2.2.1
  unfold maxLen at hl
  obtain ⟨a, cap, rfl⟩ := h.form
  have B00 : Hid (Below w.heap.size w (w.alloc (.cells #[.int .i64 b.base, .int .i64 b.count, .int .i64 b.prod, .int .i64 b.seq, .int .i64 b.time, .slice a b.recs.length cap] 24))) := (Below.refl _ _).alloc (Nat.le_refl _) _
  have C00 := Lib.hid (batCl w b (.slice a b.recs.length cap))
  have B0 : Hid (Below w.heap.size w ((w.alloc (.cells #[.int .i64 b.base, .int .i64 b.count, .int .i64 b.prod, .int .i64 b.seq, .int .i64 b.time, .slice a b.recs.length cap] 24)).alloc (.cells #[.int .i64 0, .int .i64 0] 31))) := B00.out.alloc (B00.out.size) _
  have C0 := Lib.hid (C00.out.alloc (.cells #[.int .i64 0, .int .i64 0] 31))
  have D0 : Hid (Cl ((w.alloc (.cells #[.int .i64 b.base, .int .i64 b.count, .int .i64 b.prod, .int .i64 b.seq, .int .i64 b.time, .slice a b.recs.length cap] 24)).alloc (.cells #[.int .i64 0, .int .i64 0] 31)) (w.heap.size + 1) [.int .i64 0, .int .i64 0] 31) := by
    have := Cl.new (w.alloc (.cells #[.int .i64 b.base, .int .i64 b.count, .int .i64 b.prod, .int .i64 b.seq, .int .i64 b.time, .slice a b.recs.length cap] 24)) [.int .i64 0, .int .i64 0] 31
    rwa [show (w.alloc (.cells #[.int .i64 b.base, .int .i64 b.count, .int .i64 b.prod, .int .i64 b.seq, .int .i64 b.time, .slice a b.recs.length cap] 24)).heap.size = w.heap.size + 1 from by simp] at this
  obtain ⟨c0, c1, c2, c3, c4, c5⟩ := C0.out.cell6
  have HE := Lib.hid (refencode_any b HO.out _ _ (HZ.out.kept B0.out))
  clear h hok
  unfold batV at HE ⊢
  go_enter Tryd.func6, Tryd.ntmps6
  go_wp2_with fail
  refine HE.out.mono ?_
  rintro e w3 ⟨rfl, hb3⟩
  have B3 := Lib.hid (bt B0.out hb3)
  have C3 := Lib.hid (C0.out.below hb3)
  have D3 := Lib.hid (D0.out.below hb3)
  have hsz : w.heap.size ≤ w.heap.size + 1 := by omega
  clear hb3 C0 HE c0 c1 c2 c3 c4 c5 D0 C00 B00 B0
  obtain ⟨c0, c1, c2, c3, c4, c5⟩ := C3.out.cell6
  have d0 : w3.cell? ⟨w.heap.size + 1, 0, none⟩ = some (.int .i64 0) := D3.out.cell 0
  have d1 : w3.cell? ⟨w.heap.size + 1, 1, none⟩ = some (.int .i64 0) := D3.out.cell 1
  have df0 := D3.out.free 0
  have df1 := D3.out.free 1
  cases hg : Cr.good b with
  | false =>
    have HX : Hid (encR b = .tuple #[.string ⟨#[]⟩, .int .i64 1]) := by rw [Hid, encR, if_neg (by rw [hg]; decide)]
    have HS : Hid (szOf b = (0, 0)) := by rw [Hid, szOf, if_neg (by rw [hg]; decide)]
    rw [HX.out]
    clear hg HX
    go_wp2
    refine bodyPost_ret (results_cl rfl _ _ _ _ _ _ rfl ((D3.out.set 0 (.int .i64 0)).set 1 (.int .i64 0)) Tryd.underlying31 rfl (by kernel_rfl)) rfl ?_
    exact ⟨by rw [HS.out]; rfl, (B3.out.setCell hsz _).setCell hsz _⟩
  | true =>
    have HX : Hid (encR b = .tuple #[.string ⟨(Cr.enc b).toArray⟩, .int .i64 0]) := by rw [Hid, encR, if_pos hg]
    have HS : Hid (szOf b = (b.recs.length, 8 + (Cr.enc b).length)) := by rw [Hid, szOf, if_pos hg]
    obtain ⟨l1, l2, l3⟩ := Cr.enc_len hg
    rw [HX.out]
    clear hg HX
    generalize Cr.enc b = l at *
    generalize b.recs.length = n at *
    go_wp2
    refine bodyPost_ret (results_cl rfl _ _ _ _ _ _ rfl ((D3.out.set 0 (.int .i64 n)).set 1 (.int .i64 (8 + l.length))) Tryd.underlying31 rfl (by kernel_rfl)) rfl ?_
    exact ⟨by rw [HS.out]; rfl, (B3.out.setCell hsz _).setCell hsz _⟩

def greatB (l : List Cr.Rec) : Bool := decide (40 < l.length) || l.any fun x => decide (1000 < x.key.length) || decide (1000 < x.val.length)
theorem eq_cx (q : Nat × Nat) (h : q.1 < 2 ^ 53 ∧ q.2 < 2 ^ 53) (w : World) : (binOp .eql 28 (cx q) (cx q)).run Tryd.prog w = .ok (.bool true) w := by
  have e1 := eq_same h.1
  have e2 := eq_same h.2
  have e3 : (FloatKind.f64.format.order (fl q.1) (fl q.1) == some Ordering.eq && FloatKind.f64.format.order (fl q.2) (fl q.2) == some Ordering.eq) = true := by rw [e1, e2]; rfl
  simp [binOp, Op.complexOp, Op.Complex.cmp, Op.floatCmp, asBool, e1, e2]
set_option maxRecDepth 20000 in
set_option maxHeartbeats 3200000 in
theorem gaugeof_walk (b : Cr.Batch) (hok : BatOk b) (rv : Value) (w : World) (h : Recs w rv b.recs) (hw : Lw w) :
    Calls Tryd.prog 3 #[batV b rv] w fun e w' => e = .returned (.bool true) ∧ Below w.heap.size w w' := by
  have HW := Lib.hid hw
  have HZ := Lib.hid h
  have HO := Lib.hid hok
  have HR := Lib.hid hok.2.2.2.2.2.2
  have hl := hok.2.2.2.2.2.1
  unfold maxLen at hl
  obtain ⟨a, cap, rfl⟩ := h.form
  have B0 : Hid (Below w.heap.size w (w.alloc (.cells #[.int .i64 b.base, .int .i64 b.count, .int .i64 b.prod, .int .i64 b.seq, .int .i64 b.time, .slice a b.recs.length cap] 24))) := (Below.refl _ _).alloc (Nat.le_refl _) _
  have C0 := Lib.hid (batCl w b (.slice a b.recs.length cap))
  clear h hw hok
  unfold batV
  go_enter Tryd.func3, Tryd.ntmps3
  go_wp2_with fail
  refine (awake_any _).mono ?_
  rintro e w1 ⟨rfl, hb1⟩
  have B1 := Lib.hid (bt B0.out hb1)
  have C1 := Lib.hid (C0.out.below hb1)
  clear hb1 C0 B0
  obtain ⟨c0, c1, c2, c3, c4, c5⟩ := C1.out.cell6
  by_cases h1 : 40 < b.recs.length
  · generalize b.recs.length = n at *
    go_wp2
    go_ret
    exact ⟨rfl, B1.out⟩
  · go_wp2
    go_loopw [3] (fun i wr => ∃ k : Nat, i = .int .i64 k ∧ k ≤ b.recs.length ∧ wr = w1) (fun i _ => b.recs.length - (intOf i).toNat)
    case atStart => exact ⟨0, rfl, by omega, rfl⟩
    case round =>
      obtain ⟨k, rfl, hk, rfl⟩ := hrel
      by_cases hlt : k < b.recs.length
      · obtain ⟨x, hx⟩ : ∃ x, b.recs[k]? = some x := ⟨b.recs[k], by simp [hlt]⟩
        have hxo := HR.out x (List.mem_of_getElem? hx)
        obtain ⟨g, off, cap', he, hg, p0, p1, p2, p3⟩ := HZ.out.get B1.out hx
        injection he with he1 he2 he3
        subst he1 he3
        obtain ⟨x0, xk, xv, xg⟩ := x
        obtain ⟨-, xkl, xvl⟩ := hxo
        unfold maxLen at xkl xvl
        dsimp only at *
        clear he2 hx
        by_cases h2 : 1000 < xk.length
        · go_wp2
          go_ret
          exact ⟨rfl, B1.out⟩
        · by_cases h3 : 1000 < xv.length
          · go_wp2
            go_ret
            exact ⟨rfl, B1.out⟩
          · go_wp2
            go_roundw
            case rel => exact ⟨k + 1, by go_num, by omega, by simp⟩
            case measure => simp [intOf]; omega
      · obtain rfl : k = b.recs.length := by omega
        go_wp2_with fail
        have HS := szOf_le b
        have I1 := Lib.hid (below_class (w := wr) fun W hW => of_any b HO.out _ W (HZ.out.kept (bt B1.out hW)) (HW.out.below (bt B1.out hW)))
        have I2 := Lib.hid (below_class (w := wr) fun W hW => refof_any b HO.out _ W (HZ.out.kept (bt B1.out hW)))
        have I3 := Lib.hid (below_class (w := wr) fun W hW => complex_any (szOf b).1 (szOf b).2 W)
        have m0 := fun x : BelowOf wr => x.cell c0
        have m1 := fun x : BelowOf wr => x.cell c1
        have m2 := fun x : BelowOf wr => x.cell c2
        have m3 := fun x : BelowOf wr => x.cell c3
        have m4 := fun x : BelowOf wr => x.cell c4
        have m5 := fun x : BelowOf wr => x.cell c5
        have heq := eq_cx (szOf b) HS
        unfold batV at I1 I2
        generalize szOf b = q at *
        clear HS
        obtain ⟨q1, q2⟩ := q
        refine wp_region_below (by kernel_rfl) (by kernel_rfl) ?_
        repeat (go_big_quiet_step (fail))
        go_big_quiet_step ((exact I1.out _))
        repeat (go_big_quiet_step (fail))
        go_big_quiet_step ((exact I2.out _))
        repeat (go_big_quiet_step (fail))
        go_big_quiet_step ((exact I3.out _))
        repeat (go_big_quiet_step (fail))
        refine wpQuiet_nil ?_
        intro w9 hC9
        obtain ⟨⟨w9, hb9⟩, rfl⟩ := hC9
        have B9 := Lib.hid (bt B1.out hb9)
        clear hb9 m0 m1 m2 m3 m4 m5
        go_wp2
        go_ret
        exact ⟨rfl, B9.out⟩

end Go.Proofs.YtadioaeeobmdgaaDoor
