/-
  GaugeStays: the walk.
  Conditions: none but the model's longest length.
-/
import Derived.Test.YtadioaeeobmdgaaGle
set_option linter.unusedVariables false
set_option linter.unusedSimpArgs false
namespace Go.Proofs.Ytadioaeeobmdgaa
open Go.RowKit Fl Go.Shelf
attribute [local go_sem] Oper.semAt_some run_store_complex

theorem keptB {S : Nat → Prop} {W W' : World} {b : Nat} {t : TypeId} {u : Value} (h : Boxed W b t u) (hk : Keeps S W W') (hs : ¬ S b) : Boxed W' b t u := (hk.block b h.lt hs).trans h
theorem ne_fl {a b : Nat} (ha : a < 2 ^ 53) (hb : b < 2 ^ 53) (h : a ≠ b) : (FloatKind.f64.format.order (fl a) (fl b) == some Ordering.eq) = false := by
  have : FloatKind.f64.format.order (fl a) (fl b) = some (compare a b) := order_fl ha hb
  rw [this]
  simpa [Nat.compare_eq_eq] using h
/-- Between two rounds of GaugeStays. -/
def StI (w : World) (B p b2 b3 n : Nat) (pre : List Pr) (W : World) : Prop :=
  Boxed W b2 4 (.bool false) ∧ Boxed W b3 24 (.pointer (some ⟨p, 0, none⟩)) ∧ Boxed W (b3 + 2) 3 (.int .i64 pre.length) ∧ Boxed W (b3 + 3) 30 (cx (lastUp pre)) ∧
    (∃ ms, ms.length = n ∧ GR B p b3 (b3 + 4) W ms) ∧ Below b2 w W ∧ b3 + 4 ≤ W.heap.size
theorem StI.own (w : World) (B p b2 b3 n : Nat) (h2 : b2 ≤ w.heap.size) (h3 : b2 ≤ b3 + 4) : OwnFrom (b3 + 4) (StI w B p b2 b3 n) := fun s X Y row hs hg hr => by
  obtain ⟨h1, h2', h3', h4, ⟨ms, hl, v, hv, ho⟩, hb, hz⟩ := hs
  have hr' : ∀ r, row = some r → ∃ o : Obj, X.heap[r]? = some o ∧ Obj.isCells o = false := fun r e => (hr r e).2
  exact ⟨boxed_own b2 4 (fun _ : Unit => _) () X Y row h1 hg hr', boxed_own b3 24 (fun _ : Unit => _) () X Y row h2' hg hr', boxed_own (b3 + 2) 3 (fun _ : Unit => _) () X Y row h3' hg hr', boxed_own (b3 + 3) 30 (fun _ : Unit => _) () X Y row h4 hg hr',
    ⟨ms, hl, v, hv.grown hg hr', ho⟩, hb.grown hg (Nat.le_trans h2 hb.size) (fun k e => Nat.le_trans h3 (hr k e).1), Nat.le_trans hz hg.size⟩

set_option maxRecDepth 100000 in
set_option maxHeartbeats 2000000 in
theorem stays_walk (v : Value) (zs : List (Int × Int)) (w : World) (h : Pairs w v zs) (hm : zs.length ≤ maxLen) :
    Calls Try.prog 8 #[v] w fun e w' => e = .returned (.bool true) ∧ Below w.heap.size w w' := by
  have HM := Lib.hid hm
  have hsm := Lib.hid (smalls_filled zs)
  have HBX := Lib.hid (show Below w.heap.size w (w.alloc (.cells #[.bool false] 4)) from (Below.refl _ _).alloc (Nat.le_refl _) _)
  have HP := Lib.hid (h.kept HBX.out)
  have Hr : Hid (Boxed (w.alloc (.cells #[.bool false] 4)) w.heap.size 4 (.bool false)) := Boxed.new w _ _
  clear h hm
  have hnf := eq_nilFunc
  refine (callsIn_wide (n := 6)).1 ?_
  refine callsIn_of_wp_marks Try.func8 rfl trivial ?_ rfl
  simp only [Try.ntmps8, List.size_toArray, List.length_cons, List.length_nil, Nat.reduceAdd, Nat.reduceSub, Array.replicate_succ, Array.replicate_zero, List.push_toArray, List.append_toArray, List.nil_append, List.cons_append]
  gi_wp2_with fail
  generalize hw0 : w.alloc (.cells #[.bool false] 4) = w0 at *
  have hs0 : Hid (w0.heap.size = w.heap.size + 1) := by rw [← hw0, Hid, World.size_alloc]
  clear hw0
  generalize hb2 : w.heap.size = b2 at *
  refine ⟨trivial, (callsIn_wide.2 (awake_any _)).mono ?_⟩
  rintro e w1 ⟨rfl, hb1⟩
  have HB1 := Lib.hid hb1
  have HP1 := Lib.hid (HP.out.kept hb1)
  clear hb1
  gi_wp2_with fail
  refine ⟨trivial, (callsIn_wide.2 (filled_any _ _ _ HP1.out HM.out)).mono ?_⟩
  rintro e w2 ⟨p, vr, rfl, hg2, hbf⟩
  have HB2 := Lib.hid (bt HB1.out hbf)
  have H2 := Lib.hid hg2
  clear hg2 hbf
  generalize filledOf zs = ns at H2 hsm
  have HR2 : Hid (Boxed w2 b2 4 (.bool false)) := (HB2.out.block b2 (by rw [hs0.out]; omega)).trans Hr.out
  have hbp : Hid (b2 < w1.heap.size ∧ w1.heap.size ≤ p ∧ p < w2.heap.size) := ⟨by have := HB1.out.size; rw [hs0.out] at this; omega, H2.out.2.1, H2.out.lt⟩
  have HBT : Hid (Below b2 w w2) := HBX.out.trans (HB2.out.mono (by rw [hs0.out]; omega))
  have HO2 : Hid (∀ g, vr.ownBlock = some g → g < w2.heap.size) := fun g hg => (H2.out.2.2.1.lt g hg).2
  generalize hw1s : w1.heap.size = B at *
  clear HP HBX Hr hs0 HB1 HP1 HB2 hw1s w1 w0
  have HB3 : Hid (Below b2 w (w2.alloc (.cells #[.pointer (some ⟨p, 0, none⟩)] 24))) := HBT.out.alloc (by have := hbp.out; omega) _
  have H3 : Hid (GRow (w2.alloc (.cells #[.pointer (some ⟨p, 0, none⟩)] 24)) B p vr ns) := H2.out.kept (S := fun _ => False) (Keeps.alloc _ _ _) id (fun _ _ => id)
  have HR3 : Hid (Boxed (w2.alloc (.cells #[.pointer (some ⟨p, 0, none⟩)] 24)) b2 4 (.bool false)) := HR2.out.alloc _
  have HX3 : Hid (Boxed (w2.alloc (.cells #[.pointer (some ⟨p, 0, none⟩)] 24)) w2.heap.size 24 (.pointer (some ⟨p, 0, none⟩))) := Boxed.new _ _ _
  have hs3 : Hid ((w2.alloc (.cells #[.pointer (some ⟨p, 0, none⟩)] 24)).heap.size = w2.heap.size + 1) := by rw [Hid, World.size_alloc]
  gi_wp2_with fail
  generalize w2.alloc (.cells #[.pointer (some ⟨p, 0, none⟩)] 24) = w3 at *
  generalize w2.heap.size = b3 at *
  clear H2 HR2 HBT w2
  have c3 := HX3.out.cell
  refine ⟨trivial, (callsIn_wide.2 (sumRow_any _ _ _ _ _ H3.out)).mono ?_⟩
  rintro e w4 ⟨rfl, n4, rfl⟩
  have HR4 : Hid (Boxed ((w3.drewN n4).alloc (.cells #[.pointer (some ⟨p, 0, none⟩)] 24)) b2 4 (.bool false)) := Boxed.alloc (W := w3.drewN n4) HR3.out _
  have HX4 : Hid (Boxed ((w3.drewN n4).alloc (.cells #[.pointer (some ⟨p, 0, none⟩)] 24)) b3 24 (.pointer (some ⟨p, 0, none⟩))) := Boxed.alloc (W := w3.drewN n4) HX3.out _
  have HA4 : Hid (Boxed ((w3.drewN n4).alloc (.cells #[.pointer (some ⟨p, 0, none⟩)] 24)) (b3 + 1) 24 (.pointer (some ⟨p, 0, none⟩))) := by
    have := Boxed.new (w3.drewN n4) 24 (.pointer (some ⟨p, 0, none⟩))
    rwa [show (w3.drewN n4).heap.size = b3 + 1 from hs3.out] at this
  have HB4 : Hid (Below b2 w ((w3.drewN n4).alloc (.cells #[.pointer (some ⟨p, 0, none⟩)] 24))) := (below_drewN HB3.out n4).alloc (by have := hbp.out; have := hs3.out; show b2 ≤ w3.heap.size; omega) _
  have H4 : Hid (GRow ((w3.drewN n4).alloc (.cells #[.pointer (some ⟨p, 0, none⟩)] 24)) B p vr ns) := (H3.out.drewN n4).kept (S := fun _ => False) (Keeps.alloc _ _ _) id (fun _ _ => id)
  have hs4 : Hid (((w3.drewN n4).alloc (.cells #[.pointer (some ⟨p, 0, none⟩)] 24)).heap.size = b3 + 2) := by rw [Hid, World.size_alloc, show (w3.drewN n4).heap.size = b3 + 1 from hs3.out]
  gi_wp2_with fail
  refine ⟨trivial, (callsIn_wide.2 (all_any p (w3.drewN n4))).mono ?_⟩
  rintro e w5 ⟨rfl, rfl⟩
  have c5 := HX4.out.cell
  rw [show (w3.drewN n4).heap.size = b3 + 1 from hs3.out]
  generalize (w3.drewN n4).alloc (.cells #[.pointer (some ⟨p, 0, none⟩)] 24) = w5 at *
  clear HR3 HX3 HB3 H3 hs3 c3 w3
  gi_wp2_with fail
  gi_wp2_with fail
  refine ⟨trivial, (callsIn_wide.2 (len_any _ _ _ _ _ H4.out)).mono ?_⟩
  rintro e w6 ⟨rfl, rfl⟩
  clear hnf
  have Hfin : Hid (StI w B p b2 b3 ns.length [] ((w5.alloc (.cells #[.int .i64 0] 3)).alloc (.cells #[.complex .f64 0 0] 30)) ∧
      Boxed ((w5.alloc (.cells #[.int .i64 0] 3)).alloc (.cells #[.complex .f64 0 0] 30)) (b3 + 1) 24 (.pointer (some ⟨p, 0, none⟩)) ∧ GRow ((w5.alloc (.cells #[.int .i64 0] 3)).alloc (.cells #[.complex .f64 0 0] 30)) B p vr ns ∧
      ((w5.alloc (.cells #[.int .i64 0] 3)).alloc (.cells #[.complex .f64 0 0] 30)).heap.size = b3 + 4) := by
    have hp := hbp.out
    have hg : GRow ((w5.alloc (.cells #[.int .i64 0] 3)).alloc (.cells #[.complex .f64 0 0] 30)) B p vr ns := (H4.out.kept (S := fun _ => False) (Keeps.alloc _ _ _) id (fun _ _ => id)).kept (S := fun _ => False) (Keeps.alloc _ _ _) id (fun _ _ => id)
    have hz : ((w5.alloc (.cells #[.int .i64 0] 3)).alloc (.cells #[.complex .f64 0 0] 30)).heap.size = b3 + 4 := by rw [World.size_alloc, World.size_alloc, hs4.out]
    refine ⟨⟨(HR4.out.alloc _).alloc _, (HX4.out.alloc _).alloc _, ?_, ?_, ⟨ns, rfl, vr, hg, fun g e => .inl (HO2.out g e)⟩, (HB4.out.alloc (by rw [hs4.out]; omega) _).alloc (by rw [World.size_alloc, hs4.out]; omega) _, by rw [hz]; exact Nat.le_refl _⟩, (HA4.out.alloc _).alloc _, hg, hz⟩
    · have := (Boxed.new w5 3 (.int .i64 0)).alloc (.cells #[.complex .f64 0 0] 30)
      rwa [hs4.out] at this
    · have := Boxed.new (w5.alloc (.cells #[.int .i64 0] 3)) 30 (.complex .f64 0 0)
      rw [World.size_alloc, hs4.out] at this
      exact this
  gi_wp2_with fail
  rw [hs4.out]
  generalize (w5.alloc (.cells #[.int .i64 0] 3)).alloc (.cells #[.complex .f64 0 0] 30) = W0 at *
  clear HR4 HX4 HA4 HB4 H4 hs4 c5 w5
  have hbn := hbp.out
  have hz0 := Hfin.out.2.2.2
  have hb2w : b2 ≤ w.heap.size := by omega
  have hsmo := hsm.out
  have hsl := hsmo.le
  refine wpIn_rangeFunc_ownF rfl (by omega) (gf := 30) (lb := #[.pointer (some ⟨b3 + 1, 0, none⟩)]) rfl trivial (enters_of Try.func30 (by kernel_rfl) rfl)
    (all_stops (6 - 1) (by omega) (b3 + 1) (b3 + 4) B p vr ns W0 (by omega) (by omega) Hfin.out.2.1.cell Hfin.out.2.2.1 hsmo) KpR.trans (KpR.book (by omega) (by omega)) (Below.refl _ _) (fun _ => rfl)
    (StI w B p b2 b3 ns.length) (fun c pre _ => c = .ret ∧ Off pre) (by rw [hz0]; exact StI.own w B p b2 b3 ns.length hb2w (by omega)) (fun c _ _ _ _ hs _ _ => hs) Hfin.out.1
    (fun x => { tmps := #[v, undef, Value.pointer (some { block := b2, off := 0 }), Value.pointer (some { block := b3, off := 0 }),
          cx (sA ns, sB ns), Value.func (Fn.func 30) #[] #[Value.pointer (some { block := b3 + 1, off := 0 })],
          Value.int IntKind.i64 ↑ns.length, Value.pointer (some { block := b3 + 2, off := 0 }),
          Value.pointer (some { block := b3 + 2 + 1, off := 0 }), cx x.1.1, cx x.1.2, Value.bool true, Value.bool false,
          v, Value.pointer (some { block := p, off := 0 }), Value.pointer (some { block := p, off := 0 }),
          cx (sA ns, sB ns), Value.pointer (some { block := p, off := 0 }),
          Value.func (Fn.func 30) #[] #[Value.pointer (some { block := b3 + 1, off := 0 })],
          Value.func (Fn.func 30) #[] #[Value.pointer (some { block := b3 + 1, off := 0 })], Value.bool false,
          Value.pointer (some { block := p, off := 0 }), Value.int IntKind.i64 ↑ns.length,
          Value.func (Fn.func 30) #[] #[Value.pointer (some { block := b3 + 1, off := 0 })], cx x.1.1, cx x.1.2, undef, undef,
          undef, undef, undef, undef, undef, undef, undef, undef, undef, undef, undef, undef, undef, undef, undef,
          undef, undef, undef, undef, undef], defers := [] }) ?assign ?body ?done ?stop
  case assign =>
    intro l x W K hK
    dsimp only [encs]
    gi_wp2
    exact hK
  case stop =>
    rintro D c pre W hD hpre ⟨_, hoff⟩ hK
    exact (hoff.not hpre).elim
  case body =>
    rintro l pre ⟨⟨⟨ca, cb⟩, ua, ub⟩, hx⟩ W ⟨h1, h2, h3, h4, ⟨ms, hml, hgr⟩, h6, h7⟩ hlen
    have hxx := Lib.hid hx
    simp only at hx
    dsimp only
    have hll := lastUp_lt pre
    have hsub := sub_cx 30 ua ub ca cb (by omega) (by omega) (by omega) (by omega)
    have c2 := h2.cell
    have c3 := h3.cell
    have c4 := h4.cell
    have f1 := h1.frozen
    have f3 := h3.frozen
    have f4 := h4.frozen
    have c1 := h1.cell
    have HL := Lib.hid (lastUp_snoc pre ⟨⟨⟨ca, cb⟩, ua, ub⟩, hxx.out⟩)
    have HOff : Hid ((ua - ca ≠ (lastUp pre).1 ∨ ub - cb ≠ (lastUp pre).2) → Off (pre ++ [⟨⟨⟨ca, cb⟩, ua, ub⟩, hxx.out⟩])) := fun h => ⟨pre, _, rfl, h⟩
    clear Hfin
    have hln : ns.length ≤ 60 := hsmo.1
    obtain ⟨W2, hW2⟩ : ∃ W2, (W.setCell ⟨b3 + 2 + 1, 0, none⟩ (.complex .f64 (fl ua) (fl ub))).setCell ⟨b3 + 2, 0, none⟩ (.int .i64 ((pre.length : Int) + 1)) = W2 := ⟨_, rfl⟩
    have HW : Hid (Boxed W2 b2 4 (.bool false) ∧ Boxed W2 b3 24 (.pointer (some ⟨p, 0, none⟩)) ∧ Boxed W2 (b3 + 2) 3 (.int .i64 ((pre.length : Int) + 1)) ∧ Boxed W2 (b3 + 3) 30 (cx (ua, ub)) ∧
        GR B p b3 (b3 + 4) W2 ms ∧ Below b2 w W2 ∧ KeepsOthers W W2 ∧ KpR (b3 + 4) p W W2 ∧ b3 + 4 ≤ W2.heap.size) := by
      have k1 : Keeps (fun k => k = b3 + 2 + 1) W (W.setCell ⟨b3 + 2 + 1, 0, none⟩ (.complex .f64 (fl ua) (fl ub))) := Keeps.setCell _ _ _ _ rfl
      have k2 : Keeps (fun k => k = b3 + 2) (W.setCell ⟨b3 + 2 + 1, 0, none⟩ (.complex .f64 (fl ua) (fl ub))) W2 := hW2 ▸ Keeps.setCell _ _ _ _ rfl
      refine ⟨keptB (keptB h1 k1 (by omega)) k2 (by omega), keptB (keptB h2 k1 (by omega)) k2 (by omega), ?_, ?_, (hgr.kept (by omega) k1 (fun k e => by omega)).kept (by omega) k2 (fun k e => by omega), ?_, ?_, ?_, ?_⟩
      · rw [← hW2]; exact Boxed.set _ (keptB h3 k1 (by omega))
      · exact keptB (b := b3 + 2 + 1) (Boxed.set (cx (ua, ub)) h4) k2 (by omega)
      · rw [← hW2]; exact (h6.setCell (p := ⟨b3 + 2 + 1, 0, none⟩) (by show b2 ≤ b3 + 2 + 1; omega) _).setCell (p := ⟨b3 + 2, 0, none⟩) (by show b2 ≤ b3 + 2; omega) _
      · rw [← hW2]; exact (KeepsOthers.setCell _ _ _).trans (KeepsOthers.setCell _ _ _)
      · rw [← hW2]; exact (KpR.set _ _ (by omega) (by omega)).trans (KpR.set _ _ (by omega) (by omega))
      · exact Nat.le_trans h7 (Nat.le_trans k1.size k2.size)
    clear hgr h1 h2 h3 h4 h6
    generalize lastUp pre = lu at *
    obtain ⟨la, lb⟩ := lu
    simp only at hll HOff
    by_cases e1 : ua - ca = la
    · by_cases e2 : ub - cb = lb
      · have g1 := eq_same hll.1
        have g2 := eq_same hll.2
        rw [e1, e2] at hsub
        clear HOff e1 e2
        obtain ⟨m0, mt, rfl⟩ : ∃ m0 mt, ms = m0 :: mt := by
          cases ms with
          | nil => simp at hml; omega
          | cons a b => exact ⟨a, b, rfl⟩
        have hmt : (m0 :: mt).length < 4096 := by omega
        have q5 := Lib.hid (part_lit (n := 5) (b := 4617315517961601024) (by decide +kernel) (by decide))
        have q1 := Lib.hid (part_lit (n := 1) (b := 4607182418800017408) (by decide +kernel) (by decide))
        have q0 := Lib.hid (part_lit (n := 0) (b := 0) (by decide +kernel) (by decide))
        have x2 := HW.out.2.1.cell
        gi_wp2_with fail
        clear hW2 x2 c1 c2 c3 c4 f1 f3 f4 hsub
        obtain ⟨v2, hg2, ho2⟩ := HW.out.2.2.2.2.1
        refine ⟨trivial, (CallsIn.inRound l (callsIn_wide.2 (push_any _ _ _ _ _ _ 5 5 _ hg2 hmt q5.out q5.out))).mono ?_⟩
        rintro e W3 ⟨rfl, v3, hg3, ht3⟩
        obtain ⟨mv3, gr3⟩ := Mv.of (L := b3 + 4) (by omega) (by omega) HW.out.2.2.2.2.2.2.2.2 hg2 (by simp) ho2 ht3 hg3
        have M3 := Lib.hid mv3
        have G3 := Lib.hid gr3
        have x3 := (Boxed.cell (show Boxed W3 b3 24 _ from (mv3.boxes b3 (by omega) (by omega)).trans HW.out.2.1))
        clear hg2 ho2 hg3 ht3 mv3 gr3
        gi_wp2_with fail
        obtain ⟨v3', hg3, ho3⟩ := G3.out
        refine ⟨trivial, (CallsIn.inRound l (callsIn_wide.2 (set_any _ _ _ _ 0 _ _ 1 0 _ hg3 (by simp) q1.out q0.out))).mono ?_⟩
        rintro e W4 ⟨rfl, v4, hg4, ht4⟩
        obtain ⟨mv4, gr4⟩ := Mv.of (L := b3 + 4) (by omega) (by omega) (Nat.le_trans HW.out.2.2.2.2.2.2.2.2 M3.out.kp.size) hg3 (by simp) ho3 ht4 hg4
        have M4 := Lib.hid (M3.out.trans mv4)
        have G4 : Hid (GR B p b3 (b3 + 4) W4 ((1, 0) :: (mt ++ [(5, 5)]))) := gr4
        have x4 := (Boxed.cell (show Boxed W4 b3 24 _ from (M4.out.boxes b3 (by omega) (by omega)).trans HW.out.2.1))
        clear hg3 ho3 hg4 ht4 mv4 gr4 M3 G3 x3
        gi_wp2_with fail
        obtain ⟨v4', hg4, ho4⟩ := G4.out
        refine ⟨trivial, (CallsIn.inRound l (callsIn_wide.2 (shift_any _ _ _ _ _ _ hg4))).mono ?_⟩
        rintro e W5 ⟨rfl, v5, hg5, ht5⟩
        obtain ⟨mv5, gr5⟩ := Mv.of (L := b3 + 4) (by omega) (by omega) (Nat.le_trans HW.out.2.2.2.2.2.2.2.2 M4.out.kp.size) hg4 (by simp) ho4 ht5 hg5
        have M5 := Lib.hid (M4.out.trans mv5)
        have G5 := Lib.hid gr5
        clear hg4 ho4 hg5 ht5 mv5 gr5 M4 G4 x4
        gi_wp2
        obtain ⟨a1, a2, a3, a4, _, a6, a7, a8, a9⟩ := HW.out
        have hB2 : Below B W2 W5 := M5.out.bel
        refine ⟨a7.trans M5.out.others, a8.trans M5.out.kp, ?_, (M5.out.boxes b3 (by omega) (by omega)).trans a2, ?_, ?_, ⟨_, ?_, G5.out⟩, a6.trans (hB2.mono (by omega)), Nat.le_trans a9 M5.out.kp.size⟩
        · exact (hB2.block b2 (by omega)).trans a1
        · rw [List.length_append]
          exact (M5.out.boxes (b3 + 2) (by omega) (by omega)).trans a3
        · rw [HL.out]
          exact (M5.out.boxes (b3 + 3) (by omega) (by omega)).trans a4
        · simp at hml ⊢; omega
      · have g2 := ne_fl (by omega) hll.2 e2
        have g1 := eq_same hll.1
        have hoff := Lib.hid (HOff.out (.inr e2))
        rw [e1] at hsub
        clear e2 HL HW hW2 HOff
        gi_wp2
        exact ⟨KeepsOthers.setCell _ _ _, rfl, hoff.out⟩
    · have g1 := ne_fl (by omega) hll.1 e1
      have hoff := Lib.hid (HOff.out (.inl e1))
      clear e1 HL HW hW2 HOff
      gi_wp2
      exact ⟨KeepsOthers.setCell _ _ _, rfl, hoff.out⟩
  case done =>
    rintro D xs W hD hxs ⟨h1, h2, h3, h4, _, h6, _⟩ hK
    have hlx : xs.length = ns.length := by have := congrArg List.length hxs; simpa [goAll_length] using this
    rw [lastUp_all ns ns.length xs hxs, List.take_length] at h4
    rw [hlx] at h3
    have g1 := eq_same (n := sA ns) (by omega)
    have g2 := eq_same (n := sB ns) (by omega)
    have c1 := h1.cell
    have f1 := h1.frozen
    have c3 := h3.cell
    have c4 := h4.cell
    clear Hfin
    gi_wp2
    have hK' := (KeepsOthers.setCell W ⟨b2, 0, none⟩ (.bool true)).same D _ hK rfl
    have hc5 := cell_kept (World.cell?_setCell_same' W ⟨b2, 0, none⟩ (.bool true) (by rw [c1]; rfl)) (grownBy_putObj' _ D (.deferred none)) (fun r e => by cases e; exact ⟨_, hK', rfl⟩)
    refine ⟨by simp, .inl ⟨_, _, rfl, run_takeDeferred hK', ?_⟩⟩
    refine ⟨.bool true, ?_, rfl, ?_⟩
    · simp [results, Try.f8, go_sem, hc5]
    · subst hb2
      exact (h6.setCell (p := ⟨w.heap.size, 0, none⟩) (Nat.le_refl _) _).trans (belowK_b (w := w) (Nat.le_refl _) _ D _ _ (by omega) hK' rfl rfl)

end Go.Proofs.Ytadioaeeobmdgaa
