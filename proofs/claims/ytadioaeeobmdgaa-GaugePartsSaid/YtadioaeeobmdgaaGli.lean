/-
  GaugeParts: the walk.
  Conditions: none but the model's longest length.
-/
import Derived.Test.YtadioaeeobmdgaaGlh
set_option linter.unusedVariables false
set_option linter.unusedSimpArgs false
namespace Go.Proofs.Ytadioaeeobmdgaa
open Go.RowKit Fl Go.Shelf
attribute [local go_sem] Oper.semAt_some run_store_complex

set_option maxRecDepth 100000 in
set_option maxHeartbeats 2000000 in
theorem parts_walk (v : Value) (zs : List (Int × Int)) (at' : Int) (w : World) (h : Pairs w v zs) (hm : zs.length ≤ maxLen) :
    Calls Try.prog 7 #[v, .int .i64 at'] w fun e w' => e = .returned (.bool true) ∧ Below w.heap.size w w' := by
  have HM := Lib.hid hm
  have hsm := Lib.hid (smalls_filled zs)
  have hmx : Try.prog.follows .mixedOrders = true := by kernel_rfl
  have HBX := Lib.hid (show Below w.heap.size w ((w.alloc (.cells #[.int .i64 at'] 3)).alloc (.cells #[.bool false] 4)) from ((Below.refl _ _).alloc (Nat.le_refl _) _).alloc (by rw [World.size_alloc]; omega) _)
  have HP := Lib.hid (h.kept HBX.out)
  have Hr : Hid (Boxed ((w.alloc (.cells #[.int .i64 at'] 3)).alloc (.cells #[.bool false] 4)) w.heap.size 3 (.int .i64 at') ∧ Boxed ((w.alloc (.cells #[.int .i64 at'] 3)).alloc (.cells #[.bool false] 4)) (w.heap.size + 1) 4 (.bool false)) := by
    refine ⟨(Boxed.new w _ _).alloc _, ?_⟩
    have := Boxed.new (w.alloc (.cells #[.int .i64 at'] 3)) 4 (.bool false)
    rwa [World.size_alloc] at this
  have hs0' : Hid (((w.alloc (.cells #[.int .i64 at'] 3)).alloc (.cells #[.bool false] 4)).heap.size = w.heap.size + 2) := by rw [Hid, World.size_alloc, World.size_alloc]
  clear h hm
  have hnf := eq_nilFunc
  refine (callsIn_wide (n := 6)).1 ?_
  refine callsIn_of_wp_marks Try.func7 rfl trivial ?_ rfl
  simp only [Try.ntmps7, List.size_toArray, List.length_cons, List.length_nil, Nat.reduceAdd, Nat.reduceSub, Array.replicate_succ, Array.replicate_zero, List.push_toArray, List.append_toArray, List.nil_append, List.cons_append]
  gi_wp2_with fail
  generalize hw0 : (w.alloc (.cells #[.int .i64 at'] 3)).alloc (.cells #[.bool false] 4) = w0 at *
  have hs0 : Hid (w0.heap.size = w.heap.size + 2) := hs0'.out
  clear hw0 hs0'
  generalize hb2 : w.heap.size = ba at *
  refine ⟨trivial, (callsIn_wide.2 (awake_any _)).mono ?_⟩
  rintro e w1 ⟨rfl, hb1⟩
  have HB1 := Lib.hid hb1
  have HP1 := Lib.hid (HP.out.kept hb1)
  clear hb1
  gi_wp2_with fail
  refine ⟨trivial, (callsIn_wide.2 (filled_any _ _ _ HP1.out HM.out)).mono ?_⟩
  rintro e w2 ⟨p, vr, rfl, hg2, hbf⟩
  have HB2 := Lib.hid (bt HB1.out hbf)
  have H2 := Lib.hid hg2
  clear hg2 hbf
  generalize filledOf zs = ns at H2 hsm
  have hs0o := hs0.out
  have HR2 : Hid (Boxed w2 ba 3 (.int .i64 at') ∧ Boxed w2 (ba + 1) 4 (.bool false)) := ⟨(HB2.out.block ba (by omega)).trans Hr.out.1, (HB2.out.block (ba + 1) (by omega)).trans Hr.out.2⟩
  have hbp : Hid (ba + 1 < w1.heap.size ∧ w1.heap.size ≤ p ∧ p < w2.heap.size) := ⟨by have := HB1.out.size; omega, H2.out.2.1, H2.out.lt⟩
  have HBT : Hid (Below ba w w2) := HBX.out.trans (HB2.out.mono (by omega))
  have HO2 : Hid (∀ g, vr.ownBlock = some g → g < w2.heap.size) := fun g hg => (H2.out.2.2.1.lt g hg).2
  generalize hw1s : w1.heap.size = B at *
  clear HP HBX Hr hs0 hs0o HB1 HP1 HB2 hw1s w1 w0
  have HB3 : Hid (Below ba w (w2.alloc (.cells #[.pointer (some ⟨p, 0, none⟩)] 24))) := HBT.out.alloc (by have := hbp.out; omega) _
  have H3 : Hid (GRow (w2.alloc (.cells #[.pointer (some ⟨p, 0, none⟩)] 24)) B p vr ns) := H2.out.kept (S := fun _ => False) (Keeps.alloc _ _ _) id (fun _ _ => id)
  have HR3 : Hid (Boxed (w2.alloc (.cells #[.pointer (some ⟨p, 0, none⟩)] 24)) ba 3 (.int .i64 at') ∧ Boxed (w2.alloc (.cells #[.pointer (some ⟨p, 0, none⟩)] 24)) (ba + 1) 4 (.bool false)) := ⟨HR2.out.1.alloc _, HR2.out.2.alloc _⟩
  have HX3 : Hid (Boxed (w2.alloc (.cells #[.pointer (some ⟨p, 0, none⟩)] 24)) w2.heap.size 24 (.pointer (some ⟨p, 0, none⟩))) := Boxed.new _ _ _
  have hs3 : Hid ((w2.alloc (.cells #[.pointer (some ⟨p, 0, none⟩)] 24)).heap.size = w2.heap.size + 1) := by rw [Hid, World.size_alloc]
  have c3 := HX3.out.cell
  gi_wp2_with fail
  generalize w2.alloc (.cells #[.pointer (some ⟨p, 0, none⟩)] 24) = w3 at *
  generalize w2.heap.size = b3 at *
  clear H2 HR2 HBT w2
  refine ⟨trivial, (callsIn_wide.2 (all_any p w3)).mono ?_⟩
  rintro e w5 ⟨rfl, rfl⟩
  have HR4 : Hid (Boxed (w3.alloc (.cells #[.pointer (some ⟨p, 0, none⟩)] 24)) ba 3 (.int .i64 at') ∧ Boxed (w3.alloc (.cells #[.pointer (some ⟨p, 0, none⟩)] 24)) (ba + 1) 4 (.bool false)) := ⟨HR3.out.1.alloc _, HR3.out.2.alloc _⟩
  have HX4 : Hid (Boxed (w3.alloc (.cells #[.pointer (some ⟨p, 0, none⟩)] 24)) b3 24 (.pointer (some ⟨p, 0, none⟩))) := HX3.out.alloc _
  have HA4 : Hid (Boxed (w3.alloc (.cells #[.pointer (some ⟨p, 0, none⟩)] 24)) (b3 + 1) 24 (.pointer (some ⟨p, 0, none⟩))) := by
    have := Boxed.new w3 24 (.pointer (some ⟨p, 0, none⟩))
    rwa [hs3.out] at this
  have HB4 : Hid (Below ba w (w3.alloc (.cells #[.pointer (some ⟨p, 0, none⟩)] 24))) := HB3.out.alloc (by have := hbp.out; have := hs3.out; omega) _
  have H4 : Hid (GRow (w3.alloc (.cells #[.pointer (some ⟨p, 0, none⟩)] 24)) B p vr ns) := H3.out.kept (S := fun _ => False) (Keeps.alloc _ _ _) id (fun _ _ => id)
  have hs4 : Hid ((w3.alloc (.cells #[.pointer (some ⟨p, 0, none⟩)] 24)).heap.size = b3 + 2) := by rw [Hid, World.size_alloc, hs3.out]
  rw [hs3.out]
  generalize w3.alloc (.cells #[.pointer (some ⟨p, 0, none⟩)] 24) = w5 at *
  clear HR3 HX3 HB3 H3 hs3 c3 w3
  have Hfin : Hid (PaI w B p ba b3 at' vr ns 0 (restOf at' []) ((w5.alloc (.cells #[.int .i64 0] 3)).alloc (.cells #[.complex .f64 0 0] 30)) ∧
      ((w5.alloc (.cells #[.int .i64 0] 3)).alloc (.cells #[.complex .f64 0 0] 30)).heap.size = b3 + 4) := by
    have hp := hbp.out
    have hg : GRow ((w5.alloc (.cells #[.int .i64 0] 3)).alloc (.cells #[.complex .f64 0 0] 30)) B p vr ns := (H4.out.kept (S := fun _ => False) (Keeps.alloc _ _ _) id (fun _ _ => id)).kept (S := fun _ => False) (Keeps.alloc _ _ _) id (fun _ _ => id)
    have hz : ((w5.alloc (.cells #[.int .i64 0] 3)).alloc (.cells #[.complex .f64 0 0] 30)).heap.size = b3 + 4 := by rw [World.size_alloc, World.size_alloc, hs4.out]
    refine ⟨⟨(HR4.out.1.alloc _).alloc _, (HR4.out.2.alloc _).alloc _, (HX4.out.alloc _).alloc _, (HA4.out.alloc _).alloc _, ?_, ?_, hg, (HB4.out.alloc (by rw [hs4.out]; omega) _).alloc (by rw [World.size_alloc, hs4.out]; omega) _, by rw [hz]; exact Nat.le_refl _⟩, hz⟩
    · have := (Boxed.new w5 3 (.int .i64 0)).alloc (.cells #[.complex .f64 0 0] 30)
      rwa [hs4.out] at this
    · have := Boxed.new (w5.alloc (.cells #[.int .i64 0] 3)) 30 (.complex .f64 0 0)
      rw [World.size_alloc, hs4.out] at this
      rw [show restOf at' [] = (0, 0) by simp [restOf, sA, sB]]
      exact this
  gi_wp2_with fail
  rw [hs4.out]
  generalize (w5.alloc (.cells #[.int .i64 0] 3)).alloc (.cells #[.complex .f64 0 0] 30) = W0 at *
  clear HR4 HX4 HA4 HB4 H4 hs4 w5 hnf
  have hbn := hbp.out
  have hz0 := Hfin.out.2
  have hb2w : ba ≤ w.heap.size := by omega
  have hsmo := hsm.out
  have hsl := hsmo.le
  have hln : ns.length ≤ 60 := hsmo.1
  refine wpIn_rangeFunc_ownF rfl (by omega) (gf := 30) (lb := #[.pointer (some ⟨b3 + 1, 0, none⟩)]) rfl trivial (enters_of Try.func30 (by kernel_rfl) rfl)
    (all_stops (6 - 1) (by omega) (b3 + 1) (b3 + 4) B p vr ns W0 (by omega) (by omega) Hfin.out.1.2.2.2.1.cell Hfin.out.1.2.2.2.2.2.2.1 hsmo) KpR.trans (KpR.book (by omega) (by omega)) (Below.refl _ _) (fun _ => rfl)
    (fun pre W => PaI w B p ba b3 at' vr ns pre.length (restOf at' pre) W) (fun c pre _ => c = .ret ∧ Off2 ns pre) (fun s X Y row hs hg hr => hs.grown hg (by rw [← hz0]; exact hr) hb2w (by omega)) (fun c _ _ _ _ hs _ _ => hs) Hfin.out.1
    (fun x => { tmps := #[v, Value.int IntKind.i64 at', undef, Value.pointer (some { block := ba, off := 0 }), Value.pointer (some { block := ba + 1, off := 0 }), Value.pointer (some { block := b3, off := 0 }), Value.func (Fn.func 30) #[] #[Value.pointer (some { block := b3 + 1, off := 0 })], Value.pointer (some { block := b3 + 2, off := 0 }), Value.pointer (some { block := b3 + 2 + 1, off := 0 }), cx x.1.1, cx x.1.2, undef, undef, Value.bool true, Value.bool false, v, Value.pointer (some { block := p, off := 0 }), Value.pointer (some { block := p, off := 0 }), Value.func (Fn.func 30) #[] #[Value.pointer (some { block := b3 + 1, off := 0 })], Value.func (Fn.func 30) #[] #[Value.pointer (some { block := b3 + 1, off := 0 })], Value.bool false, Value.func (Fn.func 30) #[] #[Value.pointer (some { block := b3 + 1, off := 0 })], cx x.1.1, cx x.1.2, undef, undef, undef, undef, undef, undef, undef, undef, undef, undef, undef, undef, undef, undef, undef, undef, undef, undef, undef, undef, undef, undef, undef, undef, undef, undef, undef, undef, undef, undef, undef, undef, undef, undef, undef, undef, undef, undef, undef, undef, undef, undef, undef, undef, undef, undef, undef, undef, undef, undef, undef, undef, undef, undef, undef, undef, undef, undef, undef, undef], defers := [] }) ?assign ?body ?done ?stop
  case assign =>
    intro l x W K hK
    dsimp only [encs]
    gi_wp2
    exact hK
  case stop =>
    rintro D c pre W hD hpre ⟨_, hoff⟩ hK
    exact (hoff.not hpre).elim
  case body =>
    rintro l pre ⟨⟨⟨ca, cb⟩, ua, ub⟩, hx⟩ W hI hlen
    have hxx := Lib.hid hx
    simp only at hx
    dsimp only
    have HI := Lib.hid hI
    obtain ⟨h1, h2, h3, h4, h5, h6, hg, h8, h9⟩ := hI
    have hsub := sub_cx 30 ua ub ca cb (by omega) (by omega) (by omega) (by omega)
    have c1 := h1.cell
    have c2 := h2.cell
    have c3 := h3.cell
    have c5 := h5.cell
    have c6 := h6.cell
    have f2 := h2.frozen
    have f5 := h5.frozen
    have f6 := h6.frozen
    have HG := Lib.hid hg
    have l1 := nlt_fl (a := ua) (b := ca) (by omega) (by omega) (by omega)
    have l2 := nlt_fl (a := ub) (b := cb) (by omega) (by omega) (by omega)
    have HOff : Hid ((sA (ns.take pre.length) ≠ ua - ca ∨ sB (ns.take pre.length) ≠ ub - cb) → Off2 ns (pre ++ [⟨⟨⟨ca, cb⟩, ua, ub⟩, hxx.out⟩])) := fun h => ⟨pre, _, rfl, h⟩
    have hm1 := sums_mono ns pre.length
    have hlp : (pre ++ [(⟨⟨⟨ca, cb⟩, ua, ub⟩, hxx.out⟩ : Pr)]).length = pre.length + 1 := by simp
    have hrl := restOf_lt at' pre (by omega)
    have hon := restOf_on (at' := at') (pre := pre) ⟨⟨⟨ca, cb⟩, ua, ub⟩, hxx.out⟩
    have hoff := restOf_off (at' := at') (pre := pre) ⟨⟨⟨ca, cb⟩, ua, ub⟩, hxx.out⟩
    have HON := Lib.hid hon
    have HOFF := Lib.hid hoff
    have HLP := Lib.hid hlp
    clear h1 h2 h3 h4 h5 h6 hg h8 h9 hon hoff hlp Hfin hmx
    generalize hrn : restOf at' (pre ++ [⟨⟨⟨ca, cb⟩, ua, ub⟩, hxx.out⟩]) = rn at HON HOFF
    have HRN := Lib.hid hrn
    clear hrn
    generalize restOf at' pre = ro at *
    obtain ⟨ra, rb⟩ := ro
    simp only at hrl HON
    have hadd := add_cx 30 ra rb ca cb (by omega) (by omega)
    gi_wp2_with fail
    refine ⟨trivial, (CallsIn.inRound l (callsIn_wide.2 (ahead_any _ _ _ _ _ _ HG.out))).mono ?_⟩
    rintro e W1 ⟨rfl, k1, rfl⟩
    rw [Int.toNat_natCast]
    generalize sA (ns.take pre.length) = ta at HOff hm1 ⊢
    generalize sB (ns.take pre.length) = tb at HOff hm1 ⊢
    by_cases e1 : ta = ua - ca
    · by_cases e2 : tb = ub - cb
      · have g1 := eq_same (n := ua - ca) (by omega)
        have g2 := eq_same (n := ub - cb) (by omega)
        subst e1 e2
        clear HOff
        by_cases hat : at' ≤ (pre.length : Int)
        · gi_wp2
          obtain ⟨P2, K2, Q2⟩ := ((HI.out.drewN k1).step hbn HO2.out).2 (ra + ca, rb + cb)
          obtain ⟨P3, K3, Q3⟩ := (P2.step hbn HO2.out).1 (pre.length + 1)
          refine ⟨(Mv.drewN B p b3 (b3 + 4) W k1).others.trans (K2.trans K3), (Mv.drewN B p b3 (b3 + 4) W k1).kp.trans (Q2.trans Q3), ?_⟩
          show PaI w B p ba b3 at' vr ns _ _ _
          rw [HLP.out, HRN.out, HON.out hat]
          exact P3
        · gi_wp2
          obtain ⟨P3, K3, Q3⟩ := ((HI.out.drewN k1).step hbn HO2.out).1 (pre.length + 1)
          refine ⟨(Mv.drewN B p b3 (b3 + 4) W k1).others.trans K3, (Mv.drewN B p b3 (b3 + 4) W k1).kp.trans Q3, ?_⟩
          show PaI w B p ba b3 at' vr ns _ _ _
          rw [HLP.out, HRN.out, HOFF.out hat]
          exact P3
      · have g1 := eq_same (n := ua - ca) (by omega)
        have g2 := ne_fl (a := tb) (b := ub - cb) (by omega) (by omega) e2
        have hof := Lib.hid (HOff.out (.inr e2))
        subst e1
        clear e2 HOff
        gi_wp2
        exact ⟨(⟨Nat.le_refl _, fun _ _ h _ => h⟩ : KeepsOthers W (W.drewN k1)).trans (KeepsOthers.setCell _ _ _), rfl, hof.out⟩
    · have g1 := ne_fl (a := ta) (b := ua - ca) (by omega) (by omega) e1
      have hof := Lib.hid (HOff.out (.inl e1))
      clear e1 HOff
      gi_wp2
      exact ⟨(⟨Nat.le_refl _, fun _ _ h _ => h⟩ : KeepsOthers W (W.drewN k1)).trans (KeepsOthers.setCell _ _ _), rfl, hof.out⟩
  case done =>
    rintro D xs W hD hxs hI hK
    have hlx : xs.length = ns.length := by have := congrArg List.length hxs; simpa [goAll_length] using this
    have hre : restOf at' xs = (sA (ns.drop at'.toNat), sB (ns.drop at'.toNat)) := by unfold restOf; rw [map_goAll ns xs hxs]
    simp only [hlx, hre] at hI
    have HI := Lib.hid hI
    have HK := Lib.hid hK
    have hD' : b3 + 4 ≤ D := by omega
    clear Hfin hI hK hre hlx hxs xs W0 hz0 hD
    gi_wp2_with fail
    have hDl : D < W.heap.size := (Array.getElem?_eq_some_iff.1 HK.out).1
    have hWl : b3 + 4 ≤ W.heap.size := HI.out.2.2.2.2.2.2.2.2
    refine wpIn_rangeFunc_ownF rfl (by omega) (gf := 30) (lb := #[.pointer (some ⟨b3 + 1, 0, none⟩)]) rfl trivial (enters_of Try.func30 (by kernel_rfl) rfl)
      (all_stops (6 - 1) (by omega) (b3 + 1) W.heap.size B p vr ns W (by omega) (by omega) HI.out.2.2.2.1.cell HI.out.2.2.2.2.2.2.1 hsmo) KpR.trans (KpR.book (by omega) (by omega)) (Below.refl _ _) (fun _ => rfl)
      (fun pre X => pre = [] ∧ PaI w B p ba b3 at' vr ns ns.length (sA (ns.drop at'.toNat), sB (ns.drop at'.toNat)) X ∧ X.heap[D]? = some (.deferred (some [])))
      (fun c pre X => (c = .ret ∧ Off3 pre) ∨ (c = .exit 2 ∧ PaI w B p ba b3 at' vr ns ns.length (sA (ns.drop at'.toNat), sB (ns.drop at'.toNat)) X ∧ X.heap[D]? = some (.deferred (some []))))
      (fun s X Y row hs hg hr => ⟨hs.1, hs.2.1.grown hg (fun r e => ⟨Nat.le_trans hWl (hr r e).1, (hr r e).2⟩) hb2w (by omega), (hg.block D (Array.getElem?_eq_some_iff.1 hs.2.2).1 (fun e => by have := (hr D e.symm).1; omega)).trans hs.2.2⟩)
      (fun c s X Y row hs hg hr => hs.imp id fun h => ⟨h.1, h.2.1.grown hg (fun r e => ⟨Nat.le_trans hWl (hr r e).1, (hr r e).2⟩) hb2w (by omega), (hg.block D (Array.getElem?_eq_some_iff.1 h.2.2).1 (fun e => by have := (hr D e.symm).1; omega)).trans h.2.2⟩)
      ⟨rfl, HI.out, HK.out⟩
      (fun x => { tmps := #[v, Value.int IntKind.i64 at', undef, Value.pointer (some { block := ba, off := 0 }), Value.pointer (some { block := ba + 1, off := 0 }), Value.pointer (some { block := b3, off := 0 }), Value.func (Fn.func 30) #[] #[Value.pointer (some { block := b3 + 1, off := 0 })], Value.pointer (some { block := b3 + 2, off := 0 }), Value.pointer (some { block := b3 + 2 + 1, off := 0 }), undef, undef, cx x.1.1, cx x.1.2, Value.bool true, Value.bool false, v, Value.pointer (some { block := p, off := 0 }), Value.pointer (some { block := p, off := 0 }), Value.func (Fn.func 30) #[] #[Value.pointer (some { block := b3 + 1, off := 0 })], Value.func (Fn.func 30) #[] #[Value.pointer (some { block := b3 + 1, off := 0 })], Value.bool false, Value.func (Fn.func 30) #[] #[Value.pointer (some { block := b3 + 1, off := 0 })], undef, undef, undef, undef, undef, undef, undef, undef, undef, undef, undef, undef, undef, undef, undef, undef, undef, undef, undef, undef, undef, undef, undef, undef, undef, undef, undef, undef, undef, undef, undef, Value.func (Fn.func 30) #[] #[Value.pointer (some { block := b3 + 1, off := 0 })], cx x.1.1, cx x.1.2, undef, undef, undef, undef, undef, undef, undef, undef, undef, undef, undef, undef, undef, undef, undef, undef, undef, undef, undef, undef, undef, undef, undef, undef, undef, undef, undef, undef], defers := [] }) ?assign2 ?body2 ?done2 ?stop2
    case assign2 =>
      intro l x W K hK
      dsimp only [encs]
      gi_wp2
      exact hK
    case body2 =>
      rintro l pre ⟨⟨⟨ca, cb⟩, ua, ub⟩, hx⟩ X ⟨rfl, hI, hk⟩ hlen
      have hxx := Lib.hid hx
      simp only at hx
      dsimp only
      have HX := Lib.hid hI
      have HXK := Lib.hid hk
      obtain ⟨h1, h2, h3, h4, h5, h6, hg, h8, h9⟩ := hI
      have c2 := h2.cell
      have f2 := h2.frozen
      have c3 := h3.cell
      have c5 := h5.cell
      have HG : Hid (GRow X.drew B p vr ns) := hg.kept (S := fun _ => False) (Keeps.drew _ _) id (fun _ _ => id)
      have HOff : Hid ((ca ≠ ua ∨ cb ≠ ub) → Off3 ([] ++ [⟨⟨⟨ca, cb⟩, ua, ub⟩, hxx.out⟩])) := fun h => ⟨_, rfl, h⟩
      clear h1 h2 h3 h4 h5 h6 hg h8 h9 hk
      by_cases e1 : ca = ua
      · by_cases e2 : cb = ub
        · have g1 := eq_same (n := ua) (by omega)
          have g2 := eq_same (n := ub) (by omega)
          subst e1 e2
          gi_wp2
          gi_region_with_o (refine ⟨trivial, ?_⟩; gi_at_call 12; refine (CallsIn.inRound l (callsIn_wide.2 (len_any _ _ _ _ _ HG.out))).mono ?_; rintro e w' ⟨rfl, rfl⟩)
          all_goals gi_wp2
          all_goals exact ⟨KeepsOthers.drew X, .inr ⟨rfl, HX.out.drewN 1, HXK.out⟩⟩
        · have g1 := eq_same (n := ua) (by omega)
          have g2 := ne_fl (a := cb) (b := ub) (by omega) (by omega) e2
          have hof := Lib.hid (HOff.out (.inr e2))
          subst e1
          have hfn : Fence.wide.fn 12 := trivial
          clear e2 HOff
          gi_wp2
          gi_region_with_o (refine ⟨trivial, ?_⟩; gi_at_call 12; refine (CallsIn.inRound l (callsIn_wide.2 (len_any _ _ _ _ _ HG.out))).mono ?_; rintro e w' ⟨rfl, rfl⟩)
          all_goals gi_wp2
          all_goals first | exact ⟨(KeepsOthers.drew X).trans (KeepsOthers.setCell _ _ _), .inl ⟨rfl, hof.out⟩⟩ | exact ⟨(KeepsOthers.setCell _ _ _).trans (KeepsOthers.drew _), .inl ⟨rfl, hof.out⟩⟩
      · have g1 := ne_fl (a := ca) (b := ua) (by omega) (by omega) e1
        have hof := Lib.hid (HOff.out (.inl e1))
        have hfn : Fence.wide.fn 12 := trivial
        clear e1 HOff
        gi_wp2
        gi_region_with_o (refine ⟨trivial, ?_⟩; gi_at_call 12; refine (CallsIn.inRound l (callsIn_wide.2 (len_any _ _ _ _ _ HG.out))).mono ?_; rintro e w' ⟨rfl, rfl⟩)
        all_goals gi_wp2
        all_goals first | exact ⟨(KeepsOthers.drew X).trans (KeepsOthers.setCell _ _ _), .inl ⟨rfl, hof.out⟩⟩ | exact ⟨(KeepsOthers.setCell _ _ _).trans (KeepsOthers.drew _), .inl ⟨rfl, hof.out⟩⟩
    case done2 =>
      rintro D2 xs X hD2 hxs ⟨_, hI, hk⟩ hK2
      gi_wp2
      have HX := Lib.hid hI
      have HXK := Lib.hid hk
      have HK2 := Lib.hid hK2
      obtain ⟨h1, h2, h3, h4, h5, h6, hg, h8, h9⟩ := hI
      have c1 := h1.cell
      have c2 := h2.cell
      have f2 := h2.frozen
      have c3 := h3.cell
      have c5 := h5.cell
      have c6 := h6.cell
      have HG := Lib.hid hg
      have hst := sums_split ns at'.toNat
      have hadd := add_cx' (sA (ns.take at'.toNat)) (sB (ns.take at'.toNat)) (sA (ns.drop at'.toNat)) (sB (ns.drop at'.toNat)) (sA ns) (sB ns) hst.1 hst.2 (by omega) (by omega)
      have g1 := eq_same (n := sA ns) (by omega)
      have g2 := eq_same (n := sB ns) (by omega)
      have g0 := eq_lit (n := 0) (b := 0) (by decide +kernel) (by decide)
      have HL : Hid (∀ n, Calls Try.prog 12 #[.pointer (some ⟨p, 0, none⟩)] (X.drewN n) fun e w' => e = .returned (.int .i64 ns.length) ∧ w' = X.drewN n) := fun n => (len_any _ _ _ _ _ (HG.out.drewN n)).mono fun e w' h => ⟨h.1, h.2.symm⟩
      have HA : Hid (∀ n, Calls Try.prog 15 #[.pointer (some ⟨p, 0, none⟩), .int .i64 at'] (X.drewN n) fun e w' => e = .returned (cx (sA (ns.take at'.toNat), sB (ns.take at'.toNat))) ∧ ∃ m, w' = (X.drewN n).drewN m) := fun n => ahead_any _ _ _ _ _ _ (HG.out.drewN n)
      have HS : Hid (∀ n, Calls Try.prog 14 #[.pointer (some ⟨p, 0, none⟩)] (X.drewN n) fun e w' => e = .returned (cx (sA ns, sB ns)) ∧ ∃ m, w' = (X.drewN n).drewN m) := fun n => sumRow_any _ _ _ _ _ (HG.out.drewN n)
      have HA0 : Hid (∀ n, Calls Try.prog 15 #[.pointer (some ⟨p, 0, none⟩), .int .i64 (-1)] (X.drewN n) fun e w' => e = .returned (cx (0, 0)) ∧ ∃ m, w' = (X.drewN n).drewN m) := fun n => ahead_any _ _ _ _ _ _ (HG.out.drewN n)
      clear h1 h2 h3 h4 h5 h6 hg h8 h9 hk hK2 hst
      refine wpIn_wide.2 ?_
      refine wp_region_quiet_tail 19 (by kernel_rfl) (by kernel_rfl) ?_
      simp only [List.take_succ_cons, List.take_zero, List.drop_succ_cons, List.drop_zero]
      repeat (go_big_quiet_step (fail))
      go_big_quiet_step ((exact Calls.quiet_of_same (HL.out _)))
      repeat (go_big_quiet_step (fail))
      go_big_quiet_step ((exact Calls.quiet_of (HA.out _)))
      repeat (go_big_quiet_step (fail))
      go_big_quiet_step ((exact Calls.quiet_of (HS.out _)))
      repeat (go_big_quiet_step (fail))
      go_big_quiet_step ((exact Calls.quiet_of (HA0.out _)))
      repeat (go_big_quiet_step (fail))
      refine wpQuiet_nil ?_
      intro _ hw'
      obtain ⟨nq, rfl⟩ := hw'
      go_wp2
      have KO : KeepsOthers X ((X.drewN nq).setCell ⟨ba + 1, 0, none⟩ (.bool true)) := (Mv.drewN B p b3 (b3 + 4) X nq).others.trans (KeepsOthers.setCell _ _ _)
      have hY2 := KO.same D2 _ HK2.out rfl
      have hY1 := KO.same D _ HXK.out rfl
      have hYc : ((X.drewN nq).setCell ⟨ba + 1, 0, none⟩ (.bool true)).cell? ⟨ba + 1, 0, none⟩ = some (.bool true) := World.cell?_setCell_same' (X.drewN nq) ⟨ba + 1, 0, none⟩ (.bool true) (by rw [show (X.drewN nq).cell? ⟨ba + 1, 0, none⟩ = X.cell? ⟨ba + 1, 0, none⟩ from rfl, c2]; rfl)
      have hYb : Below ba w ((X.drewN nq).setCell ⟨ba + 1, 0, none⟩ (.bool true)) := (HX.out.drewN nq).2.2.2.2.2.2.2.1.setCell (p := ⟨ba + 1, 0, none⟩) (by show ba ≤ ba + 1; omega) _
      clear c1 c2 f2 c3 c5 c6 HG hadd g1 g2 g0 HL HA HS HA0 HX HXK HK2 KO
      generalize (X.drewN nq).setCell ⟨ba + 1, 0, none⟩ (.bool true) = Y at *
      gi_wp2
      have hne : D ≠ D2 := by omega
      have hZ1 : (Y.putObj D2 (.deferred none)).heap[D]? = some (.deferred (some [])) := (World.putObj_heap_other hne).trans hY1
      have hZc := cell_kept hYc (grownBy_putObj' Y D2 (.deferred none)) (fun r e => by cases e; exact ⟨_, hY2, rfl⟩)
      have hVc := cell_kept hZc (grownBy_putObj' _ D (.deferred none)) (fun r e => by cases e; exact ⟨_, hZ1, rfl⟩)
      refine ⟨by simp, .inl ⟨_, _, rfl, run_takeDeferred hY2, by simp, .inl ⟨_, _, rfl, run_takeDeferred hZ1, ?_⟩⟩⟩
      refine ⟨.bool true, ?_, rfl, ?_⟩
      · simp [results, Try.f7, go_sem, hVc]
      · subst hb2
        exact (hYb.trans (belowK_b (w := w) (Nat.le_refl _) _ D2 _ _ (by omega) hY2 rfl rfl)).trans (belowK_b (w := w) (Nat.le_refl _) _ D _ _ (by omega) hZ1 rfl rfl)
    case stop2 =>
      rintro D2 c pre X hD2 hpre (⟨rfl, hoff⟩ | ⟨rfl, hI, hk⟩) hK2
      · exact (hoff.not hpre).elim
      · gi_wp2
        have HX := Lib.hid hI
        have HXK := Lib.hid hk
        have HK2 := Lib.hid hK2
        obtain ⟨h1, h2, h3, h4, h5, h6, hg, h8, h9⟩ := hI
        have c1 := h1.cell
        have c2 := h2.cell
        have f2 := h2.frozen
        have c3 := h3.cell
        have c5 := h5.cell
        have c6 := h6.cell
        have HG := Lib.hid hg
        have hst := sums_split ns at'.toNat
        have hadd := add_cx' (sA (ns.take at'.toNat)) (sB (ns.take at'.toNat)) (sA (ns.drop at'.toNat)) (sB (ns.drop at'.toNat)) (sA ns) (sB ns) hst.1 hst.2 (by omega) (by omega)
        have g1 := eq_same (n := sA ns) (by omega)
        have g2 := eq_same (n := sB ns) (by omega)
        have g0 := eq_lit (n := 0) (b := 0) (by decide +kernel) (by decide)
        have HL : Hid (∀ n, Calls Try.prog 12 #[.pointer (some ⟨p, 0, none⟩)] (X.drewN n) fun e w' => e = .returned (.int .i64 ns.length) ∧ w' = X.drewN n) := fun n => (len_any _ _ _ _ _ (HG.out.drewN n)).mono fun e w' h => ⟨h.1, h.2.symm⟩
        have HA : Hid (∀ n, Calls Try.prog 15 #[.pointer (some ⟨p, 0, none⟩), .int .i64 at'] (X.drewN n) fun e w' => e = .returned (cx (sA (ns.take at'.toNat), sB (ns.take at'.toNat))) ∧ ∃ m, w' = (X.drewN n).drewN m) := fun n => ahead_any _ _ _ _ _ _ (HG.out.drewN n)
        have HS : Hid (∀ n, Calls Try.prog 14 #[.pointer (some ⟨p, 0, none⟩)] (X.drewN n) fun e w' => e = .returned (cx (sA ns, sB ns)) ∧ ∃ m, w' = (X.drewN n).drewN m) := fun n => sumRow_any _ _ _ _ _ (HG.out.drewN n)
        have HA0 : Hid (∀ n, Calls Try.prog 15 #[.pointer (some ⟨p, 0, none⟩), .int .i64 (-1)] (X.drewN n) fun e w' => e = .returned (cx (0, 0)) ∧ ∃ m, w' = (X.drewN n).drewN m) := fun n => ahead_any _ _ _ _ _ _ (HG.out.drewN n)
        clear h1 h2 h3 h4 h5 h6 hg h8 h9 hk hK2 hst
        refine wpIn_wide.2 ?_
        refine wp_region_quiet_tail 19 (by kernel_rfl) (by kernel_rfl) ?_
        simp only [List.take_succ_cons, List.take_zero, List.drop_succ_cons, List.drop_zero]
        repeat (go_big_quiet_step (fail))
        go_big_quiet_step ((exact Calls.quiet_of_same (HL.out _)))
        repeat (go_big_quiet_step (fail))
        go_big_quiet_step ((exact Calls.quiet_of (HA.out _)))
        repeat (go_big_quiet_step (fail))
        go_big_quiet_step ((exact Calls.quiet_of (HS.out _)))
        repeat (go_big_quiet_step (fail))
        go_big_quiet_step ((exact Calls.quiet_of (HA0.out _)))
        repeat (go_big_quiet_step (fail))
        refine wpQuiet_nil ?_
        intro _ hw'
        obtain ⟨nq, rfl⟩ := hw'
        go_wp2
        have KO : KeepsOthers X ((X.drewN nq).setCell ⟨ba + 1, 0, none⟩ (.bool true)) := (Mv.drewN B p b3 (b3 + 4) X nq).others.trans (KeepsOthers.setCell _ _ _)
        have hY2 := KO.same D2 _ HK2.out rfl
        have hY1 := KO.same D _ HXK.out rfl
        have hYc : ((X.drewN nq).setCell ⟨ba + 1, 0, none⟩ (.bool true)).cell? ⟨ba + 1, 0, none⟩ = some (.bool true) := World.cell?_setCell_same' (X.drewN nq) ⟨ba + 1, 0, none⟩ (.bool true) (by rw [show (X.drewN nq).cell? ⟨ba + 1, 0, none⟩ = X.cell? ⟨ba + 1, 0, none⟩ from rfl, c2]; rfl)
        have hYb : Below ba w ((X.drewN nq).setCell ⟨ba + 1, 0, none⟩ (.bool true)) := (HX.out.drewN nq).2.2.2.2.2.2.2.1.setCell (p := ⟨ba + 1, 0, none⟩) (by show ba ≤ ba + 1; omega) _
        clear c1 c2 f2 c3 c5 c6 HG hadd g1 g2 g0 HL HA HS HA0 HX HXK HK2 KO
        generalize (X.drewN nq).setCell ⟨ba + 1, 0, none⟩ (.bool true) = Y at *
        gi_wp2
        have hne : D ≠ D2 := by omega
        have hZ1 : (Y.putObj D2 (.deferred none)).heap[D]? = some (.deferred (some [])) := (World.putObj_heap_other hne).trans hY1
        have hZc := cell_kept hYc (grownBy_putObj' Y D2 (.deferred none)) (fun r e => by cases e; exact ⟨_, hY2, rfl⟩)
        have hVc := cell_kept hZc (grownBy_putObj' _ D (.deferred none)) (fun r e => by cases e; exact ⟨_, hZ1, rfl⟩)
        refine ⟨by simp, .inl ⟨_, _, rfl, run_takeDeferred hY2, by simp, .inl ⟨_, _, rfl, run_takeDeferred hZ1, ?_⟩⟩⟩
        refine ⟨.bool true, ?_, rfl, ?_⟩
        · simp [results, Try.f7, go_sem, hVc]
        · subst hb2
          exact (hYb.trans (belowK_b (w := w) (Nat.le_refl _) _ D2 _ _ (by omega) hY2 rfl rfl)).trans (belowK_b (w := w) (Nat.le_refl _) _ D _ _ (by omega) hZ1 rfl rfl)

end Go.Proofs.Ytadioaeeobmdgaa
