/-
  TapeSwaps, walked.
  Conditions: none but the model's longest length.
-/
import Derived.Test.YtohimlahncbpjaaTz
import Derived.BigRegion
set_option linter.unusedVariables false
set_option linter.unusedSimpArgs false
namespace Go.Proofs.Ytohimlahncbpjaa
open Go.RowKit

set_option maxRecDepth 100000 in
set_option maxHeartbeats 6400000 in
theorem swaps_walk (old : List UInt8) (nv vf : Value) (pw : Int) (ls : List (List UInt8)) (fates : List Int) (w : World) (ho : old.length ≤ maxLen) (hn : Txts w nv ls) (hnl : ls.length ≤ maxLen) (hno : ∀ l ∈ ls, l.length ≤ maxLen) (hf : Ints w vf fates) (hfl : fates.length ≤ maxLen) :
    Calls Try.prog 7 #[.string ⟨old.toArray⟩, nv, .agg #[.int .i64 pw, vf]] w fun e w' => e = .returned (.bool true) ∧ Below w.heap.size w w' := by
  have HN := Lib.hid hn
  have HO := Lib.hid hno
  have HF := Lib.hid hf
  have HFL := Lib.hid hfl
  have HOL := Lib.hid ho
  unfold maxLen at hnl ho
  obtain ⟨a, cap, rfl, -⟩ := id hn
  obtain ⟨j, hj, hjm⟩ := uint_rem pw 30 (by omega) (by omega)
  have C0 : Hid (Cl (w.alloc (.cells #[.int .i64 pw, vf] 46)) w.heap.size [.int .i64 pw, vf] 46) := Cl.new w [.int .i64 pw, vf] 46
  have B0 : Hid (Below w.heap.size w (w.alloc (.cells #[.int .i64 pw, vf] 46))) := (Below.refl _ _).alloc (Nat.le_refl _) _
  have HF0 := Lib.hid (HF.out.kept B0.out)
  have HN0 : Hid (∀ k x, ls[k]? = some x → ∃ g off, a = some ⟨g, off, none⟩ ∧ ∀ W : World, Below (w.alloc (.cells #[.int .i64 pw, vf] 46)).heap.size (w.alloc (.cells #[.int .i64 pw, vf] 46)) W → W.cell? ⟨g, off + k, none⟩ = some (.string ⟨x.toArray⟩)) := fun k x hx => by
    obtain ⟨a2, cap2, he, hc⟩ := HN.out.kept B0.out
    injection he with he1 he2 he3
    subst he1
    obtain ⟨hk, hkx⟩ := List.getElem?_eq_some_iff.1 hx
    obtain ⟨g, off, ha, hg, h1⟩ := hc k hk
    refine ⟨g, off, ha, fun W hW => ?_⟩
    rw [hW.cell (p := ⟨g, off + k, none⟩) hg, h1, ← hkx]
    simp [List.getD, hk]
  clear hn hno hf hfl HN HF
  go_enter Try.func7, Try.ntmps7
  go_wp2_with fail
  generalize w.alloc (.cells #[.int .i64 pw, vf] 46) = w0 at *
  generalize w.heap.size = g0 at C0 ⊢
  refine (awake_any _).mono ?_
  rintro e w1 ⟨rfl, hb1⟩
  have B1 := Lib.hid hb1
  have BB1 := Lib.hid (bt B0.out hb1)
  clear hb1
  by_cases hold : 1024 < old.length
  · go_wp2
    go_ret
    exact ⟨rfl, BB1.out⟩
  by_cases hcnt : 20 < ls.length
  · go_wp2
    go_ret
    exact ⟨rfl, BB1.out⟩
  go_wp2_with fail
  refine (newTape_any 1048576 (by omega) (by omega) _).mono ?_
  rintro e w2 ⟨rfl, h2, hb2⟩
  have T2 := Lib.hid (Tw.new (w0 := w0) (by omega) (by omega) B1.out h2 hb2)
  have I2 : Hid (LpI (newT 1048576) 0 0) := ⟨rfl, (by decide : (0 : Int) ≤ 0), rfl, rfl, (by decide : (0 : Nat) ≤ 0), (by decide : (0 : Nat) ≤ 0)⟩
  clear h2 hb2 BB1 B1
  generalize (fun k => w1.heap.size ≤ k ∧ k < w1.heap.size + 2) = O1 at T2
  generalize hp : w1.heap.size + 1 = p at T2 ⊢
  generalize w1.heap.size = m at T2
  clear hp
  have HA1 := Lib.hid (append_any O1 p m (newT 1048576) nmFile old w2 T2.out.T T2.out.K HOL.out rfl (by decide) (by decide) rfl)
  go_wp2_with fail
  refine HA1.out.mono ?_
  intro e w3 hpost
  obtain ⟨O3, t3, b, rfl, hT3, hf3, ha3⟩ := LpI.appW T2.out I2.out (by omega) (by omega) (by omega) rfl hpost
  clear hpost HA1
  rcases ha3 with ⟨-, hI3, hz3⟩ | ⟨h1, -⟩
  rotate_left
  · exact absurd h1 (by decide)
  have T3 := Lib.hid hT3
  have I3 := Lib.hid hI3
  have Z3 := Lib.hid (hz3 rfl)
  have F3 : Hid (t3.files = [⟨nmFile, old, 0, b⟩]) := hf3
  rw [show actV (newT 1048576) = 0 from rfl]
  clear hT3 hI3 hz3 hf3 T2 I2
  have HS1 := Lib.hid (sync_any O3 p m t3 nmFile ⟨nmFile, old, 0, b⟩ w3 T3.out.T T3.out.K I3.out.down (by have := I3.out.acts; omega) (by have := I3.out.life; omega) (by rw [F3.out]; rfl))
  go_wp2_with fail
  refine HS1.out.mono ?_
  intro e w4 hpost
  obtain ⟨t4, rfl, hT4, ha4⟩ := LpI.syncW T3.out I3.out (by omega) (by rw [F3.out]; rfl) hpost
  clear hpost HS1
  rcases ha4 with ⟨-, hI4, hf4, hz4⟩ | ⟨h1, -, -⟩
  rotate_left
  · exact absurd h1 (by rw [Z3.out]; decide)
  have T4 := Lib.hid hT4
  have I4 : Hid (LpI t4 1 2) := hI4
  have F4 : Hid (t4.files = [⟨nmFile, old, old.length, b⟩]) := by rw [Hid, hf4, F3.out]; rfl
  rw [show actV t3 = 0 by rw [actV, if_neg (by rw [Z3.out]; decide)]]
  clear hT4 hI4 hz4 hf4 T3 I3 Z3 F3
  have c0 : w4.cell? ⟨g0, 0, none⟩ = some (.int .i64 pw) := (C0.out.below T4.out.B).cell 0
  go_wp2_with fail
  refine (arm_any O3 p m _ (j : Int) (by omega) _ T4.out.T).mono ?_
  rintro e w5 ⟨rfl, h5, k5⟩
  have T5 : Hid (Tw w0 w5 O3 p m { t4 with armed := (j : Int) }) := T4.out.step h5 (Sp.of k5) ⟨T4.out.K.r0, T4.out.K.r1, T4.out.K.tot, T4.out.K.safe, T4.out.K.a0, T4.out.K.a1, (by show (0 : Int) ≤ (j : Int); omega), (by show (j : Int) ≤ 9223372036854775807; omega), T4.out.K.l0, T4.out.K.l1, T4.out.K.nm, T4.out.K.cnt⟩
  have I5 : Hid (LpI { t4 with armed := (j : Int) } 1 3) := ⟨I4.out.down, by have := I4.out.acts; show t4.acts ≤ _; omega, I4.out.life, I4.out.room, I4.out.tot, I4.out.len⟩
  have FI5 : Hid (FileIs { t4 with armed := (j : Int) } old) := ⟨⟨nmFile, old, old.length, b⟩, by show getF t4.files nmFile = _; rw [F4.out]; rfl, rfl, rfl⟩
  have W5 : Hid (wasOf { t4 with armed := (j : Int) } nmNew = []) := by
    show wasOf _ _ = _
    unfold wasOf
    show ((getF t4.files nmNew).map _).getD [] = []
    rw [F4.out]; rfl
  clear h5 k5 T4 I4 F4 c0
  generalize ({ t4 with armed := (j : Int) } : Tp) = t5 at *
  have HA5 := Lib.hid (append_any O3 p m t5 nmNew [] w5 T5.out.T T5.out.K (by simp [maxLen]) I5.out.down (by have := I5.out.acts; omega) (by have := I5.out.life; omega) rfl)
  go_wp2_with fail
  refine HA5.out.mono ?_
  intro e w6 hpost
  obtain ⟨O6, t6, rfl, hT6, hS6, hv6⟩ := SwI.app (k := 0) T5.out FI5.out I5.out W5.out (by omega) (by decide) hpost
  have T6 := Lib.hid hT6
  have S6 := Lib.hid hS6
  clear hpost HA5 hT6 hS6 T5 I5 FI5 W5
  have V6 := Lib.hid hv6
  clear hv6
  generalize actV t5 = ev at *
  go_upto_block 0 with (fail)
  go_cut [8, 9] (fun s8 s9 wz => ∃ O t W ev, s8 = .string ⟨W.toArray⟩ ∧ s9 = .int .i64 ev ∧ SwI t old W ev 20 ∧ Tw w0 wz O p m t)
  case first =>
    go_wp2
    go_loopw [8, 9, 10] (fun s8 s9 i wr => ∃ (k : Nat) (O : Nat → Prop) (t : Tp) (W : List UInt8) (ev : Int), s8 = .string ⟨W.toArray⟩ ∧ s9 = .int .i64 ev ∧ i = .int .i64 k ∧ k ≤ ls.length ∧ W.length ≤ 1024 * k ∧ SwI t old W ev k ∧ Tw w0 wr O p m t) (fun _ _ i _ => ls.length - (intOf i).toNat)
    case atStart => exact ⟨0, O6, t6, [], ev, rfl, rfl, rfl, by omega, by simp, S6.out, T6.out⟩
    case round =>
      obtain ⟨k, O, t, W, ev2, rfl, rfl, rfl, hk, hW, hS, hT⟩ := hrel
      have TT := Lib.hid hT
      have SS := Lib.hid hS
      clear hS hT S6 T6 V6
      have BB := Lib.hid (bt B0.out TT.out.B)
      by_cases hlt : k < ls.length
      · obtain ⟨x, hx⟩ : ∃ x, ls[k]? = some x := ⟨ls[k], by simp [hlt]⟩
        have hxl := HO.out x (List.mem_of_getElem? hx)
        have HXL := Lib.hid hxl
        obtain ⟨g, off, ha, hc⟩ := HN0.out k x hx
        subst ha
        have HC := Lib.hid hc
        have p0 := HC.out wr TT.out.B
        unfold maxLen at hxl
        clear hx hc
        by_cases hbig : 1024 < x.length
        · go_wp2
          go_ret
          exact ⟨rfl, BB.out⟩
        · have hadd := add_str W x (by omega)
          have hal : (W.length : Int) + (x.length : Int) ≤ 9223372036854775807 := by omega
          have hWx : (W ++ x).length ≤ 1024 * (k + 1) := by rw [List.length_append]; omega
          obtain ⟨hF, ⟨he, hI, hg, hw⟩ | ⟨he, hl⟩⟩ := SS.out
          · subst he
            have HI := Lib.hid hI
            have HFF := Lib.hid hF
            have HW := Lib.hid hw
            have HAP := Lib.hid (append_any O p m t nmNew x wr TT.out.T TT.out.K HXL.out HI.out.down (by have := HI.out.acts; omega) (by have := HI.out.life; omega) rfl)
            clear hF hI hg hw
            go_wp2_with fail
            refine HAP.out.mono ?_
            intro e w9 hpost
            obtain ⟨O9, t9, rfl, hT9, hS9, hv9⟩ := SwI.app (k := k + 1) TT.out HFF.out HI.out HW.out (by omega) (by omega) hpost
            have T9 := Lib.hid hT9
            have S9 := Lib.hid hS9
            clear hpost HAP hT9 hS9 hv9 p0
            have p1 := HC.out w9 T9.out.B
            generalize actV t = ev9 at *
            go_wp2
            go_roundw
            case rel => exact ⟨k + 1, O9, t9, W ++ x, ev9, by simp, rfl, by go_num, by omega, hWx, S9.out, T9.out⟩
            case measure => simp [intOf]; omega
          · subst he
            have S9 : Hid (SwI t old (W ++ x) 10 (k + 1)) := ⟨hF, .inr ⟨rfl, hl⟩⟩
            clear hF hl
            go_wp2
            go_roundw
            case rel => exact ⟨k + 1, O, t, W ++ x, 10, by simp, rfl, by go_num, by omega, hWx, S9.out, TT.out⟩
            case measure => simp [intOf]; omega
      · have S9 := Lib.hid (SS.out.mono (k' := 20) (by omega))
        go_wp2
        go_meet
        case rel => exact ⟨O, t, W, ev2, rfl, rfl, S9.out, TT.out⟩
  case rest =>
    obtain ⟨O, t, W, ev2, rfl, rfl, hS, hT⟩ := hcut
    have TT := Lib.hid hT
    have SS := Lib.hid hS
    clear hS hT S6 T6 V6
    go_upto_if 69 with (fail)
    go_cut [9] (fun s9 wz => ∃ O t ev, s9 = .int .i64 ev ∧ SwJ t old W ev ∧ Tw w0 wz O p m t)
    case first =>
      obtain ⟨hF, ⟨he, hI, hg, hw⟩ | ⟨he, hl⟩⟩ := SS.out
      · subst he
        obtain ⟨f, hgf⟩ := Option.isSome_iff_exists.1 hg
        have hfd : f.data = W := by rw [← hw]; unfold wasOf; rw [hgf]; rfl
        have HI := Lib.hid hI
        have HFF := Lib.hid hF
        have HG := Lib.hid hgf
        have HW := Lib.hid hfd
        have HSY := Lib.hid (sync_any O p m t nmNew f wc TT.out.T TT.out.K HI.out.down (by have := HI.out.acts; omega) (by have := HI.out.life; omega) HG.out)
        clear hF hI hg hw hgf hfd
        go_wp2_with fail
        refine HSY.out.mono ?_
        intro e w9 hpost
        obtain ⟨t9, rfl, hT9, hS9⟩ := SwJ.sync TT.out HFF.out HI.out (by omega) (by omega) HG.out HW.out hpost
        have T9 := Lib.hid hT9
        have S9 := Lib.hid hS9
        clear hpost HSY hT9 hS9
        go_wp2
        go_meet
        case rel => exact ⟨O, t9, actV t, rfl, S9.out, T9.out⟩
      · subst he
        have S9 : Hid (SwJ t old W 10) := ⟨hF, .inr ⟨rfl, hl⟩⟩
        clear hF hl
        go_wp2
        go_meet
        case rel => exact ⟨O, t, 10, rfl, S9.out, TT.out⟩
    case rest =>
      obtain ⟨O2, t2, ev3, rfl, hS, hT⟩ := hcut
      clear TT SS
      have TT := Lib.hid hT
      have SS := Lib.hid hS
      clear hS hT
      go_upto_if 73 with (fail)
      go_cut [9] (fun s9 wz => ∃ O t ev, s9 = .int .i64 ev ∧ FinI t old W ev ∧ (ev = 0 ∨ ev = 10) ∧ Tw w0 wz O p m t)
      case first =>
        obtain ⟨hF, ⟨he, hI, f, hgf, hfd, hfs⟩ | ⟨he, hl⟩⟩ := SS.out
        · subst he
          have HI := Lib.hid hI
          have HG := Lib.hid hgf
          have HW := Lib.hid hfd
          have HSF := Lib.hid hfs
          have HSY := Lib.hid (swap_any O2 p m t2 nmNew nmFile f wc TT.out.T TT.out.K HI.out.down (by have := HI.out.acts; omega) (by have := HI.out.life; omega) HG.out rfl)
          clear hF hI hgf hfd hfs
          go_wp2_with fail
          refine HSY.out.mono ?_
          intro e w9 hpost
          obtain ⟨t9, rfl, hT9, hS9, hv9⟩ := FinI.swap (old := old) TT.out HI.out HG.out HW.out HSF.out hpost
          have T9 := Lib.hid hT9
          have S9 := Lib.hid hS9
          have V9 := Lib.hid hv9
          clear hpost HSY hT9 hS9 hv9
          go_wp2
          go_meet
          case rel => exact ⟨O2, t9, actV t2, rfl, S9.out, V9.out, T9.out⟩
        · subst he
          have S9 : Hid (FinI t2 old W 10) := by
            obtain ⟨f, f1, f2, f3⟩ := hF
            exact ⟨hl, f, f1, by rw [f3, f2], .inr ⟨f2, rfl⟩⟩
          clear hF hl
          go_wp2
          go_meet
          case rel => exact ⟨O2, t2, 10, rfl, S9.out, .inr rfl, TT.out⟩
      case rest =>
        obtain ⟨O, t, ev4, rfl, hF, hv, hT⟩ := hcut
        clear TT SS
        have TT := Lib.hid hT
        have FF := Lib.hid hF
        have VV := Lib.hid hv
        have hl := hF.1
        clear hF hT hv
        go_wp2_with fail
        refine (off_any O p m t _ TT.out.T TT.out.K).mono ?_
        rintro e w5 ⟨rfl, h5, k5⟩
        obtain ⟨m1, m2, m3, m4, m5⟩ := offT_more t
        have OK5 := offT_ok TT.out.K (by omega)
        have T5 := Lib.hid (TT.out.step h5 (Sp.of k5) OK5)
        have F5 : Hid (∃ f, getF (offT t).files nmFile = some f ∧ f.safe = f.data.length ∧ (f.data = W ∨ (f.data = old ∧ ev4 = 10))) := by
          rw [m2]; exact FF.out.2
        clear h5 k5 OK5
        have c1 : w5.cell? ⟨g0, 1, none⟩ = some vf := (C0.out.below T5.out.B).cell 1
        go_wp2_with fail
        refine (on_any names_any O p m (offT t) fates vf _ T5.out.T T5.out.K m1 (HF0.out.kept T5.out.B) (fun h0 gg hgg hOg => by
          obtain ⟨af, cf, rfl, hc⟩ := HF0.out
          obtain ⟨g, off, rfl, hg, -⟩ := hc 0 (by omega)
          simp [Value.ownBlock] at hgg
          have := T5.out.lo _ hOg
          omega) HFL.out).mono ?_
        rintro e w6 ⟨rfl, ns, hns, h6, k6⟩
        obtain ⟨OK6, OO6⟩ := onT_ok T5.out.K T5.out.T.names fates ns
        have T6 := Lib.hid (T5.out.step h6 (Sp.of k6) OK6)
        have hrd := FinI.read (t := { offT t with life := 1 }) (t9 := { offT t with down := false, files := onGo fates ns 0 (offT t).files }) (old := old) (want := W) (e := ev4) ⟨(by decide : (1 : Int) ≤ 1), F5.out⟩ (room := (offT t).room) ⟨T5.out.K.tot, T5.out.K.safe, rfl⟩ T5.out.T.names (fates := fates) (ns := ns) rfl
        have HRD := Lib.hid hrd
        have HD6 : Hid (({ offT t with down := false, files := onGo fates ns 0 (offT t).files } : Tp).down = false) := rfl
        have BB := Lib.hid (bt B0.out T6.out.B)
        clear h6 k6 OK6 OO6 T5 TT m1 m2 m3 m4 m5 hns hl F5 FF hrd c1
        generalize ({ offT t with down := false, files := onGo fates ns 0 (offT t).files } : Tp) = t6 at *
        clear ns
        go_wp2_with fail
        refine (read_any O p m t6 nmFile _ T6.out.T).mono ?_
        rintro e w8 ⟨rfl, rfl⟩
        rw [readV_eq HD6.out, HRD.out.1]
        by_cases hsw : wasOf t6 nmFile = W
        · rw [hsw]
          clear hsw
          go_wp2
          go_ret
          exact ⟨rfl, BB.out⟩
        · obtain ⟨e1, e2⟩ := HRD.out.2.resolve_left hsw
          rw [e1] at hsw ⊢
          have hne : (old == W) = false := by simpa using hsw
          subst e2
          clear e1 hsw
          go_wp2
          go_ret
          exact ⟨rfl, BB.out⟩

end Go.Proofs.Ytohimlahncbpjaa
