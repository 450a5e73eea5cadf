/-
  TapeKeeps, walked.
  Conditions: none but the model's longest length.
-/
import Derived.Test.YtohimlahncbpjaaTx
import Derived.BigRegion
set_option linter.unusedVariables false
set_option linter.unusedSimpArgs false
namespace Go.Proofs.Ytohimlahncbpjaa
open Go.RowKit

set_option maxRecDepth 100000 in
set_option maxHeartbeats 6400000 in
theorem keeps_walk (v vf : Value) (pw : Int) (l : List Pt) (fates : List Int) (w : World) (h : Parts w v l) (hm : l.length ≤ maxLen) (hok : ∀ x ∈ l, x.s.length ≤ maxLen) (hf : Ints w vf fates) (hfl : fates.length ≤ maxLen) :
    Calls Try.prog 5 #[v, .int .i64 pw, vf] w fun e w' => e = .returned (.bool true) ∧ Below w.heap.size w w' := by
  have HA := Lib.hid h
  have HO := Lib.hid hok
  have HF := Lib.hid hf
  have HFL := Lib.hid hfl
  unfold maxLen at hm
  obtain ⟨a, cap, rfl, -⟩ := id h
  obtain ⟨j, hj, hjm⟩ := uint_rem pw 100 (by omega) (by omega)
  clear h hok hf hfl
  go_enter Try.func5, Try.ntmps5
  go_wp2_with fail
  refine (awake_any _).mono ?_
  rintro e w1 ⟨rfl, hb1⟩
  have B1 := Lib.hid hb1
  clear hb1
  go_wp2_with fail
  refine (newTape_any 1048576 (by omega) (by omega) _).mono ?_
  rintro e w2 ⟨rfl, h2, hb2⟩
  have T2 := Lib.hid (Tw.new (w0 := w) (by omega) (by omega) B1.out h2 hb2)
  clear h2 hb2
  generalize (fun k => w1.heap.size ≤ k ∧ k < w1.heap.size + 2) = O1 at T2
  generalize hp : w1.heap.size + 1 = p at T2 ⊢
  generalize w1.heap.size = m at T2
  clear hp
  go_wp2_with fail
  refine (arm_any O1 p m _ (j : Int) (by omega) _ T2.out.T).mono ?_
  rintro e w3 ⟨rfl, h3, k3⟩
  have T3 : Hid (Tw w w3 O1 p m { newT 1048576 with armed := (j : Int) }) := T2.out.step h3 (Sp.of k3) ⟨T2.out.K.r0, T2.out.K.r1, T2.out.K.tot, T2.out.K.safe, T2.out.K.a0, T2.out.K.a1, (by show (0 : Int) ≤ (j : Int); omega), (by show (j : Int) ≤ 9223372036854775807; omega), T2.out.K.l0, T2.out.K.l1, T2.out.K.nm, T2.out.K.cnt⟩
  have I3 : Hid (LpI { newT 1048576 with armed := (j : Int) } 0 0) := ⟨rfl, (by decide : (0 : Int) ≤ 0), rfl, rfl, (by decide : (0 : Nat) ≤ 0), (by decide : (0 : Nat) ≤ 0)⟩
  have KP3 : Hid (KpI { newT 1048576 with armed := (j : Int) } (fun _ => []) (fun _ => [])) := fun r hr => ⟨fun _ => ⟨rfl, rfl⟩, fun f hf => by cases hf⟩
  clear h3 k3 T2
  generalize ({ newT 1048576 with armed := (j : Int) } : Tp) = t3 at *
  go_upto_region 6 with (fail)
  have TA : Hid (Tw w (w3.alloc (.cells #[.string ⟨#[97]⟩, .string ⟨#[98]⟩, .string ⟨#[99]⟩, .string ⟨#[100]⟩] 40)) O1 p m t3) := T3.out.below ((Below.refl _ _).alloc (Nat.le_refl _) _)
  have C1 : Hid (Cl (w3.alloc (.cells #[.string ⟨#[97]⟩, .string ⟨#[98]⟩, .string ⟨#[99]⟩, .string ⟨#[100]⟩] 40)) w3.heap.size (boxL nmOf) 40) := Cl.new w3 [.string ⟨#[97]⟩, .string ⟨#[98]⟩, .string ⟨#[99]⟩, .string ⟨#[100]⟩] 40
  have N1 : Hid (¬ O1 w3.heap.size) := fun hh => by have := T3.out.T.lt _ hh; omega
  clear T3
  generalize w3.alloc (.cells #[.string ⟨#[97]⟩, .string ⟨#[98]⟩, .string ⟨#[99]⟩, .string ⟨#[100]⟩] 40) = wa at *
  generalize w3.heap.size = q1 at *
  go_upto_region 7 with (fail)
  have TB : Hid (Tw w (wa.alloc (.cells #[.string ⟨#[]⟩, .string ⟨#[]⟩, .string ⟨#[]⟩, .string ⟨#[]⟩] 40)) O1 p m t3) := TA.out.below ((Below.refl _ _).alloc (Nat.le_refl _) _)
  have C1b := Lib.hid (C1.out.alloc (.cells #[.string ⟨#[]⟩, .string ⟨#[]⟩, .string ⟨#[]⟩, .string ⟨#[]⟩] 40))
  have C2 : Hid (Cl (wa.alloc (.cells #[.string ⟨#[]⟩, .string ⟨#[]⟩, .string ⟨#[]⟩, .string ⟨#[]⟩] 40)) wa.heap.size (boxL fun _ => []) 40) := Cl.new wa [.string ⟨#[]⟩, .string ⟨#[]⟩, .string ⟨#[]⟩, .string ⟨#[]⟩] 40
  have N2 : Hid (¬ O1 wa.heap.size) := fun hh => by have := TA.out.T.lt _ hh; omega
  have L2 : Hid (w.heap.size ≤ wa.heap.size) := TA.out.B.size
  have D12 : Hid (q1 ≠ wa.heap.size) := by have := C1.out.lt; rw [Hid]; omega
  clear TA C1
  generalize wa.alloc (.cells #[.string ⟨#[]⟩, .string ⟨#[]⟩, .string ⟨#[]⟩, .string ⟨#[]⟩] 40) = wb at *
  generalize wa.heap.size = q2 at *
  go_upto_block 0 with (fail)
  have K3 : Hid (KW w (wb.alloc (.cells #[.string ⟨#[]⟩, .string ⟨#[]⟩, .string ⟨#[]⟩, .string ⟨#[]⟩] 40)) O1 p m t3 q1 q2 wb.heap.size (fun _ => []) (fun _ => [])) :=
    ⟨TB.out.below ((Below.refl _ _).alloc (Nat.le_refl _) _), C1b.out.alloc _, C2.out.alloc _, Cl.new wb [.string ⟨#[]⟩, .string ⟨#[]⟩, .string ⟨#[]⟩, .string ⟨#[]⟩] 40, N1.out, N2.out, (fun hh => by have := TB.out.T.lt _ hh; omega), L2.out, TB.out.B.size, D12.out, (by have := C1b.out.lt; omega), (by have := C2.out.lt; omega)⟩
  clear TB C1b C2 N1 N2 L2 D12
  generalize wb.alloc (.cells #[.string ⟨#[]⟩, .string ⟨#[]⟩, .string ⟨#[]⟩, .string ⟨#[]⟩] 40) = wc0 at *
  generalize wb.heap.size = q3 at *
  go_cut [] (fun wz => ∃ O t A S, KpI t A S ∧ t.life ≤ 1 ∧ KW w wz O p m t q1 q2 q3 A S)
  case first =>
    go_wp2
    go_loopw [11] (fun i wr => ∃ (k : Nat) (O : Nat → Prop) (t : Tp) (A S : Nat → List UInt8), i = .int .i64 k ∧ k ≤ l.length ∧ k ≤ 60 ∧ LpI t k (2 * k) ∧ KpI t A S ∧ KW w wr O p m t q1 q2 q3 A S) (fun i _ => l.length - (intOf i).toNat)
    case atStart => exact ⟨0, O1, t3, _, _, rfl, by omega, by omega, I3.out, KP3.out, K3.out⟩
    case round =>
      obtain ⟨k, O, t, A, S, rfl, hk, hk2, hI, hP, hK⟩ := hrel
      have KK := Lib.hid hK
      have PP := Lib.hid hP
      have II := Lib.hid hI
      clear hI hK hP I3 KP3 K3
      by_cases hlt : k < l.length ∧ k < 60
      · obtain ⟨hlt, h60⟩ := hlt
        obtain ⟨x, hx⟩ : ∃ x, l[k]? = some x := ⟨l[k], by simp [hlt]⟩
        have hxl := HO.out x (List.mem_of_getElem? hx)
        have HXL := Lib.hid hxl
        have HGET := Lib.hid (fun (W : World) (hW : Below w.heap.size w W) => HA.out.get hW hx)
        obtain ⟨g, off, cap', he, hg, p0, p1, p2⟩ := HA.out.get KK.out.T.B hx
        injection he with he1 he2 he3
        subst he1 he3
        obtain ⟨xn, xs, xy⟩ := x
        dsimp only at *
        unfold maxLen at hxl
        clear he2 hx
        by_cases hbig : 1024 < xs.length
        · have BB := Lib.hid KK.out.T.B
          go_wp2
          go_ret
          exact ⟨rfl, BB.out⟩
        · have HCELL : Hid (∀ W : World, Below w.heap.size w W → W.cell? ⟨g, off + k * 3 + 1, none⟩ = some (.string ⟨xs.toArray⟩) ∧ W.cell? ⟨g, off + k * 3 + 2, none⟩ = some (.bool xy)) := fun W hW => by
            obtain ⟨g', off', cap', he, _, _, q1, q2⟩ := HGET.out W hW
            injection he with he1
            injection he1 with he1
            injection he1 with h1 h2
            subst h1 h2
            exact ⟨q1, q2⟩
          obtain ⟨r, hr, hrm⟩ := uint_rem xn 4 (by omega) (by omega)
          have hr4 : r < 4 := by omega
          clear HGET
          go_upto_region 14 with (fail)
          have TA := Lib.hid (KK.out.below (Below.refl wr.heap.size wr).drew)
          have c1 := (KK.out.c1.cell r).trans (boxL_at nmOf hr4)
          have hacts := II.out.acts
          have hlife := II.out.life
          have HAP := Lib.hid (append_any O p m t (nmOf r) xs wr.drew TA.out.T.T TA.out.T.K HXL.out II.out.down (by omega) (by omega) (nmOf_ok r))
          have hAl : (A r).length ≤ 61440 := by
            have h1 := PP.out.le hr4
            have h2 := II.out.tot
            omega
          clear hacts hlife p0 p2
          go_cut [13] (fun s13 wz => ∃ O9 t9 f9, s13 = .int .i64 (actV t) ∧ KW w wz O9 p m t9 q1 q2 q3 A S ∧ KpI t9 (putL A r (A r ++ xs)) S ∧ getF t9.files (nmOf r) = some f9 ∧ ((t.armed ≠ 1 ∧ LpI t9 (k + 1) (2 * k + 1)) ∨ (t.armed = 1 ∧ t9.down = true ∧ t9.life ≤ 1)))
          case first =>
            go_region_law (first
              | (go_simp; go_at_call 12; refine HAP.out.mono ?_; clear c1 p1; intro e w9 hpost; obtain ⟨O9, t9, f9, rfl, h1⟩ := LpI.app TA.out II.out (by omega) (by omega) hr4 (by omega) PP.out hpost; clear hpost; have H9 := Lib.hid h1; clear h1))
            all_goals
              go_wp2_with fail
              go_meet
              case rel => exact ⟨O9, t9, f9, rfl, H9.out⟩
          case rest =>
            obtain ⟨O9, t9, f9, rfl, hK9, hP9, hG9, hA9⟩ := hcut
            have K9 := Lib.hid hK9
            have P9 := Lib.hid hP9
            have G9 := Lib.hid hG9
            have A9 := Lib.hid hA9
            clear hK9 hP9 hG9 hA9 HAP TA c1 p1
            obtain ⟨p1, p2⟩ := HCELL.out wc K9.out.T.B
            have c3 := (K9.out.c3.cell r).trans (boxL_at A hr4)
            have f3 := K9.out.c3.free r
            have hadd := add_str (A r) xs (by omega)
            have KX := Lib.hid ((K9.out.set3 hr4 (A r ++ xs)).below (Below.refl _ _).drew)
            go_upto_region 15 with (fail)
            go_region
            go_upto_region 16 with (fail)
            generalize (wc.setCell ⟨q3, r, none⟩ (.string ⟨(A r ++ xs).toArray⟩)).drew = wx at *
            clear c3 f3 hadd p1 p2 K9
            obtain ⟨p1, p2⟩ := HCELL.out wx KX.out.T.B
            generalize putL A r (A r ++ xs) = A' at *
            rcases A9.out with ⟨h1, hI⟩ | ⟨h1, hd, hl⟩
            · have HV : Hid (actV t = 0) := by rw [Hid, actV, if_neg h1]
              have I9 := Lib.hid hI
              rw [HV.out]
              clear h1 hI A9
              cases xy with
              | false =>
                have I10 := Lib.hid (I9.out.mono (c' := 2 * (k + 1)) (by omega))
                go_wp2
                go_roundw
                case rel => exact ⟨k + 1, O9, t9, A', S, by go_num, by omega, by omega, I10.out, P9.out, KX.out⟩
                case measure => simp [intOf]; omega
              | true =>
                have c1 := (KX.out.c1.cell r).trans (boxL_at nmOf hr4)
                have hacts := I9.out.acts
                have hlife := I9.out.life
                have HSY := Lib.hid (sync_any O9 p m t9 (nmOf r) f9 wx KX.out.T.T KX.out.T.K I9.out.down (by omega) (by omega) G9.out)
                clear hacts hlife p1
                go_wp2_with fail
                refine HSY.out.mono ?_
                intro e w10 hpost
                obtain ⟨t10, rfl, hK10, hA10⟩ := LpI.sync KX.out I9.out (by omega) hr4 P9.out G9.out hpost
                have K10 := Lib.hid hK10
                clear hpost hK10 HSY c1 p2
                rcases hA10 with ⟨h1, hI, hP⟩ | ⟨h1, hl, hP⟩
                · have HV9 : Hid (actV t9 = 0) := by rw [Hid, actV, if_neg h1]
                  have I10 := Lib.hid (hI.mono (c' := 2 * (k + 1)) (by omega))
                  have P10 := Lib.hid hP
                  rw [HV9.out]
                  clear h1 hI hP
                  have c3 := (K10.out.c3.cell r).trans (boxL_at A' hr4)
                  have c2 := (K10.out.c2.cell r).trans (boxL_at S hr4)
                  have f2 := K10.out.c2.free r
                  have K11 := Lib.hid (K10.out.set2 hr4 (A' r))
                  go_wp2
                  go_roundw
                  case rel => exact ⟨k + 1, O9, t10, A', _, by go_num, by omega, by omega, I10.out, P10.out, K11.out⟩
                  case measure => simp [intOf]; omega
                · have HV9 : Hid (actV t9 = 10) := by rw [Hid, actV, if_pos h1]
                  have P10 := Lib.hid hP
                  rw [HV9.out]
                  clear h1 hP
                  go_wp2
                  go_meet
                  case rel => exact ⟨O9, t10, A', S, P10.out, hl, K10.out⟩
            · have HV : Hid (actV t = 10) := by rw [Hid, actV, if_pos h1]
              rw [HV.out]
              clear h1 hd A9
              go_wp2
              go_meet
              case rel => exact ⟨O9, t9, A', S, P9.out, hl, KX.out⟩
      · have IX := Lib.hid II.out.life
        by_cases h1 : k < l.length
        · have h2 : ¬ k < 60 := fun h2 => hlt ⟨h1, h2⟩
          clear hlt
          go_wp2
          go_meet
          case rel => exact ⟨O, t, A, S, PP.out, by rw [IX.out]; decide, KK.out⟩
        · clear hlt
          go_wp2
          go_meet
          case rel => exact ⟨O, t, A, S, PP.out, by rw [IX.out]; decide, KK.out⟩
  case rest =>
    obtain ⟨O, t, A, S, hP, hl, hK⟩ := hcut
    have PP := Lib.hid hP
    have KK := Lib.hid hK
    clear hP hK I3 KP3 K3
    go_wp2_with fail
    refine (off_any O p m t _ KK.out.T.T KK.out.T.K).mono ?_
    rintro e w5 ⟨rfl, h5, k5⟩
    obtain ⟨m1, m2, m3, m4, m5⟩ := offT_more t
    have OK5 := offT_ok KK.out.T.K (by omega)
    have K5 := Lib.hid (KK.out.step h5 (Sp.of k5) OK5)
    have P5 : Hid (KpI (offT t) A S) := by
      have := PP.out
      unfold KpI at this
      rw [← m2] at this
      exact this
    clear h5 k5 OK5
    go_wp2_with fail
    refine (on_any names_any O p m (offT t) fates vf _ K5.out.T.T K5.out.T.K m1 (HF.out.kept K5.out.T.B) (fun h0 gg hgg hOg => by
      obtain ⟨af, cf, rfl, hc⟩ := HF.out
      obtain ⟨g, off, rfl, hg, -⟩ := hc 0 (by omega)
      simp [Value.ownBlock] at hgg
      have := K5.out.T.lo _ hOg
      omega) HFL.out).mono ?_
    rintro e w6 ⟨rfl, ns, hns, h6, k6⟩
    obtain ⟨OK6, OO6⟩ := onT_ok K5.out.T.K K5.out.T.T.names fates ns
    have K6 := Lib.hid (K5.out.step h6 (Sp.of k6) OK6)
    have HR : Hid (∀ r, r < 4 → wasOf { offT t with down := false, files := onGo fates ns 0 (offT t).files } (nmOf r) <+: A r ∧ (S r).length ≤ (wasOf { offT t with down := false, files := onGo fates ns 0 (offT t).files } (nmOf r)).length) := fun r hr => P5.out.read (room := (offT t).room) ⟨K5.out.T.K.tot, K5.out.T.K.safe, rfl⟩ K5.out.T.T.names rfl hr
    have HL : Hid (∀ r, r < 4 → (A r).length ≤ 4194304) := fun r hr => by
      have h1 := P5.out.le hr
      have h2 := K5.out.T.K.tot
      have h3 := K5.out.T.K.r1
      omega
    have HD6 : Hid (({ offT t with down := false, files := onGo fates ns 0 (offT t).files } : Tp).down = false) := rfl
    clear h6 k6 OK6 OO6 KK K5 P5 PP m1 m2 m3 m4 m5 hns hl
    generalize ({ offT t with down := false, files := onGo fates ns 0 (offT t).files } : Tp) = t6 at *
    clear ns
    go_wp2
    go_loopw [14] (fun i wr => ∃ k : Nat, i = .int .i64 k ∧ k ≤ 4 ∧ KW w wr O p m t6 q1 q2 q3 A S) (fun i _ => 4 - (intOf i).toNat)
    case atStart => exact ⟨0, rfl, by omega, K6.out⟩
    case round =>
      obtain ⟨k, rfl, hk, hK⟩ := hrel
      have KK := Lib.hid hK
      clear hK K6
      by_cases hlt : k < 4
      · have c1 := (KK.out.c1.cell k).trans (boxL_at nmOf hlt)
        have c2 := (KK.out.c2.cell k).trans (boxL_at S hlt)
        have c3 := (KK.out.c3.cell k).trans (boxL_at A hlt)
        obtain ⟨hp, hs⟩ := HR.out k hlt
        have hal := HL.out k hlt
        have hgl := hp.length_le
        have htk : (A k).take (wasOf t6 (nmOf k)).length = wasOf t6 (nmOf k) := (List.prefix_iff_eq_take.1 hp).symm
        have hmin : min (wasOf t6 (nmOf k)).length (A k).length = (wasOf t6 (nmOf k)).length := by omega
        have hwr : IntKind.i64.wrap ((wasOf t6 (nmOf k)).length : Int) = ((wasOf t6 (nmOf k)).length : Int) := by rw [IntKind.wrap_i64]; omega
        clear hp
        go_wp2_with fail
        refine (read_any O p m t6 (nmOf k) _ KK.out.T.T).mono ?_
        rintro e w8 ⟨rfl, rfl⟩
        rw [readV_eq HD6.out]
        have hcode : codeOf t6 (nmOf k) = 0 ∨ codeOf t6 (nmOf k) = 12 := by
          unfold codeOf
          split
          · exact .inl rfl
          · exact .inr rfl
        generalize wasOf t6 (nmOf k) = s0 at *
        generalize S k = s1 at *
        generalize A k = s2 at *
        have h4 : (s1.length : Int) ≤ (s0.length : Int) := by omega
        have h5 : (s0.length : Int) ≤ (s2.length : Int) := by omega
        rcases hcode with hc | hc
        · rw [hc]
          clear hc
          go_wp2
          go_roundw
          case rel => exact ⟨k + 1, by go_num, by omega, KK.out⟩
          case measure => simp [intOf]; omega
        · rw [hc]
          clear hc
          go_wp2
          go_roundw
          case rel => exact ⟨k + 1, by go_num, by omega, KK.out⟩
          case measure => simp [intOf]; omega
      · obtain rfl : k = 4 := by omega
        have BB := Lib.hid KK.out.T.B
        go_wp2_with fail
        refine (read_nil [97] wr).mono ?_
        rintro e w8 ⟨rfl, rfl⟩
        go_wp2_with fail
        refine (append_nil [97] [] wr).mono ?_
        rintro e w8 ⟨rfl, rfl⟩
        go_wp2_with fail
        refine (down_nil wr).mono ?_
        rintro e w8 ⟨rfl, rfl⟩
        go_wp2_with fail
        refine (names_nil wr).mono ?_
        rintro e w8 ⟨rfl, rfl⟩
        go_wp2_with fail
        refine (left_nil wr).mono ?_
        rintro e w8 ⟨rfl, rfl⟩
        go_wp2
        go_ret
        exact ⟨rfl, BB.out⟩

end Go.Proofs.Ytohimlahncbpjaa
