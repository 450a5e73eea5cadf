/-
  TapeAgain, walked.
  Conditions: none but the model's longest length.
-/
import Derived.Test.YtohimlahncbpjaaTv
import Derived.Test.YtohimlahncbpjaaOi
import Derived.Deep.CutBlock
set_option linter.unusedVariables false
set_option linter.unusedSimpArgs false
namespace Go.Proofs.Ytohimlahncbpjaa
open Go.RowKit

structure AgI (t : Tp) (k : Nat) : Prop where
  down : t.down = false
  armed : t.armed = 0
  acts : t.acts ≤ k
  life : t.life = 0
/-- What an append leaves of a tape that nothing will down. -/
theorem AgI.app {w w9 wa : World} {O : Nat → Prop} {p m : Nat} {t : Tp} {k : Nat} {n s : List UInt8} {e : Ending} (T : Tw w wa O p m t) (I : AgI t k) (hk : k ≤ 1000) (hn : isNm n = true) (h : AppPost O p m t n s wa e w9) :
    (∃ v, e = .returned (.int .i64 v)) ∧ ∃ O9 t9, AgI t9 (k + 1) ∧ Tw w w9 O9 p m t9 := by
  rcases h with ⟨⟨hf1, hf2⟩, b, he9, O9, h9, s9⟩ | ⟨hno, he9, O9, h9, s9⟩
  · refine ⟨⟨_, he9⟩, O9, _, ?_, T.step h9 s9 ?_⟩
    · obtain ⟨m1, m2, m3, m4, m5⟩ := appT_more t n s b
      obtain ⟨q1, q2, q3, q4⟩ := actT_more (appT t n s b)
      rw [m5] at q2
      obtain ⟨d1, d2, d3⟩ := q2 I.armed
      refine ⟨by rw [d2, m1]; exact I.down, d1, ?_, by rw [d3, m3]; exact I.life⟩
      have := I.acts
      rw [q1, m2]
      omega
    · obtain ⟨m1, m2, m3, m4, m5⟩ := appT_more t n s b
      have h0 := appT_ok (n := n) T.K b hf2 T.T.names hn hf1
      have := I.acts
      have := I.life
      exact actT_ok h0 (by rw [m2]; omega) (by rw [m3]; omega)
  · refine ⟨⟨_, he9⟩, O9, t, ⟨I.down, I.armed, by have := I.acts; omega, I.life⟩, T.step h9 s9 T.K⟩
/-- What was read, as far as the loop has come. -/
def wasL (t : Tp) (k : Nat) : List Value := (List.range 4).map fun j => .string ⟨(if j < k then wasOf t (nmOf j) else []).toArray⟩
theorem wasL_at (t : Tp) {k : Nat} (hk : k < 4) : (wasL t k)[k]? = some (.string ⟨#[]⟩) := by
  simp [wasL, hk]
theorem wasL_all (t : Tp) {k : Nat} (hk : k < 4) : (wasL t 4)[k]? = some (.string ⟨(wasOf t (nmOf k)).toArray⟩) := by
  simp [wasL, hk]
theorem wasL_set (t : Tp) {k : Nat} (hk : k < 4) : (wasL t k).set k (.string ⟨(wasOf t (nmOf k)).toArray⟩) = wasL t (k + 1) := by
  obtain rfl | rfl | rfl | rfl : k = 0 ∨ k = 1 ∨ k = 2 ∨ k = 3 := by omega
  all_goals rfl
theorem Tw.setq {w0 w : World} {O : Nat → Prop} {p m : Nat} {t : Tp} (h : Tw w0 w O p m t) {q : Nat} (hq : ¬ O q) (hl : w0.heap.size ≤ q) (k : Nat) (u : Value) : Tw w0 (w.setCell ⟨q, k, none⟩ u) O p m t := by
  have hk : Keeps (fun j => j = q) w (w.setCell ⟨q, k, none⟩ u) := Keeps.setCell (fun j => j = q) _ ⟨q, k, none⟩ _ rfl
  exact ⟨h.T.kept hk (fun k hk e => hq (e ▸ hk)), h.K, h.lo, h.B.trans (hk.toBelow h.B.size (fun k hk e => by subst e; omega))⟩
set_option maxRecDepth 100000 in
set_option maxHeartbeats 3200000 in
theorem again_walk (v vf vm : Value) (l : List Pt) (fates more : List Int) (w : World) (h : Parts w v l) (hm : l.length ≤ maxLen) (hok : ∀ x ∈ l, x.s.length ≤ maxLen) (hf : Ints w vf fates) (hfl : fates.length ≤ maxLen) (hg : Ints w vm more) (hgl : more.length ≤ maxLen) :
    Calls Try.prog 4 #[v, vf, vm] w fun e w' => e = .returned (.bool true) ∧ Below w.heap.size w w' := by
  have HA := Lib.hid h
  have HO := Lib.hid hok
  have HF := Lib.hid hf
  have HG := Lib.hid hg
  have HFL := Lib.hid hfl
  have HGL := Lib.hid hgl
  unfold maxLen at hm
  obtain ⟨a, cap, rfl, -⟩ := id h
  clear h hok hf hg hfl hgl
  go_enter Try.func4, Try.ntmps4
  go_wp2_with fail
  refine (awake_any _).mono ?_
  rintro e w1 ⟨rfl, hb1⟩
  have B1 := Lib.hid hb1
  clear hb1
  go_wp2_with fail
  refine (newTape_any 1048576 (by omega) (by omega) _).mono ?_
  rintro e w2 ⟨rfl, h2, hb2⟩
  have T2 := Lib.hid (Tw.new (w0 := w) (by omega) (by omega) B1.out h2 hb2)
  have I2 : Hid (AgI (newT 1048576) 0) := ⟨rfl, rfl, (by decide : (0 : Int) ≤ 0), rfl⟩
  clear h2 hb2
  generalize (fun k => w1.heap.size ≤ k ∧ k < w1.heap.size + 2) = O1 at T2
  generalize hp : w1.heap.size + 1 = p at T2 ⊢
  generalize w1.heap.size = m at T2
  clear hp
  generalize newT 1048576 = t2 at *
  go_upto_block 0 with (fail)
  go_cut [] (fun wz => ∃ O t, AgI t 60 ∧ Tw w wz O p m t)
  case first =>
    go_wp2
    go_loopw [8] (fun i wr => ∃ (k : Nat) (O : Nat → Prop) (t : Tp), i = .int .i64 k ∧ k ≤ l.length ∧ k ≤ 60 ∧ AgI t k ∧ Tw w wr O p m t) (fun i _ => l.length - (intOf i).toNat)
    case atStart => exact ⟨0, O1, t2, rfl, by omega, by omega, I2.out, T2.out⟩
    case round =>
      obtain ⟨k, O, t, rfl, hk, hk2, hI, hT⟩ := hrel
      have TT := Lib.hid hT
      have II := Lib.hid hI
      clear hI hT
      by_cases hlt : k < l.length ∧ k < 60
      · obtain ⟨hlt, h60⟩ := hlt
        obtain ⟨x, hx⟩ : ∃ x, l[k]? = some x := ⟨l[k], by simp [hlt]⟩
        have hxl := HO.out x (List.mem_of_getElem? hx)
        have HXL := Lib.hid hxl
        obtain ⟨g, off, cap', he, hg, p0, p1, p2⟩ := HA.out.get TT.out.B hx
        injection he with he1 he2 he3
        subst he1 he3
        obtain ⟨xn, xs, xy⟩ := x
        dsimp only at *
        unfold maxLen at hxl
        clear he2 hx
        by_cases hbig : 1024 < xs.length
        · have BB := Lib.hid TT.out.B
          go_wp2
          go_ret
          exact ⟨rfl, BB.out⟩
        · obtain ⟨r, hr, hrm⟩ := uint_rem xn 4 (by omega) (by omega)
          have hr4 : r < 4 := by omega
          have TA : Hid (Tw w (wr.alloc (.cells #[.int .u8 (97 + (r : Int))] 5)).drew O p m t) := TT.out.below ((Below.refl _ _).alloc (Nat.le_refl _) _).drew
          have hgw : g < wr.heap.size := Nat.lt_of_lt_of_le hg TT.out.B.size
          have q0 := (((Below.refl wr.heap.size wr).alloc (Nat.le_refl _) (.cells #[.int .u8 (97 + (r : Int))] 5)).cell (p := ⟨g, off + k * 3, none⟩) hgw).trans p0
          have q1 := (((Below.refl wr.heap.size wr).alloc (Nat.le_refl _) (.cells #[.int .u8 (97 + (r : Int))] 5)).cell (p := ⟨g, off + k * 3 + 1, none⟩) hgw).trans p1
          have hw64 : IntKind.u64.wrap (97 + (r : Int)) = 97 + (r : Int) := by rw [IntKind.wrap_u64]; omega
          have hw8 : IntKind.u8.wrap (97 + (r : Int)) = 97 + (r : Int) := by rw [IntKind.wrap_u8]; omega
          have hcv := convName r hr4 (wr.alloc (.cells #[.int .u8 (97 + (r : Int))] 5)).drew wr.heap.size ((Cl.new wr [.int .u8 (97 + (r : Int))] 5).cell 0)
          have hacts := II.out.acts
          have hlife := II.out.life
          have HAP := Lib.hid (fun W (hW : Tw w W O p m t) => append_any O p m t (nmOf r) xs W hW.T hW.K HXL.out II.out.down (by omega) (by omega) (nmOf_ok r))
          go_upto_region 9 with (fail)
          go_region_law (first
            | (go_simp; go_at_call 12; refine (HAP.out _ TA.out).mono ?_; clear hw64 hw8 hcv p0 p1 p2 q0 q1; intro e w9 hpost; obtain ⟨⟨v9, rfl⟩, O9, t9, hI9, hT9⟩ := AgI.app TA.out II.out (by omega) (nmOf_ok r) hpost; clear hpost; have I9 := Lib.hid hI9; have T9 := Lib.hid hT9; clear hI9 hT9))
          all_goals
            go_wp2
            go_roundw
            case rel => exact ⟨k + 1, O9, t9, by go_num, by omega, by omega, I9.out, T9.out⟩
            case measure => simp [intOf]; omega
      · have IX : Hid (AgI t 60) := ⟨II.out.down, II.out.armed, by have := II.out.acts; omega, II.out.life⟩
        by_cases h1 : k < l.length
        · have h2 : ¬ k < 60 := fun h2 => hlt ⟨h1, h2⟩
          clear hlt
          go_wp2
          go_meet
          case rel => exact ⟨O, t, IX.out, TT.out⟩
        · clear hlt
          go_wp2
          go_meet
          case rel => exact ⟨O, t, IX.out, TT.out⟩
  case rest =>
    obtain ⟨O, t, hI, hT⟩ := hcut
    have II := Lib.hid hI
    have TT := Lib.hid hT
    clear hI hT T2 I2 HO HA B1
    clear hm
    have hacts := II.out.acts
    have hlife := II.out.life
    go_wp2_with fail
    refine (off_any O p m t _ TT.out.T TT.out.K).mono ?_
    rintro e w5 ⟨rfl, h5, k5⟩
    obtain ⟨m1, m2, m3, m4, m5⟩ := offT_more t
    obtain ⟨n1, n2⟩ := m4 II.out.down
    have OK5 := offT_ok TT.out.K (by omega)
    have T5 := Lib.hid (TT.out.step h5 (Sp.of k5) OK5)
    clear h5 k5 OK5
    go_wp2_with fail
    refine (on_any names_any O p m (offT t) fates vf _ T5.out.T T5.out.K m1 (HF.out.kept T5.out.B) (fun h0 gg hgg hOg => by
      obtain ⟨af, cf, rfl, hc⟩ := HF.out
      obtain ⟨g, off, rfl, hg, -⟩ := hc 0 (by omega)
      simp [Value.ownBlock] at hgg
      have := T5.out.lo _ hOg
      omega) HFL.out).mono ?_
    rintro e w6 ⟨rfl, ns, hns, h6, k6⟩
    obtain ⟨OK6, OO6⟩ := onT_ok T5.out.K T5.out.T.names fates ns
    have T6 := Lib.hid (T5.out.step h6 (Sp.of k6) OK6)
    have HS6 : Hid (∀ f ∈ onGo fates ns 0 (offT t).files, f.safe = f.data.length) := onGo_safe fates T5.out.T.names ns 0 _ ⟨T5.out.K.tot, T5.out.K.safe, rfl⟩ (fun f hf => .inl (hns.symm.subset (List.mem_map_of_mem (f := (·.name)) hf)))
    have HL6 : Hid (({ offT t with down := false, files := onGo fates ns 0 (offT t).files } : Tp).life = 1) := by
      show (offT t).life = 1
      omega
    have HD6 : Hid (({ offT t with down := false, files := onGo fates ns 0 (offT t).files } : Tp).down = false) := rfl
    have HS7 : Hid (∀ f ∈ ({ offT t with down := false, files := onGo fates ns 0 (offT t).files } : Tp).files, f.safe = f.data.length) := HS6.out
    clear h6 k6 OK6 OO6 HS6 T5 TT II m1 m2 m3 m4 m5 n1 n2 hacts hlife hns
    generalize ({ offT t with down := false, files := onGo fates ns 0 (offT t).files } : Tp) = t6 at *
    clear ns
    go_wp2
    have Q0 : Hid (¬ O w6.heap.size) := fun hh => by have := T6.out.T.lt _ hh; omega
    have QL : Hid (w.heap.size ≤ w6.heap.size) := T6.out.B.size
    have C7 : Hid (Cl (w6.alloc (.cells #[.string ⟨#[]⟩, .string ⟨#[]⟩, .string ⟨#[]⟩, .string ⟨#[]⟩] 40)) w6.heap.size (wasL t6 0) 40) := Cl.new w6 [.string ⟨#[]⟩, .string ⟨#[]⟩, .string ⟨#[]⟩, .string ⟨#[]⟩] 40
    have T7 : Hid (Tw w (w6.alloc (.cells #[.string ⟨#[]⟩, .string ⟨#[]⟩, .string ⟨#[]⟩, .string ⟨#[]⟩] 40)) O p m t6) := T6.out.below ((Below.refl _ _).alloc (Nat.le_refl _) _)
    clear T6
    generalize w6.alloc (.cells #[.string ⟨#[]⟩, .string ⟨#[]⟩, .string ⟨#[]⟩, .string ⟨#[]⟩] 40) = w7 at *
    generalize w6.heap.size = q at *
    go_loopw [10] (fun i wr => ∃ k : Nat, i = .int .i64 k ∧ k ≤ 4 ∧ Tw w wr O p m t6 ∧ Cl wr q (wasL t6 k) 40) (fun i _ => 4 - (intOf i).toNat)
    case atStart => exact ⟨0, rfl, by omega, T7.out, C7.out⟩
    case round =>
      obtain ⟨k, rfl, hk, hT, hC⟩ := hrel
      have TT := Lib.hid hT
      have CC := Lib.hid hC
      clear hT hC C7 T7
      by_cases hlt : k < 4
      · have TA : Hid (Tw w (wr.alloc (.cells #[.int .u8 (97 + (k : Int))] 5)) O p m t6) := TT.out.below ((Below.refl _ _).alloc (Nat.le_refl _) _)
        have hcv := convName k hlt (wr.alloc (.cells #[.int .u8 (97 + (k : Int))] 5)) wr.heap.size ((Cl.new wr [.int .u8 (97 + (k : Int))] 5).cell 0)
        have hw8 : IntKind.u8.wrap (97 + (k : Int)) = 97 + (k : Int) := by rw [IntKind.wrap_u8]; omega
        have CA := Lib.hid (CC.out.alloc (.cells #[.int .u8 (97 + (k : Int))] 5))
        go_wp2_with fail
        refine (read_any O p m t6 (nmOf k) _ TA.out.T).mono ?_
        rintro e w8 ⟨rfl, rfl⟩
        rw [readV_eq HD6.out]
        clear hcv hw8
        generalize wr.alloc (.cells #[.int .u8 (97 + (k : Int))] 5) = wa at *
        have c0 := (CA.out.cell k).trans (wasL_at t6 hlt)
        have f0 := CA.out.free k
        have HST := Lib.hid (wasL_set t6 hlt)
        generalize hs : wasOf t6 (nmOf k) = s0 at *
        have HS := Lib.hid hs
        clear hs
        generalize codeOf t6 (nmOf k) = c1
        go_wp2
        go_roundw
        case rel => exact ⟨k + 1, by go_num, by omega, TA.out.setq Q0.out QL.out k _, by have := CA.out.set k (.string ⟨s0.toArray⟩); rw [HST.out] at this; exact this⟩
        case measure => simp [intOf]; omega
      · obtain rfl : k = 4 := by omega
        have hlife := HL6.out
        go_wp2_with fail
        refine (off_any O p m t6 _ TT.out.T TT.out.K).mono ?_
        rintro e w5 ⟨rfl, h5, k5⟩
        obtain ⟨m1, m2, m3, m4, m5⟩ := offT_more t6
        obtain ⟨n1, n2⟩ := m4 HD6.out
        have OK5 := offT_ok TT.out.K (by omega)
        have T5 := Lib.hid (TT.out.step h5 (Sp.of k5) OK5)
        have C5 := Lib.hid (CC.out.keep k5 Q0.out)
        clear h5 k5 OK5
        go_wp2_with fail
        refine (on_any names_any O p m (offT t6) more vm _ T5.out.T T5.out.K m1 (HG.out.kept T5.out.B) (fun h0 gg hgg hOg => by
          obtain ⟨af, cf, rfl, hc⟩ := HG.out
          obtain ⟨g, off, rfl, hg, -⟩ := hc 0 (by omega)
          simp [Value.ownBlock] at hgg
          have := T5.out.lo _ hOg
          omega) HGL.out).mono ?_
        rintro e w6 ⟨rfl, ns, hns, h6, k6⟩
        obtain ⟨OK6, OO6⟩ := onT_ok T5.out.K T5.out.T.names more ns
        have T9 := Lib.hid (T5.out.step h6 (Sp.of k6) OK6)
        have C9 := Lib.hid (C5.out.keep k6 Q0.out)
        have HF9 : Hid (({ offT t6 with down := false, files := onGo more ns 0 (offT t6).files } : Tp).files = t6.files) := by
          show onGo more ns 0 (offT t6).files = t6.files
          rw [m2]
          exact onGo_id more ns 0 _ HS7.out
        have HL9 : Hid (({ offT t6 with down := false, files := onGo more ns 0 (offT t6).files } : Tp).life = 2) := by
          show (offT t6).life = 2
          omega
        have HD9 : Hid (({ offT t6 with down := false, files := onGo more ns 0 (offT t6).files } : Tp).down = false) := rfl
        clear h6 k6 OK6 OO6 T5 C5 TT CC m1 m2 m3 m4 m5 n1 n2 hlife hns
        generalize ({ offT t6 with down := false, files := onGo more ns 0 (offT t6).files } : Tp) = t9 at *
        clear ns
        go_wp2
        go_loopw [13] (fun i wr => ∃ k : Nat, i = .int .i64 k ∧ k ≤ 4 ∧ Tw w wr O p m t9 ∧ Cl wr q (wasL t6 4) 40) (fun i _ => 4 - (intOf i).toNat)
        case atStart => exact ⟨0, rfl, by omega, T9.out, C9.out⟩
        case round =>
          obtain ⟨k, rfl, hk, hT, hC⟩ := hrel
          have TT := Lib.hid hT
          have CC := Lib.hid hC
          clear hT hC C9 T9
          by_cases hlt : k < 4
          · have TA : Hid (Tw w (wr.alloc (.cells #[.int .u8 (97 + (k : Int))] 5)) O p m t9) := TT.out.below ((Below.refl _ _).alloc (Nat.le_refl _) _)
            have hcv := convName k hlt (wr.alloc (.cells #[.int .u8 (97 + (k : Int))] 5)) wr.heap.size ((Cl.new wr [.int .u8 (97 + (k : Int))] 5).cell 0)
            have hw8 : IntKind.u8.wrap (97 + (k : Int)) = 97 + (k : Int) := by rw [IntKind.wrap_u8]; omega
            have CA := Lib.hid (CC.out.alloc (.cells #[.int .u8 (97 + (k : Int))] 5))
            go_wp2_with fail
            refine (read_any O p m t9 (nmOf k) _ TA.out.T).mono ?_
            rintro e w8 ⟨rfl, rfl⟩
            rw [readV_eq HD9.out, show wasOf t9 (nmOf k) = wasOf t6 (nmOf k) by unfold wasOf; rw [HF9.out]]
            clear hcv hw8
            generalize wr.alloc (.cells #[.int .u8 (97 + (k : Int))] 5) = wa at *
            have c0 := (CA.out.cell k).trans (wasL_all t6 hlt)
            generalize wasOf t6 (nmOf k) = s0 at *
            generalize codeOf t9 (nmOf k) = c1
            go_wp2
            go_roundw
            case rel => exact ⟨k + 1, by go_num, by omega, TA.out, CA.out⟩
            case measure => simp [intOf]; omega
          · obtain rfl : k = 4 := by omega
            go_wp2_with fail
            refine (life_any O p m t9 _ TT.out.T).mono ?_
            rintro e w8 ⟨rfl, rfl⟩
            rw [HL9.out]
            go_wp2
            go_ret
            exact ⟨rfl, TT.out.B⟩

end Go.Proofs.Ytohimlahncbpjaa
