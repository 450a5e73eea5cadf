/-
  The document's row, walked: Ahead, Over.
  Conditions: the row holds sizes, at most 4096 of them.
-/
import Derived.Test.YtccndbifnbmddaaWp
import Derived.Test.YtccndbifnbmddaaGwe
import Derived.Test.YtccndbifnbmddaaCl
import Derived.Test.YtccndbifnbmddaaAst
import Derived.Deep.RegionLaw
set_option linter.unusedVariables false
set_option linter.unusedSimpArgs false
namespace Go.Proofs.Ytccndbifnbmddaa
open Go.RowKit Fl

theorem sums_split (ns : List (Nat × Nat)) (k : Nat) : sA ns = sA (ns.take k) + sA (ns.drop k) ∧ sB ns = sB (ns.take k) + sB (ns.drop k) := by
  have e : ns = ns.take k ++ ns.drop k := (List.take_append_drop k ns).symm
  constructor
  · conv => lhs; rw [e]
    exact sA_append _ _
  · conv => lhs; rw [e]
    exact sB_append _ _
theorem ov_lt (ns : List (Nat × Nat)) (m : Int) (h : ns ≠ []) : ov ns m < ns.length := by
  induction ns with
  | nil => exact absurd rfl h
  | cons x r ih =>
    cases r with
    | nil => simp [ov]
    | cons y r =>
      have h2 := ih (by simp)
      rw [ov]
      simp only [List.length_cons] at h2 ⊢
      split <;> omega
theorem ov_enough (ns : List (Nat × Nat)) (m : Int) (h : ns ≠ []) : ((sB (ns.drop (ov ns m)) : Nat) : Int) ≤ m ∨ ov ns m + 1 = ns.length := by
  induction ns with
  | nil => exact absurd rfl h
  | cons x r ih =>
    cases r with
    | nil => right; simp [ov]
    | cons y r =>
      have h2 := ih (by simp)
      rw [ov]
      split
      · rw [Nat.add_comm 1, List.drop_succ_cons]
        simp only [List.length_cons] at h2 ⊢
        omega
      · left; simp; omega
theorem ov_least (ns : List (Nat × Nat)) (m : Int) : ov ns m = 0 ∨ m < ((sB (ns.drop (ov ns m - 1)) : Nat) : Int) := by
  induction ns with
  | nil => left; rfl
  | cons x r ih =>
    cases r with
    | nil => left; rfl
    | cons y r =>
      rw [ov]
      split
      · rename_i hm
        right
        rcases ih with h0 | h0
        · rw [h0]; exact hm
        · have hne : ov (y :: r) m ≠ 0 ∨ ov (y :: r) m = 0 := by omega
          rcases hne with hne | hne
          · have e : 1 + ov (y :: r) m - 1 = (ov (y :: r) m - 1) + 1 := by omega
            rw [e, List.drop_succ_cons]; exact h0
          · rw [hne]; exact hm
      · left; rfl


set_option maxRecDepth 20000 in
set_option maxHeartbeats 3200000 in
theorem rahead_any (B p : Nat) (v : Value) (ns : List (Nat × Nat)) (at' : Int) (w : World) (h : RRow w B p v ns) :
    Calls Try.prog 50 #[.pointer (some ⟨p, 0, none⟩), .int .i64 at'] w fun e w' => e = .returned (szV (sA (ns.take at'.toNat), sB (ns.take at'.toNat))) ∧ Below w.heap.size w w' := by
  have H := Lib.hid h
  have hlen := h.2.2.2.2.2
  have HZ := Lib.hid h.2.2.2.2.1
  obtain ⟨ao, cap, hv, hle, hform⟩ := h.2.2.1.form
  subst hv
  obtain ⟨i0, hi, hz0, hz1, hz2⟩ := info_parts infoSz
  obtain ⟨m, hm, hmk⟩ : ∃ m : Nat, m ≤ ns.length ∧ ns.take at'.toNat = ns.take m ∧ (m = at'.toNat ∨ (m = ns.length ∧ ns.length ≤ at'.toNat)) := by
    by_cases hh : at'.toNat ≤ ns.length
    · exact ⟨_, hh, rfl, .inl rfl⟩
    · exact ⟨ns.length, Nat.le_refl _, by rw [List.take_of_length_le (by omega), List.take_of_length_le (Nat.le_refl _)], .inr ⟨rfl, by omega⟩⟩
  obtain ⟨htk, hmm⟩ := hmk
  rw [htk]
  clear htk h
  have W1 : Hid (Below w.heap.size w ((w.alloc (.cells #[.int .i64 0, .int .i64 0] 81)).alloc (.cells #[.int .i64 0, .int .i64 0] 81))) := ((Below.refl _ _).alloc (Nat.le_refl _) _).alloc (by simp) _
  have C1 : Hid (Cl ((w.alloc (.cells #[.int .i64 0, .int .i64 0] 81)).alloc (.cells #[.int .i64 0, .int .i64 0] 81)) w.heap.size [.int .i64 0, .int .i64 0] 81) := (Cl.new w [.int .i64 0, .int .i64 0] 81).alloc _
  have D1 : Hid (Cl ((w.alloc (.cells #[.int .i64 0, .int .i64 0] 81)).alloc (.cells #[.int .i64 0, .int .i64 0] 81)) (w.heap.size + 1) [.int .i64 ((sA (ns.take 0) : Nat) : Int), .int .i64 ((sB (ns.take 0) : Nat) : Int)] 81) := by
    have := Cl.new (w.alloc (.cells #[.int .i64 0, .int .i64 0] 81)) [.int .i64 0, .int .i64 0] 81
    rwa [show (w.alloc (.cells #[.int .i64 0, .int .i64 0] 81)).heap.size = w.heap.size + 1 from by simp] at this
  go_enter Try.func50, Try.ntmps50
  go_upto_region 2 with (fail)
  generalize (w.alloc (.cells #[.int .i64 0, .int .i64 0] 81)).alloc (.cells #[.int .i64 0, .int .i64 0] 81) = w2 at *
  go_wp2
  go_loopw [6] (fun i wr => ∃ k : Nat, i = .int .i64 k ∧ k ≤ m ∧ Cl wr w.heap.size [.int .i64 0, .int .i64 0] 81 ∧ Cl wr (w.heap.size + 1) [.int .i64 ((sA (ns.take k) : Nat) : Int), .int .i64 ((sB (ns.take k) : Nat) : Int)] 81 ∧ Below w.heap.size w wr) (fun i _ => m - (intOf i).toNat)
  case atStart => exact ⟨0, rfl, by omega, C1.out, D1.out, W1.out⟩
  case round =>
    obtain ⟨k, rfl, hk, hcr, hdr, hbr⟩ := hrel
    have CR := Lib.hid hcr
    have DR := Lib.hid hdr
    have BR := Lib.hid hbr
    clear hcr hdr hbr
    have RZ := Lib.hid (H.out.below BR.out)
    have hc := RZ.out.cell
    by_cases hlt : k < m
    · obtain ⟨g, off, rfl, p0, p1⟩ := RZ.out.2.2.1.sizes k (by omega)
      obtain ⟨s1, s2⟩ := sums_take ns k (by omega)
      have hb1 := sums_lt (ns := ns.take (k + 1)) (HZ.out.take (k + 1)) (by rw [List.length_take]; omega)
      have HS := Lib.hid (And.intro s1 s2)
      rw [s1, s2] at hb1
      have h1 : (k : Int) < at' := by omega
      have h2 : (k : Int) < (ns.length : Int) := by omega
      have h0 : (0 : Int) ≤ (k : Int) := by omega
      have d0 : wr.cell? ⟨w.heap.size + 1, 0, none⟩ = some (.int .i64 ((sA (ns.take k) : Nat) : Int)) := DR.out.cell 0
      have d1 : wr.cell? ⟨w.heap.size + 1, 1, none⟩ = some (.int .i64 ((sB (ns.take k) : Nat) : Int)) := DR.out.cell 1
      have df0 := DR.out.free 0
      have df1 := DR.out.free 1
      clear s1 s2
      generalize hq : ns.getD k (0, 0) = q at *
      have HQ := Lib.hid hq
      clear hq
      obtain ⟨qa, qb⟩ := q
      generalize sA (ns.take k) = xa at *
      generalize sB (ns.take k) = xb at *
      dsimp only at *
      have hgs : g ≠ w.heap.size + 1 := fun e => by
        have := (H.out.2.2.1.lt g rfl).2
        omega
      have hps : p ≠ w.heap.size + 1 := fun e => by have := H.out.lt; omega
      have D2 : Hid (Cl (wr.setCell ⟨w.heap.size + 1, 0, none⟩ (.int .i64 ((xa : Int) + (qa : Int)))).drew (w.heap.size + 1) [.int .i64 ((xa : Int) + (qa : Int)), .int .i64 (xb : Int)] 81) := (DR.out.set 0 (.int .i64 ((xa : Int) + (qa : Int)))).drewN 1
      have C2 : Hid (Cl (wr.setCell ⟨w.heap.size + 1, 0, none⟩ (.int .i64 ((xa : Int) + (qa : Int)))).drew w.heap.size [.int .i64 0, .int .i64 0] 81) := (CR.out.other ⟨w.heap.size + 1, 0, none⟩ (.int .i64 ((xa : Int) + (qa : Int))) (by simp)).drewN 1
      have B2 : Hid (Below w.heap.size w (wr.setCell ⟨w.heap.size + 1, 0, none⟩ (.int .i64 ((xa : Int) + (qa : Int)))).drew) := (BR.out.setCell (p := ⟨w.heap.size + 1, 0, none⟩) (Nat.le_succ _) _).drew
      go_wp2
      go_region
      go_upto_region 6 with (fail)
      generalize (wr.setCell ⟨w.heap.size + 1, 0, none⟩ (.int .i64 ((xa : Int) + (qa : Int)))).drew = w3 at *
      have R3 := Lib.hid (H.out.below B2.out)
      obtain ⟨g', off', he, q0, q1⟩ := R3.out.2.2.1.sizes k (by omega)
      rw [HQ.out] at q0 q1
      injection he with he
      injection he with e1 e2
      subst e1 e2
      have hc3 := R3.out.cell
      have d0 : w3.cell? ⟨w.heap.size + 1, 0, none⟩ = some (.int .i64 ((xa : Int) + (qa : Int))) := D2.out.cell 0
      have d1 : w3.cell? ⟨w.heap.size + 1, 1, none⟩ = some (.int .i64 (xb : Int)) := D2.out.cell 1
      have df0 := D2.out.free 0
      have df1 := D2.out.free 1
      dsimp only at *
      have D4 : Hid (Cl (w3.setCell ⟨w.heap.size + 1, 1, none⟩ (.int .i64 ((xb : Int) + (qb : Int)))).drew (w.heap.size + 1) [.int .i64 ((xa : Int) + (qa : Int)), .int .i64 ((xb : Int) + (qb : Int))] 81) := (D2.out.set 1 (.int .i64 ((xb : Int) + (qb : Int)))).drewN 1
      have C4 : Hid (Cl (w3.setCell ⟨w.heap.size + 1, 1, none⟩ (.int .i64 ((xb : Int) + (qb : Int)))).drew w.heap.size [.int .i64 0, .int .i64 0] 81) := (C2.out.other ⟨w.heap.size + 1, 1, none⟩ (.int .i64 ((xb : Int) + (qb : Int))) (by simp)).drewN 1
      have B4 : Hid (Below w.heap.size w (w3.setCell ⟨w.heap.size + 1, 1, none⟩ (.int .i64 ((xb : Int) + (qb : Int)))).drew) := (B2.out.setCell (p := ⟨w.heap.size + 1, 1, none⟩) (Nat.le_succ _) _).drew
      go_wp2
      go_region
      go_wp2
      go_roundw
      case rel => exact ⟨k + 1, by go_num, by omega, C4.out, by rw [HS.out.1, HS.out.2]; exact D4.out, B4.out⟩
      case measure => simp [intOf]; omega
    · obtain rfl : k = m := by omega
      have c0 : wr.cell? ⟨w.heap.size, 0, none⟩ = some (.int .i64 0) := CR.out.cell 0
      have c1 : wr.cell? ⟨w.heap.size, 1, none⟩ = some (.int .i64 0) := CR.out.cell 1
      have cf0 := CR.out.free 0
      have cf1 := CR.out.free 1
      have d0 : wr.cell? ⟨w.heap.size + 1, 0, none⟩ = some (.int .i64 ((sA (ns.take k) : Nat) : Int)) := DR.out.cell 0
      have d1 : wr.cell? ⟨w.heap.size + 1, 1, none⟩ = some (.int .i64 ((sB (ns.take k) : Nat) : Int)) := DR.out.cell 1
      generalize hxa : sA (ns.take k) = xa at *
      generalize hxb : sB (ns.take k) = xb at *
      have HXA := Lib.hid hxa
      have HXB := Lib.hid hxb
      clear hxa hxb
      by_cases h1 : (k : Int) < at'
      · have h2 : (ns.length : Int) ≤ (k : Int) := by omega
        generalize ns.length = n at *
        go_wp2
        refine bodyPost_ret (results_cl rfl _ _ _ _ _ _ rfl ((CR.out.set 0 (.int .i64 xa)).set 1 (.int .i64 xb)) Try.underlying81 rfl (by kernel_rfl)) rfl ?_
        exact ⟨by rw [HXA.out, HXB.out]; rfl, (BR.out.setCell (Nat.le_refl _) _).setCell (Nat.le_refl _) _⟩
      · generalize ns.length = n at *
        go_wp2
        refine bodyPost_ret (results_cl rfl _ _ _ _ _ _ rfl ((CR.out.set 0 (.int .i64 xa)).set 1 (.int .i64 xb)) Try.underlying81 rfl (by kernel_rfl)) rfl ?_
        exact ⟨by rw [HXA.out, HXB.out]; rfl, (BR.out.setCell (Nat.le_refl _) _).setCell (Nat.le_refl _) _⟩

set_option maxRecDepth 20000 in
set_option maxHeartbeats 3200000 in
theorem rover_any (B p : Nat) (v : Value) (ns : List (Nat × Nat)) (m : Int) (w : World) (h : RRow w B p v ns) (hmm : -9223372036854775808 ≤ m ∧ m ≤ 9223372036854775807) :
    Calls Try.prog 41 #[.pointer (some ⟨p, 0, none⟩), .int .i64 m] w fun e w' => e = .returned (.int .i64 (ov ns m)) ∧ Below w.heap.size w w' := by
  have H := Lib.hid h
  have hlen := h.2.2.2.2.2
  have HZ := Lib.hid h.2.2.2.2.1
  have hfld : ∀ (a b : Nat) (w : World), (Instr.field 81 (.agg #[.int .i64 a, .int .i64 b]) 1).run Try.prog w = .ok (.int .i64 b) w := fun _ _ _ => by kernel_rfl
  have hc := h.cell
  obtain ⟨ao, cap, hv, hle, hform⟩ := h.2.2.1.form
  subst hv
  clear h
  go_enter Try.func41, Try.ntmps41
  go_wp2_with fail
  refine (rahead_any B p _ ns _ _ H.out).mono ?_
  rintro e w1 ⟨rfl, hb1⟩
  have B1 := Lib.hid hb1
  clear hb1 hc
  rw [show ns.take ((ns.length : Int)).toNat = ns from by rw [Int.toNat_natCast]; exact List.take_length]
  have hbt := sums_lt HZ.out hlen
  dsimp only [szV]
  go_wp2
  go_loopw [6] (fun i wr => ∃ k : Nat, i = .int .i64 k ∧ k ≤ ns.length ∧ Hid (ov ns m = k + ov (ns.drop k) m) ∧ Below w.heap.size w wr) (fun i _ => ns.length - (intOf i).toNat)
  case atStart => exact ⟨0, rfl, by omega, by simp [Hid], B1.out⟩
  case round =>
    obtain ⟨k, rfl, hk, hov, hbr⟩ := hrel
    have BR := Lib.hid hbr
    clear hbr
    have RZ := Lib.hid (H.out.below BR.out)
    have hc := RZ.out.cell
    by_cases hlt : k < ns.length
    · have hsp := (sums_split ns k).2
      have HK := Lib.hid hsp
      have hlt' : (k : Int) < (ns.length : Int) := by omega
      have HCON := Lib.hid (rahead_any B p _ ns k wr RZ.out)
      rw [Int.toNat_natCast] at HCON
      rw [hsp] at hbt
      by_cases hm : m < ((sB (ns.drop k) : Nat) : Int)
      · by_cases hl1 : k + 1 < ns.length
        · have HS := Lib.hid (ov_step hl1 hm)
          rw [HK.out]
          clear hsp
          generalize sA (ns.take k) = ya at *
          generalize sB (ns.take k) = yb at *
          generalize sB (ns.drop k) = zb at *
          have h3 : m < ((yb + zb : Nat) : Int) - (yb : Int) := by omega
          have h4 : ((k : Int) == (ns.length : Int) - 1) = false := by
            rw [beq_eq_false_iff_ne]; omega
          go_wp2_with fail
          refine HCON.out.mono ?_
          rintro e w3 ⟨rfl, hb3⟩
          have B3 := Lib.hid (bt BR.out hb3)
          clear hb3 HCON hc
          have hc3 := (H.out.below B3.out).cell
          dsimp only [szV]
          go_wp2
          go_roundw
          case rel =>
            (repeat apply Exists.intro)
            exact ⟨⟨k + 1, by go_num, by omega, by rw [Hid, hov.out, HS.out]; omega, B3.out⟩, rfl⟩
          case measure => simp [intOf]; omega
        · have HS := Lib.hid (ov_last (m := m) (show ns.length ≤ k + 1 by omega))
          rw [HK.out]
          clear hsp
          generalize sA (ns.take k) = ya at *
          generalize sB (ns.take k) = yb at *
          generalize sB (ns.drop k) = zb at *
          have h3 : m < ((yb + zb : Nat) : Int) - (yb : Int) := by omega
          have h4 : ((k : Int) == (ns.length : Int) - 1) = true := by
            rw [beq_iff_eq]; omega
          go_wp2_with fail
          refine HCON.out.mono ?_
          rintro e w3 ⟨rfl, hb3⟩
          have B3 := Lib.hid (bt BR.out hb3)
          clear hb3 HCON hc
          have hc3 := (H.out.below B3.out).cell
          dsimp only [szV]
          go_wp2
          go_ret
          exact ⟨by rw [hov.out, HS.out]; rfl, B3.out⟩
      · have HS : Hid (ov (ns.drop k) m = 0) := by
          rw [Hid]
          by_cases hl1 : k + 1 < ns.length
          · exact ov_stop hl1 hm
          · exact ov_last (by omega)
        rw [HK.out]
        clear hsp
        generalize sA (ns.take k) = ya at *
        generalize sB (ns.take k) = yb at *
        generalize sB (ns.drop k) = zb at *
        have h3 : ((yb + zb : Nat) : Int) - (yb : Int) ≤ m := by omega
        go_wp2_with fail
        refine HCON.out.mono ?_
        rintro e w3 ⟨rfl, hb3⟩
        have B3 := Lib.hid (bt BR.out hb3)
        clear hb3 HCON hc
        have hc3 := (H.out.below B3.out).cell
        dsimp only [szV]
        go_wp2
        go_ret
        exact ⟨by rw [hov.out, HS.out]; rfl, B3.out⟩
    · obtain rfl : k = ns.length := by omega
      by_cases hn : ns = []
      · subst hn
        simp only [List.length_nil] at *
        go_wp2
        go_ret
        exact ⟨rfl, BR.out⟩
      · exfalso
        have h1 := ov_lt ns m hn
        have h2 := hov.out
        omega

end Go.Proofs.Ytccndbifnbmddaa
