/-
  ShareFair: the walk.
  Conditions: none.
-/
import Derived.Test.YtckhdnldebdeiaaDoorSha
set_option linter.unusedVariables false
set_option linter.unusedSimpArgs false
namespace Go.Proofs.YtckhdnldebdeiaaDoor
open Go.RowKit

theorem sumTo_mono (n m : Nat) {i j : Nat} (h : i ≤ j) : Sh.sumTo n m i ≤ Sh.sumTo n m j := by
  induction j with
  | zero => rw [show i = 0 by omega]; exact Nat.le_refl _
  | succ j ih =>
    by_cases e : i = j + 1
    · rw [e]; exact Nat.le_refl _
    · have := ih (by omega)
      rw [Sh.sumTo]
      omega
theorem ass_fits {parts : Int} {ms : List Sh.Nm} (hg : Sh.good ms = true) (h0 : 0 < ms.length) (hp0 : 0 ≤ parts) (hp1 : parts ≤ 4) : Sh.ass parts ms = Sh.ownFrom (parts - 1).toNat ms.length 0 ms := by
  have hne : ms.isEmpty = false := by cases ms with | nil => simp at h0 | cons _ _ => rfl
  rw [Sh.ass, if_pos]
  rw [Sh.fits, hg, hne, decide_eq_true hp0, decide_eq_true hp1]
  rfl
/-- What the members' partitions are, told for the walk. -/
structure Fair (parts : Int) (ms : List Sh.Nm) (n m : Nat) : Prop where
  at_ : ∀ k, k < m → Sh.partsOf (ms.getD k []) 1 (Sh.ass parts ms) = List.range' (1 + Sh.sumTo n m k) (Sh.cnt n m k)
  own : ∀ k j, k < m → j < Sh.cnt n m k → ownerAt (Sh.ass parts ms) ((1 + Sh.sumTo n m k + j : Nat) : Int) = (ms.getD k [], true)
  sum : Sh.sumTo n m m = n
  less : ∀ k, k + 1 < m → Sh.cnt n m (k + 1) ≤ Sh.cnt n m k
  ends : Sh.cnt n m 0 ≤ Sh.cnt n m (m - 1) + 1
  small : ∀ k, k ≤ m → Sh.cnt n m k ≤ 4 ∧ Sh.sumTo n m k ≤ 16
theorem fair_of {parts : Int} {ms : List Sh.Nm} (hg : Sh.good ms = true) (h0 : 0 < ms.length) (hp0 : 0 ≤ parts) (hp1 : parts ≤ 4) : Fair parts ms (parts - 1).toNat ms.length := by
  have h4 : ms.length ≤ 4 := by
    simp only [Sh.good, Bool.and_eq_true, decide_eq_true_eq] at hg
    exact hg.2
  have he := ass_fits hg h0 hp0 hp1
  have hnd := Sh.good_nodup hg
  have hn : (parts - 1).toNat < 4 := by omega
  generalize (parts - 1).toNat = n at *
  have t1 := Sh.tab1 ⟨n, by omega⟩ ⟨ms.length, by omega⟩ h0 hn
  refine ⟨fun k hk => ?_, fun k j hk hj => ?_, t1.1, fun k hk => ?_, t1.2, fun k hk => ?_⟩
  · rw [he]
    exact Sh.partsOf_at hnd hk
  · rw [he, ownerAt, if_pos]
    · rw [show ((1 + Sh.sumTo n ms.length k + j : Nat) : Int).toNat - 1 = Sh.sumTo n ms.length k + j by omega, Sh.own_get hk hj]
    · rw [Sh.own_all hn (List.length_pos_iff.1 h0) h4]
      have h1 : Sh.sumTo n ms.length (k + 1) = Sh.sumTo n ms.length k + Sh.cnt n ms.length k := rfl
      have h2 := sumTo_mono n ms.length (i := k + 1) (j := ms.length) hk
      have h3 : Sh.sumTo n ms.length ms.length = n := t1.1
      omega
  · exact Sh.tab2 ⟨n, by omega⟩ ⟨ms.length, by omega⟩ ⟨k, by omega⟩ h0
  · exact Sh.tab4 ⟨n, by omega⟩ ⟨ms.length, by omega⟩ ⟨k, by omega⟩ h0
theorem range_len (a c : Nat) : (List.range' a c).length = c := List.length_range'
theorem range_at (a c j : Nat) (h : j < c) : (List.range' a c).getD j 0 = a + j := by simp [List.getD, h]

set_option maxRecDepth 20000 in
set_option maxHeartbeats 6400000 in
theorem fair_walk (parts : Int) (hp0 : -9223372036854775808 ≤ parts) (hp1 : parts ≤ 9223372036854775807) (v : Value) (ms : List Sh.Nm) (w : World) (h : Txts w v ms) (hm : ms.length ≤ maxLen) (hl : ∀ l ∈ ms, l.length ≤ maxLen) :
    Calls Tryd.prog 3 #[.int .i64 parts, v] w fun e w' => e = .returned (.bool true) ∧ Below w.heap.size w w' := by
  have HZ := Lib.hid h
  obtain ⟨a, cap, rfl, _⟩ := h
  have hm' := hm
  unfold maxLen at hm'
  have HL := Lib.hid hl
  go_enter Tryd.func3, Tryd.ntmps3
  go_wp2_with fail
  refine (awake_any w).mono ?_
  rintro e w1 ⟨rfl, hb1⟩
  have B1 := Lib.hid hb1
  clear hb1
  go_wp2_with fail
  refine (great_any _ ms w1 (HZ.out.kept B1.out) hm hl).mono ?_
  rintro e w1' ⟨rfl, rfl⟩
  cases hgr : greatB ms with
  | true =>
    go_wp2
    go_ret
    exact ⟨rfl, B1.out⟩
  | false =>
    clear hgr
    go_wp2_with fail
    refine (good_any _ ms w1' (HZ.out.kept B1.out) hm hl).mono ?_
    rintro e w2 ⟨rfl, hb2⟩
    have B2 := Lib.hid (bt B1.out hb2)
    clear hb2 B1
    cases hgd : Sh.good ms with
    | false =>
      go_wp2
      go_ret
      exact ⟨rfl, B2.out⟩
    | true =>
      by_cases hc : 0 < ms.length ∧ 0 ≤ parts ∧ parts ≤ 4
      · obtain ⟨c1, c2, c3⟩ := hc
        have HF := Lib.hid (fair_of hgd c1 c2 c3)
        have hbz : ((ms.length : Int) == 0) = false := beq_eq_false_iff_ne.2 (by omega)
        have hn3 : ((parts - 1).toNat : Int) = max (parts - 1) 0 := by omega
        clear hgd
        generalize hnn : (parts - 1).toNat = n at *
        go_wp2
        go_loopw [5, 6, 7, 8] (fun s la le i wr => ∃ k : Nat, i = .int .i64 k ∧ k ≤ ms.length ∧ s = .int .i64 (Sh.sumTo n ms.length k) ∧ la = .int .i64 (Sh.sumTo n ms.length k) ∧ le = .int .i64 (if k = 0 then parts else (Sh.cnt n ms.length (k - 1) : Nat)) ∧ Below w.heap.size w wr) (fun s la le i _ => ms.length - (intOf i).toNat)
        case atStart => exact ⟨0, rfl, by omega, rfl, rfl, by simp, B2.out⟩
        case round =>
          obtain ⟨k, rfl, hk, rfl, rfl, rfl, hb⟩ := hrel
          have HB := Lib.hid hb
          clear hb B2
          obtain ⟨hs4, hs16⟩ := HF.out.small k hk
          by_cases hlt : k < ms.length
          · obtain ⟨a', cap', he, hcells⟩ := HZ.out
            injection he with he1 he2 he3
            subst he1 he3
            obtain ⟨g, off, rfl, hgg, hd1⟩ := hcells k hlt
            have hgw := Lib.hid hgg
            have HD := Lib.hid hd1
            have hc1 := (HB.out.cell (p := ⟨g, off + k, none⟩) hgg).trans hd1
            have HPt := Lib.hid (parts_any parts hp0 hp1 _ ms (ms.getD k []) wr (HZ.out.kept HB.out) hm hl)
            rw [HF.out.at_ k hlt] at HPt
            have HOW : Hid (∀ j, j < Sh.cnt n ms.length k → ownerAt (Sh.ass parts ms) ((1 + Sh.sumTo n ms.length k + j : Nat) : Int) = (ms.getD k [], true)) := fun j hj => HF.out.own k j hlt hj
            have HSUM : Hid (Sh.sumTo n ms.length (k + 1) = Sh.sumTo n ms.length k + Sh.cnt n ms.length k) := rfl
            have HLE : Hid ((if k + 1 = 0 then parts else ((Sh.cnt n ms.length (k + 1 - 1) : Nat) : Int)) = ((Sh.cnt n ms.length k : Nat) : Int)) := by rw [Hid, if_neg (by omega)]; rfl
            obtain ⟨lv, hlv1, hlv2⟩ : ∃ lv : Int, (if k = 0 then parts else ((Sh.cnt n ms.length (k - 1) : Nat) : Int)) = lv ∧ (0 < k → ((Sh.cnt n ms.length k : Nat) : Int) ≤ lv) := ⟨_, rfl, fun h => by
              have h1 := HF.out.less (k - 1) (by omega)
              rw [show k - 1 + 1 = k by omega] at h1
              rw [if_neg (by omega)]
              exact Int.ofNat_le.2 h1⟩
            rw [hlv1]
            clear hlv1 hcells he2 hgg hd1
            generalize ms.getD k [] = x at *
            generalize Sh.sumTo n ms.length k = S at *
            generalize Sh.cnt n ms.length k = C at *
            go_wp2_with fail
            refine HPt.out.mono ?_
            rintro e w4 ⟨op, rfl, hop, hb4⟩
            have HOP := Lib.hid hop
            obtain ⟨ap, capp, hopv, hcap, hcpm, _⟩ := hop.read
            rw [range_len] at hopv hcap
            subst hopv
            unfold maxLen at hcpm
            have HB4 := Lib.hid (bt HB.out hb4)
            clear hb4 hop hc1
            go_wp2
            go_loopw [6, 10] (fun la i W => ∃ j : Nat, i = .int .i64 j ∧ j ≤ C ∧ la = .int .i64 ((S + j : Nat) : Int) ∧ Below w4.heap.size w4 W) (fun la i _ => C - (intOf i).toNat)
            case atStart => exact ⟨0, rfl, by omega, rfl, Below.refl _ _⟩
            case round =>
              obtain ⟨j, rfl, hj, rfl, hb⟩ := hrel
              have HB5 := Lib.hid hb
              clear hb
              have BW : Hid (Below w.heap.size w wr) := HB4.out.trans (HB5.out.mono HB4.out.size)
              by_cases hjc : j < C
              · obtain ⟨a2, cap2, he, _, _, hcells⟩ := HOP.out.read
                rw [range_len] at he
                injection he with he1 he2 he3
                subst he1 he3
                obtain ⟨gp, rfl, hgp, _, hd2⟩ := hcells j (by rw [range_len]; exact hjc)
                rw [range_at _ _ _ hjc] at hd2
                have HD2 := Lib.hid hd2
                have hgp' := Lib.hid hgp
                have hc2 := (HB5.out.cell (p := ⟨gp, j, none⟩) hgp).trans hd2
                have HO := Lib.hid (owner_any parts hp0 hp1 _ ms ((1 + S + j : Nat) : Int) wr (HZ.out.kept BW.out) hm hl)
                rw [HOW.out j hjc] at HO
                clear hcells hgp hd2 he2
                go_wp2_with fail
                refine HO.out.mono ?_
                rintro e w5 ⟨rfl, hb5⟩
                have HB6 : Hid (Below w4.heap.size w4 w5) := HB5.out.trans (hb5.mono HB5.out.size)
                have hc3 := (HB6.out.cell (p := ⟨gp, j, none⟩) hgp'.out).trans HD2.out
                have BW5 : Hid (Below w.heap.size w w5) := HB4.out.trans (HB6.out.mono HB4.out.size)
                have hc4 := (BW5.out.cell (p := ⟨g, off + k, none⟩) hgw.out).trans HD.out
                clear hb5 hc2
                go_wp2
                go_roundw
                case rel => exact ⟨j + 1, by go_num, by omega, by first | rfl | exact congrArg (Value.int .i64) (by omega), HB6.out⟩
                case measure => simp [intOf]; omega
              · obtain rfl : j = C := by omega
                by_cases hk0 : k = 0
                · subst hk0
                  go_wp2
                  go_roundw
                  case rel => exact ⟨0 + 1, by go_num, by omega, congrArg (Value.int .i64) (by have h := HSUM.out; omega), congrArg (Value.int .i64) (by have h := HSUM.out; omega), congrArg (Value.int .i64) HLE.out.symm, BW.out⟩
                  case measure => simp [intOf]; omega
                · have hlv3 := hlv2 (by omega)
                  go_wp2
                  go_roundw
                  case rel => exact ⟨k + 1, by go_num, by omega, congrArg (Value.int .i64) (by have h := HSUM.out; omega), congrArg (Value.int .i64) (by have h := HSUM.out; omega), congrArg (Value.int .i64) HLE.out.symm, BW.out⟩
                  case measure => simp [intOf]; omega
          · obtain rfl : k = ms.length := by omega
            obtain ⟨a', cap', he, hcells⟩ := HZ.out
            injection he with he1 he2 he3
            subst he1 he3
            obtain ⟨g, off, rfl, hgg, hd1⟩ := hcells 0 c1
            have hc1 := (HB.out.cell (p := ⟨g, off + 0, none⟩) hgg).trans hd1
            rw [Nat.add_zero] at hc1
            have HPt := Lib.hid (parts_any parts hp0 hp1 _ ms (ms.getD 0 []) wr (HZ.out.kept HB.out) hm hl)
            rw [HF.out.at_ 0 c1] at HPt
            have hends := HF.out.ends
            have hc04 := (HF.out.small 0 (by omega)).1
            have hD4 := (HF.out.small (ms.length - 1) (by omega)).1
            rw [HF.out.sum, if_neg (by omega)]
            have hnb : ((n : Int) == max (parts - 1) 0) = true := by rw [hn3]; exact beq_self_eq_true _
            clear hcells he2 hgg hd1 hn3
            generalize ms.getD 0 [] = x at *
            generalize Sh.cnt n ms.length 0 = C at *
            generalize Sh.cnt n ms.length (ms.length - 1) = D at *
            generalize Sh.sumTo n ms.length 0 = S0 at *
            go_wp2_with fail
            refine HPt.out.mono ?_
            rintro e w4 ⟨op, rfl, hop, hb4⟩
            obtain ⟨ap, capp, hopv, hcap, hcpm, _⟩ := hop.read
            rw [range_len] at hopv hcap
            subst hopv
            unfold maxLen at hcpm
            have HB4 := Lib.hid (bt HB.out hb4)
            clear hb4 hop
            have hdd : decide ((C : Int) ≤ (D : Int) + 1) = true := decide_eq_true (by omega)
            go_wp2
            go_ret
            exact ⟨by first | rfl | (rw [← hdd]; rfl), HB4.out⟩
      · go_wp2
        all_goals first
          | (go_ret; exact ⟨rfl, B2.out⟩)
          | (exfalso; simp only [beq_eq_false_iff_ne, beq_iff_eq, ne_eq] at *; omega)

end Go.Proofs.YtckhdnldebdeiaaDoor
