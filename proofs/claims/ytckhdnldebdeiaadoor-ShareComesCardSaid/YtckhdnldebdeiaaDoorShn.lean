/-
  ShareNobody: the walk.
  Conditions: none.
-/
import Derived.Test.YtckhdnldebdeiaaDoorSha
import Derived.ChangeSame
set_option linter.unusedVariables false
set_option linter.unusedSimpArgs false
namespace Go.Proofs.YtckhdnldebdeiaaDoor
open Go.ChangeShapes Go.WideShapes Go.ChangeAt Go.RowKit

theorem wf_i64 {n : Int} (h : (Lit.int .i64 n).wf = true) : -9223372036854775808 ≤ n ∧ n ≤ 9223372036854775807 := by
  have e1 : IntKind.i64.min = -9223372036854775808 := by decide
  have e2 : IntKind.i64.max = 9223372036854775807 := by decide
  simp [Lit.wf, e1, e2] at h
  exact h
set_option maxRecDepth 100000 in
theorem open_ask {W : World} {r : Reach} {base b0 : Nat} {H : Type} {enc : TypeId × Value → H} {spare : Nat → Bool} {held : Bool} {v : Value} {d : DataW H} {p : List MemPlace} (hv : Value.okWide Tryd.prog W r base 31 v)
    (h : DataW.Trod enc Tryd.prog W b0 spare held 31 v d p) : ∃ (n : Int) (s : List UInt8), v = .agg #[.int .i64 n, .string ⟨s.toArray⟩] ∧ (-9223372036854775808 ≤ n ∧ n ≤ 9223372036854775807) ∧ s.length ≤ maxLen := by
  obtain ⟨cs, rfl, hsz⟩ := okWide_struct Tryd.underlying31 hv
  obtain ⟨fuel, hf⟩ := h
  obtain ⟨y1, y2, m, _, _, hy1, hy2⟩ := trod_struct2 Tryd.underlying31 (by simpa [Value.cells] using hf)
  obtain ⟨q1, e1, _, w1⟩ := DataW.trod_int Tryd.underlying3 hy1
  obtain ⟨q2, e2, _, w2⟩ := DataW.trod_string Tryd.underlying9 hy2
  have hl : cs.toList.length = 2 := by rw [Array.length_toList, hsz]; kernel_rfl
  obtain ⟨l, rfl⟩ : ∃ l, cs = ⟨l⟩ := ⟨_, rfl⟩
  match l, hl with
  | [c1, c2], _ =>
    simp [show Tryd.prog.cellsOf 3 = 1 by kernel_rfl, show Tryd.prog.cellsOf 9 = 1 by kernel_rfl] at e1 e2
    subst e1 e2
    exact ⟨q1, q2.data.toList, rfl, wf_i64 w1, w2⟩

theorem ass_mem {parts : Int} {ms : List Sh.Nm} {a : Sh.Nm} (h : a ∉ ms) : Sh.partsOf a 1 (Sh.ass parts ms) = [] := by
  unfold Sh.ass
  split
  · exact Sh.partsOf_absent _ _ h 0 1
  · rfl
theorem ass_nil (parts : Int) : Sh.ass parts [] = [] := by
  rw [Sh.ass, Sh.fits]
  simp
theorem owner_some {parts : Int} {ms : List Sh.Nm} {part_ : Int} (h : (ownerAt (Sh.ass parts ms) part_).2 = true) : 1 ≤ part_ ∧ part_ < parts ∧ Sh.good ms = true := by
  unfold ownerAt at h
  split at h
  · rename_i hp
    unfold Sh.ass at hp
    split at hp
    · rename_i hf
      have hf2 := hf
      simp only [Sh.fits, Bool.and_eq_true, decide_eq_true_eq, Bool.not_eq_true'] at hf
      obtain ⟨⟨⟨hg, h0⟩, hp0⟩, hp1⟩ := hf
      have hne : ms ≠ [] := by rintro rfl; simp at h0
      have h4 : ms.length ≤ 4 := by
        simp only [Sh.good, Bool.and_eq_true, decide_eq_true_eq] at hg
        exact hg.2
      rw [Sh.own_all (by omega) hne h4] at hp
      exact ⟨hp.1, by omega, hg⟩
    · simp at hp
      omega
  · cases h
theorem owner_none {ls : List Sh.Nm} {part_ : Int} (h : (ownerAt ls part_).2 = false) : (ownerAt ls part_).1 = [] := by
  unfold ownerAt at h ⊢
  split
  · rename_i hp
    rw [if_pos hp] at h
    cases h
  · rfl
theorem any_take (ms : List Sh.Nm) (a : Sh.Nm) (k : Nat) (h : k < ms.length) : (ms.take (k + 1)).any (fun x => x == a) = ((ms.take k).any (fun x => x == a) || (ms.getD k [] == a)) := by
  rw [List.take_succ_eq_append_getElem h, List.any_append]
  simp [List.getD, h]
set_option maxHeartbeats 3200000 in
theorem nobody_walk (parts : Int) (hp0 : -9223372036854775808 ≤ parts) (hp1 : parts ≤ 9223372036854775807) (v : Value) (ms : List Sh.Nm) (pa : Int) (hpa : -9223372036854775808 ≤ pa ∧ pa ≤ 9223372036854775807) (mem : Sh.Nm) (w : World) (h : Txts w v ms) (hm : ms.length ≤ maxLen) (hl : ∀ l ∈ ms, l.length ≤ maxLen) :
    Calls Tryd.prog 4 #[.int .i64 parts, v, .agg #[.int .i64 pa, .string ⟨mem.toArray⟩]] w fun e w' => e = .returned (.bool true) ∧ Below w.heap.size w w' := by
  have HB0 : Hid (Below w.heap.size w (w.alloc (.cells #[.int .i64 pa, .string ⟨mem.toArray⟩] 31))) := (Below.refl _ _).alloc (Nat.le_refl _) _
  have HZ : Hid (Txts (w.alloc (.cells #[.int .i64 pa, .string ⟨mem.toArray⟩] 31)) v ms) := h.kept ((Below.refl _ _).alloc (Nat.le_refl _) _)
  have hc : ∀ W, Below (w.alloc (.cells #[.int .i64 pa, .string ⟨mem.toArray⟩] 31)).heap.size (w.alloc (.cells #[.int .i64 pa, .string ⟨mem.toArray⟩] 31)) W → W.cell? ⟨w.heap.size, 0, none⟩ = some (.int .i64 pa) ∧ W.cell? ⟨w.heap.size, 1, none⟩ = some (.string ⟨mem.toArray⟩) := fun W hb => by
    have e1 := (hb.block w.heap.size (by simp)).trans (heap_alloc_new w _)
    simp [World.cell?, e1]
  have HC := Lib.hid hc
  have hsz : (w.alloc (.cells #[.int .i64 pa, .string ⟨mem.toArray⟩] 31)).heap.size = w.heap.size + 1 := World.size_alloc _ _
  obtain ⟨a, cap, rfl, _⟩ := h
  have hm' := hm
  unfold maxLen at hm'
  clear hc
  have HL := Lib.hid hl
  have HP := Lib.hid hp0
  go_enter Tryd.func4, Tryd.ntmps4
  go_wp2_with fail
  generalize w.alloc (.cells #[.int .i64 pa, .string ⟨mem.toArray⟩] 31) = w0 at *
  refine (awake_any w0).mono ?_
  rintro e w1 ⟨rfl, hb1⟩
  have B1 := Lib.hid hb1
  clear hb1
  go_wp2_with fail
  refine (great_any _ ms w1 (HZ.out.kept B1.out) hm hl).mono ?_
  rintro e w1' ⟨rfl, rfl⟩
  cases hgr : greatB ms with
  | true =>
    go_wp2
    go_ret
    exact ⟨rfl, HB0.out.trans (B1.out.mono HB0.out.size)⟩
  | false =>
    clear hgr
    go_wp2
    go_loopw [7, 8] (fun b i wr => ∃ k : Nat, i = .int .i64 k ∧ k ≤ ms.length ∧ b = .bool ((ms.take k).any (fun x => x == mem)) ∧ Below w0.heap.size w0 wr) (fun b i _ => ms.length - (intOf i).toNat)
    case atStart => exact ⟨0, rfl, by omega, rfl, B1.out⟩
    case round =>
      obtain ⟨k, rfl, hk, rfl, hb⟩ := hrel
      have HB := Lib.hid hb
      clear hb B1
      by_cases hlt : k < ms.length
      · obtain ⟨a', cap', he, hcells⟩ := HZ.out
        injection he with he1 he2 he3
        subst he1 he3
        obtain ⟨g, off, rfl, hgg, hd1⟩ := hcells k hlt
        have hc1 := (HB.out.cell (p := ⟨g, off + k, none⟩) hgg).trans hd1
        obtain ⟨hq0, hq1⟩ := HC.out _ HB.out
        have HA := Lib.hid (any_take ms mem k hlt)
        clear hcells he2 hgg hd1
        generalize ms.getD k [] = x at *
        cases hb : (ms.take k).any (fun x => x == mem) with
        | true =>
          rw [hb] at HA
          go_wp2_with fail
          go_quiet (fail)
          go_wp2
          go_roundw
          case rel => exact ⟨k + 1, by go_num, by omega, by rw [HA.out]; rfl, below_drewN HB.out _⟩
          case measure => simp [intOf]; omega
        | false =>
          rw [hb, Bool.false_or] at HA
          go_wp2_with fail
          go_quiet (fail)
          go_wp2
          go_roundw
          case rel => exact ⟨k + 1, by go_num, by omega, by rw [HA.out], below_drewN HB.out _⟩
          case measure => simp [intOf]; omega
      · obtain rfl : k = ms.length := by omega
        rw [List.take_length]
        cases hany : ms.any (fun x => x == mem) with
        | true =>
          obtain ⟨hq0, hq1⟩ := HC.out _ HB.out
          go_wp2_with fail
          refine (owner_any parts hp0 hp1 _ ms pa wr (HZ.out.kept HB.out) hm hl).mono ?_
          rintro e w5 ⟨rfl, hb5⟩
          have B5 : Hid (Below w0.heap.size w0 w5) := HB.out.trans (hb5.mono HB.out.size)
          clear hb5 hq0 hq1
          obtain ⟨hq0, hq1⟩ := HC.out _ B5.out
          cases hh : (ownerAt (Sh.ass parts ms) pa).2 with
          | true =>
            obtain ⟨g1, g2, g3⟩ := owner_some hh
            have HG := Lib.hid (good_any _ ms w5 (HZ.out.kept B5.out) hm hl)
            rw [g3] at HG
            generalize (ownerAt (Sh.ass parts ms) pa).1 = nm at *
            go_wp2_with fail
            refine HG.out.mono ?_
            rintro e w6 ⟨rfl, hb6⟩
            have B6 : Hid (Below w0.heap.size w0 w6) := B5.out.trans (hb6.mono B5.out.size)
            clear hb6
            go_wp2_with fail
            have hA := assign_any parts hp0 hp1 (.slice none 0 0) [] w6 ⟨none, 0, rfl, fun i hi => by simp at hi⟩ (by simp) (by simp)
            rw [ass_nil] at hA
            refine hA.mono ?_
            rintro e w7 ⟨o, rfl, ho, hb7⟩
            have B7 : Hid (Below w0.heap.size w0 w7) := B6.out.trans (hb7.mono B6.out.size)
            obtain ⟨ao, capo, rfl, hca, hcm, _⟩ := ho.read
            unfold maxLen at hcm
            clear hb7 ho hA
            go_wp2
            go_ret
            exact ⟨rfl, HB0.out.trans (B7.out.mono HB0.out.size)⟩
          | false =>
            have hn := owner_none hh
            generalize (ownerAt (Sh.ass parts ms) pa).1 = nm at *
            subst hn
            go_wp2_with fail
            have hA := assign_any parts hp0 hp1 (.slice none 0 0) [] w5 ⟨none, 0, rfl, fun i hi => by simp at hi⟩ (by simp) (by simp)
            rw [ass_nil] at hA
            refine hA.mono ?_
            rintro e w7 ⟨o, rfl, ho, hb7⟩
            have B7 : Hid (Below w0.heap.size w0 w7) := B5.out.trans (hb7.mono B5.out.size)
            obtain ⟨ao, capo, rfl, hca, hcm, _⟩ := ho.read
            unfold maxLen at hcm
            clear hb7 ho hA
            go_wp2
            go_ret
            exact ⟨rfl, HB0.out.trans (B7.out.mono HB0.out.size)⟩
        | false =>
          have hnm : mem ∉ ms := fun hmem => by
            rw [List.any_eq_false] at hany
            exact hany mem hmem (by simp)
          have HPt := Lib.hid (parts_any parts hp0 hp1 _ ms mem wr (HZ.out.kept HB.out) hm hl)
          rw [ass_mem hnm] at HPt
          obtain ⟨hq0, hq1⟩ := HC.out _ HB.out
          go_wp2_with fail
          refine HPt.out.mono ?_
          rintro e w4 ⟨op, rfl, hop, hb4⟩
          have B4 : Hid (Below w0.heap.size w0 w4) := HB.out.trans (hb4.mono HB.out.size)
          obtain ⟨ap, capp, rfl, hcap, hcpm, _⟩ := hop.read
          unfold maxLen at hcpm
          clear hb4 hop hq0 hq1
          obtain ⟨hq0, hq1⟩ := HC.out _ B4.out
          go_wp2_with fail
          refine (owner_any parts hp0 hp1 _ ms pa w4 (HZ.out.kept B4.out) hm hl).mono ?_
          rintro e w5 ⟨rfl, hb5⟩
          have B5 : Hid (Below w0.heap.size w0 w5) := B4.out.trans (hb5.mono B4.out.size)
          clear hb5 hq0 hq1
          obtain ⟨hq0, hq1⟩ := HC.out _ B5.out
          cases hh : (ownerAt (Sh.ass parts ms) pa).2 with
          | true =>
            obtain ⟨g1, g2, g3⟩ := owner_some hh
            have HG := Lib.hid (good_any _ ms w5 (HZ.out.kept B5.out) hm hl)
            rw [g3] at HG
            generalize (ownerAt (Sh.ass parts ms) pa).1 = nm at *
            go_wp2_with fail
            refine HG.out.mono ?_
            rintro e w6 ⟨rfl, hb6⟩
            have B6 : Hid (Below w0.heap.size w0 w6) := B5.out.trans (hb6.mono B5.out.size)
            clear hb6
            go_wp2_with fail
            have hA := assign_any parts hp0 hp1 (.slice none 0 0) [] w6 ⟨none, 0, rfl, fun i hi => by simp at hi⟩ (by simp) (by simp)
            rw [ass_nil] at hA
            refine hA.mono ?_
            rintro e w7 ⟨o, rfl, ho, hb7⟩
            have B7 : Hid (Below w0.heap.size w0 w7) := B6.out.trans (hb7.mono B6.out.size)
            obtain ⟨ao, capo, rfl, hca, hcm, _⟩ := ho.read
            unfold maxLen at hcm
            clear hb7 ho hA
            go_wp2
            go_ret
            exact ⟨rfl, HB0.out.trans (B7.out.mono HB0.out.size)⟩
          | false =>
            have hn := owner_none hh
            generalize (ownerAt (Sh.ass parts ms) pa).1 = nm at *
            subst hn
            go_wp2_with fail
            have hA := assign_any parts hp0 hp1 (.slice none 0 0) [] w5 ⟨none, 0, rfl, fun i hi => by simp at hi⟩ (by simp) (by simp)
            rw [ass_nil] at hA
            refine hA.mono ?_
            rintro e w7 ⟨o, rfl, ho, hb7⟩
            have B7 : Hid (Below w0.heap.size w0 w7) := B5.out.trans (hb7.mono B5.out.size)
            obtain ⟨ao, capo, rfl, hca, hcm, _⟩ := ho.read
            unfold maxLen at hcm
            clear hb7 ho hA
            go_wp2
            go_ret
            exact ⟨rfl, HB0.out.trans (B7.out.mono HB0.out.size)⟩

end Go.Proofs.YtckhdnldebdeiaaDoor
