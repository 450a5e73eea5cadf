/-
  The walk of FrameFinds: it returns true and leaves old memory as it was.
  Conditions: none but the model's longest length.
-/
import Derived.Test.YtlieanigefjocaaLawsb
import Derived.Test.YtlieanigefjocaaFrmb
import Derived.Test.YtlieanigefjocaaApp
set_option linter.unusedVariables false
set_option linter.unusedSimpArgs false
namespace Go.Proofs.Ytlieanigefjocaa
open Go.RowKit

theorem infoInt : (Try.prog.info? 3).map (fun i => (i.zero, i.size, i.bytes)) = some (some (.int .i64 0), 1, 8) := by kernel_rfl
/-- The places where texts end, as ints. -/
def endInts (ts : List (List UInt8)) (n : Nat) : List Value := (List.range n).map fun j => Value.int .i64 (Frm.ends ts j)
theorem endInts_succ (ts : List (List UInt8)) (n : Nat) : endInts ts (n + 1) = endInts ts n ++ [.int .i64 (Frm.ends ts n)] := by simp [endInts, List.range_succ]
/-- A slice that holds these places. -/
theorem ends_cells {w : World} {B : Nat} {v : Value} {n : Nat} {ts : List (List UInt8)} (h : w.ownsRow B 3 1 v n (endInts ts n)) (hn : 0 < n) :
    ∃ g cap, v = .slice (some ⟨g, 0, none⟩) n cap ∧ g < w.heap.size ∧ ∀ j, j < n → w.cell? ⟨g, j, none⟩ = some (.int .i64 (Frm.ends ts j)) := by
  have hh := h
  rcases h.2 with ⟨rfl, rfl⟩ | ⟨g, cap, cur, rfl, hB, hg, hnc, hm, hs, ht⟩
  · omega
  · refine ⟨g, cap, rfl, (Array.getElem?_eq_some_iff.1 hg).1, fun j hj => ?_⟩
    have hc := hh.cells (g := g) rfl j (.int .i64 (Frm.ends ts j)) (by simp [endInts, hj])
    have hadd : (⟨g, 0, none⟩ : Addr).add j = ⟨g, j, none⟩ := by unfold Addr.add; split <;> simp_all
    rwa [hadd] at hc
theorem Txts.upto {w : World} {aa : Option Addr} {n ca : Nat} {ls : List (List UInt8)} (h : Txts w (.slice aa n ca) ls) (k : Nat) (hk : k ≤ ls.length) : Txts w (.slice aa (ls.take k).length ca) (ls.take k) := by
  obtain ⟨a, cap, he, hc⟩ := h
  injection he with h1 h2 h3
  subst h1 h3
  refine ⟨aa, ca, rfl, fun i hi => ?_⟩
  have hik : i < k := by rw [List.length_take] at hi; omega
  obtain ⟨b, off, e1, e2, e3⟩ := hc i (by omega)
  exact ⟨b, off, e1, e2, by simpa [List.getD, hik] using e3⟩
/-- What holds at the head of the first loop. -/
def FindsAt (ts : List (List UInt8)) (w0 : World) (s e : Value) (n : Nat) (w : World) : Prop :=
  n ≤ ts.length ∧ s = .string ⟨(Frm.puts (ts.take n)).toArray⟩ ∧ (∀ j, j < n → (ts.getD j []).length ≤ 4096) ∧ w.ownsRow w0.heap.size 3 1 e (n + 1) (endInts ts (n + 1)) ∧ Below w0.heap.size w0 w

set_option maxHeartbeats 1000000 in
theorem finds_walk (aa : Option Addr) (ca : Nat) (ts : List (List UInt8)) (cut : Int) (w : World) (hts : Txts w (.slice aa ts.length ca) ts) (hca : ts.length ≤ ca) (hm : ts.length ≤ maxLen) (haa : aa = none ∨ ∃ b off, aa = some ⟨b, off, none⟩) :
    Calls Try.prog 5 #[.slice aa ts.length ca, .int .i64 cut] w fun e w' => e = .returned (.bool true) ∧ Below w.heap.size w w' := by
  have HT := Lib.hid hts
  have HAA := Lib.hid haa
  clear hts haa
  by_cases hl : ts.length ≤ 40
  · go_enter Try.func5, Try.ntmps5
    go_wp2_with fail
    refine (awake_any _).mono ?_
    rintro e w1 ⟨rfl, hb1⟩
    have HB1 := Lib.hid hb1
    have HT1 := Lib.hid (HT.out.kept hb1)
    clear hb1 HT
    have hmade : Hid ((w1.alloc (.cells #[.int .i64 0] 3)).ownsRow w1.heap.size 3 1 (.slice (some ⟨w1.heap.size, 0, none⟩) 1 1) 1 (endInts ts 1)) :=
      ⟨rfl, .inr ⟨w1.heap.size, 1, _, rfl, Nat.le_refl _, heap_alloc_new w1 _, by omega, by unfold maxLen; omega, rfl, by simp [endInts, Frm.ends_zero]⟩⟩
    go_wp2
    go_loopw [5, 6, 7] (fun s e i wr => ∃ n : Nat, i = .int .i64 n ∧ FindsAt ts w1 s e n wr) (fun _ _ i _ => ts.length - (intOf i).toNat)
    case atStart => exact ⟨0, rfl, by omega, by simp [Frm.puts], fun j hj => by omega, hmade.out, (Below.refl _ _).alloc (Nat.le_refl _) _⟩
    case round =>
      obtain ⟨n, rfl, hn, rfl, hall, hown, hbel⟩ := hrel
      have HA := Lib.hid hall
      have HO := Lib.hid hown
      have HB := Lib.hid hbel
      have HT2 := Lib.hid (HT1.out.kept hbel)
      have HE := Lib.hid (Frm.ends_le (ts.take n) (fun j hj => by
        have h1 : j < n := by rw [List.length_take] at hj; omega
        have := hall j h1
        simpa [List.getD, h1] using this) (ts.take n).length (Nat.le_refl _))
      clear hall hown hbel
      by_cases hlt : n < ts.length
      · obtain ⟨a', cap', he, hcells⟩ := HT2.out
        injection he with he1 he2 he3
        subst he1 he3
        obtain ⟨b, off, rfl, hblt, hcell⟩ := hcells n hlt
        clear hcells
        by_cases hlen : (ts.getD n []).length ≤ 4096
        · have hps : (Frm.puts (ts.take n)).length ≤ 164160 := by
            have := HE.out
            rw [Frm.ends_all, List.length_take] at this
            omega
          have hS := Lib.hid (Frm.puts_succ ts n hlt)
          have hE1 : Hid (Frm.ends ts (n + 1) = (Frm.puts (ts.take n)).length + 8 + (ts.getD n []).length) := Frm.ends_succ ts n hlt
          have hA' : Hid (∀ j, j < n + 1 → (ts.getD j []).length ≤ 4096) := fun j hj => by
            rcases Nat.lt_succ_iff_lt_or_eq.1 hj with h | h
            · exact HA.out j h
            · rw [h]; exact hlen
          clear HE HA
          generalize ts.getD n [] = x at hcell hlen hS hE1
          generalize Frm.puts (ts.take n) = S at hps hS hE1
          have hxl := Lib.hid (Frm.put_length x)
          have hpx : (Frm.put x).length ≤ 4104 := by rw [hxl.out]; omega
          have hne : (((Frm.put x).length : Int) != 8 + (x.length : Int)) = false := by rw [hxl.out]; simp
          go_wp2_with fail
          refine (put_any _ _ (by omega)).mono ?_
          rintro e w2 ⟨rfl, hb2⟩
          have hcell2 : w2.cell? ⟨b, off + n, none⟩ = some (.string ⟨x.toArray⟩) := (hb2.cell (p := ⟨b, off + n, none⟩) hblt).trans hcell
          have HB2 := Lib.hid (HB.out.trans (hb2.mono HB.out.size))
          have HO2 := Lib.hid (ownsRow_below HO.out hb2)
          clear hb2 HO hcell
          obtain ⟨i0, hi, hz0, hz1, hz2⟩ := info_parts infoInt
          go_wp2_with (at_builtin; refine wpList_append_own _ rfl (.tmp 56) (.tmp 59) 36 rfl w1.heap.size 3 i0 (.int .i64 0) 1 8 Try.underlying36 hi hz0 hz1 hz2 rfl (by decide) _ _ _ rfl (World.ownsRow.alloc HO2.out _) ⟨w2.heap.size, 0, none⟩ 1 1 [.int .i64 ((S.length : Int) + (Frm.put x).length)] rfl rfl (cell_one_new _ _ _) ?_ ?_ ?_ ?_ ?_)
          · simp [Value.oneCell']
          · unfold maxLen; omega
          · omega
          · have := HB2.out.size; simp; omega
          intro v' w3 hown3 hg3 _
          have hlt3 := HO2.out.lt
          have hN : FindsAt ts w1 (.string ⟨(S ++ Frm.put x).toArray⟩) v' (n + 1) w3 := by
            refine ⟨by omega, by rw [hS.out], hA'.out, ?_, HB2.out.trans (((Below.refl _ _).alloc HB2.out.size _).grown hg3 (by have := HB2.out.size; simp; omega) (fun kk hkk => (hlt3 kk hkk).1))⟩
            rw [endInts_succ, hE1.out]
            have e : (((S.length + 8 + x.length : Nat)) : Int) = (S.length : Int) + (Frm.put x).length := by rw [hxl.out]; omega
            rw [e]
            exact hown3
          have HN := Lib.hid hN
          clear hN hown3 hg3 hlt3 HO2
          go_wp2
          go_roundw
          case rel => exact ⟨n + 1, by go_num, HN.out⟩
          case measure => simp [intOf]; omega
        · have hlen' : 4096 < (ts.getD n []).length := by omega
          clear hlen
          have HM := Lib.hid hm
          generalize ts.getD n [] = x at hcell hlen'
          go_wp2
          go_ret
          exact ⟨rfl, bt HB1.out HB.out⟩
      · obtain rfl : n = ts.length := by omega
        obtain ⟨g, cap, rfl, hglt, hec⟩ := ends_cells HO.out (by omega)
        have HEC := Lib.hid hec
        have hA := HA.out
        have hps : (Frm.puts ts).length ≤ 164160 := by
          have := HE.out
          rw [Frm.ends_all, List.length_take, List.take_length] at this
          omega
        rw [List.take_length]
        have HA2 := Lib.hid hA
        have HEA := Lib.hid (Frm.ends_all ts)
        clear hec HE HA HO hA
        obtain ⟨c, hc, hcm⟩ := uint_rem cut (((Frm.puts ts).length : Int) + 1) (by omega) (by omega)
        generalize hpt : Frm.puts ts = S at hps hc hcm HEA
        have HPT := Lib.hid hpt
        clear hpt
        go_wp2
        go_loop [11] (fun i => ∃ k : Nat, i = .int .i64 k ∧ k ≤ ts.length ∧ Frm.ends ts k ≤ c) (fun i => ts.length - (intOf i).toNat)
        case atStart => exact ⟨0, rfl, by omega, by rw [Frm.ends_zero]; omega⟩
        case round =>
          obtain ⟨k, rfl, hk, hek⟩ := hrel
          by_cases hgo : k < ts.length ∧ Frm.ends ts (k + 1) ≤ c
          · obtain ⟨hkl, hnx⟩ := hgo
            have hcc := HEC.out (k + 1) (by omega)
            have HNX := Lib.hid hnx
            have hnx' : ((Frm.ends ts (k + 1) : Nat) : Int) ≤ (c : Int) := by omega
            generalize Frm.ends ts (k + 1) = E at hcc hnx hnx'
            clear hnx
            go_wp2
            go_round
            case rel => exact ⟨k + 1, by go_num, by omega, HNX.out⟩
            case measure => simp [intOf]; omega
          · have hcl : c ≤ S.length := by omega
            have HSC : Hid (Frm.scan (S.take c) = (ts.take k, Frm.ends ts k)) := by
              have := Frm.scan_cutoff ts HA2.out c k hk hek (by rw [HPT.out]; exact hcl) (fun h => by omega)
              rw [HPT.out] at this
              exact this
            have hcut := str_to (P := Try.prog) S c c .i64 rfl hcl 9 Try.underlying9
            obtain ⟨i9, hi9, _, _, _⟩ := info_parts infoStr
            have hsl := slice_to (P := Try.prog) 31 9 i9 Try.underlying31 hi9 aa ts.length ca k k .i64 rfl (by omega) HAA.out
            have hck := HEC.out k (by omega)
            by_cases hkl : k < ts.length
            · have hcc := HEC.out (k + 1) (by omega)
              have hnx' : (c : Int) < ((Frm.ends ts (k + 1) : Nat) : Int) := by omega
              clear hgo
              generalize Frm.ends ts (k + 1) = E at hcc hnx'
              go_wp2_with fail
              refine (scan_any _ _ (by rw [List.length_take]; omega)).mono ?_
              rintro e w4 ⟨v4, rfl, hown4, hb4⟩
              rw [HSC.out] at hown4 ⊢
              have hck4 : w4.cell? ⟨g, k, none⟩ = some (.int .i64 (Frm.ends ts k)) := (hb4.cell (p := ⟨g, k, none⟩) hglt).trans hck
              have HB4 := Lib.hid (bt HB1.out (HB.out.trans (hb4.mono HB.out.size)))
              have HT4 := Lib.hid (HT2.out.kept hb4)
              have HO4 := Lib.hid hown4.txts
              clear hb4 hown4 hck
              have hEk : Frm.ends ts k ≤ c := hek
              generalize Frm.ends ts k = Ek at hck4 hEk hek
              clear hek
              go_wp2_with fail
              have hT5 : Txts w4 (.slice aa (ts.take k).length ca) (ts.take k) := HT4.out.upto k hk
              rw [List.length_take, Nat.min_eq_left hk] at hT5
              refine (same_any _ _ _ _ _ HO4.out hT5 (by rw [List.length_take]; unfold maxLen; omega) (by rw [List.length_take]; unfold maxLen; omega)).mono ?_
              rintro e w5 ⟨rfl, n5, rfl⟩
              clear hT5
              rw [decide_eq_true rfl]
              go_wp2
              go_ret
              exact ⟨rfl, below_drewN HB4.out _⟩
            · have hkl' : (ts.length : Int) ≤ (k : Int) := by omega
              clear hgo
              go_wp2_with fail
              refine (scan_any _ _ (by rw [List.length_take]; omega)).mono ?_
              rintro e w4 ⟨v4, rfl, hown4, hb4⟩
              rw [HSC.out] at hown4 ⊢
              have hck4 : w4.cell? ⟨g, k, none⟩ = some (.int .i64 (Frm.ends ts k)) := (hb4.cell (p := ⟨g, k, none⟩) hglt).trans hck
              have HB4 := Lib.hid (bt HB1.out (HB.out.trans (hb4.mono HB.out.size)))
              have HT4 := Lib.hid (HT2.out.kept hb4)
              have HO4 := Lib.hid hown4.txts
              clear hb4 hown4 hck
              have hEk : Frm.ends ts k ≤ c := hek
              generalize Frm.ends ts k = Ek at hck4 hEk hek
              clear hek
              go_wp2_with fail
              have hT5 : Txts w4 (.slice aa (ts.take k).length ca) (ts.take k) := HT4.out.upto k hk
              rw [List.length_take, Nat.min_eq_left hk] at hT5
              refine (same_any _ _ _ _ _ HO4.out hT5 (by rw [List.length_take]; unfold maxLen; omega) (by rw [List.length_take]; unfold maxLen; omega)).mono ?_
              rintro e w5 ⟨rfl, n5, rfl⟩
              clear hT5
              rw [decide_eq_true rfl]
              go_wp2
              go_ret
              exact ⟨rfl, below_drewN HB4.out _⟩
  · go_enter Try.func5, Try.ntmps5
    unfold maxLen at hm
    go_wp2_with fail
    refine (awake_any _).mono ?_
    rintro e w1 ⟨rfl, hb1⟩
    have HB1 := Lib.hid hb1
    clear hb1
    go_wp2
    go_ret
    exact ⟨rfl, HB1.out⟩

end Go.Proofs.Ytlieanigefjocaa
