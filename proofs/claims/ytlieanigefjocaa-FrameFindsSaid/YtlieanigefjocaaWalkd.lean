/-
  The walks of the reference's Scan and of Same.
  Conditions: texts of at most 2^20 bytes (Scan).
-/
import Derived.Test.YtlieanigefjocaaWalkc
import Derived.Deep.QuietTactic
import Derived.BigQuiet
set_option linter.unusedVariables false
set_option linter.unusedSimpArgs false
namespace Go.Proofs.Ytlieanigefjocaa
open Go.RowKit

/-- What holds at the head of the reference's loop. -/
def RefAt (l : List UInt8) (w0 : World) (v b n e : Value) (k : Nat) (w : World) : Prop :=
  b = .string ⟨(Frm.next l k).1.toArray⟩ ∧ n = .int .i64 (Frm.next l k).2.1 ∧ e = .int .i64 (Frm.next l k).2.2 ∧ ScanAt l w0 v k w

set_option maxHeartbeats 400000 in
theorem refscan_any (l : List UInt8) (w : World) (hm : l.length ≤ 1048576) :
    Calls Try.prog 18 #[.string ⟨l.toArray⟩] w (ScanPost l w) := by
  have hmade : Hid ((w.alloc (.cells #[] 9)).ownsRow w.heap.size 9 1 (.slice (some ⟨w.heap.size, 0, none⟩) 0 0) 0 []) := World.ownsRow_made w #[] 0 (Nat.le_refl _) (by unfold maxLen; omega) rfl
  go_enter Try.func18, Try.ntmps18
  go_wp2_with fail
  refine (refnext_any _ _ _ (by unfold maxLen; omega)).mono ?_
  rintro e w1 ⟨rfl, hb1⟩
  have HB1 := Lib.hid hb1
  clear hb1
  go_wp2
  go_loopw [4, 5, 6, 7, 8] (fun v i b n e wr => ∃ k : Nat, i = .int .i64 k ∧ RefAt l w v b n e k wr) (fun _ i _ _ _ _ => l.length - (intOf i).toNat)
  case atStart =>
    have hb : Below w.heap.size w (w.alloc (.cells #[] 9)) := (Below.refl _ _).alloc (Nat.le_refl _) _
    have h1 := Strs.kept (ls := []) hmade.out HB1.out
    exact ⟨0, rfl, rfl, rfl, rfl, [], h1, rfl, by omega, by simp, hb.trans (HB1.out.mono hb.size)⟩
  case round =>
    obtain ⟨k, rfl, rfl, rfl, rfl, acc, hown, hscan, hk, h8, hbel⟩ := hrel
    have HW := Lib.hid hown
    have HS := Lib.hid hscan
    have HB := Lib.hid hbel
    clear hown hscan hbel
    by_cases hz : (Frm.next l k).2.2 = 0
    · obtain ⟨h1, h2, h3, h4, h5, h6⟩ := Frm.next_zero hz
      have e4 : (Frm.next l k).2.1 = ((k + 8 + (Crc.num (l.drop k)).toNat : Nat) : Int) := by rw [h4]; omega
      have HM := Lib.hid (Frm.scan_more hz e4)
      rw [hz, e4]
      clear h3 h4 h5 h6 hz e4 h2
      generalize (Frm.next l k).1 = b at HM
      have hkm : k + 8 ≤ k + 8 + (Crc.num (l.drop k)).toNat := by omega
      generalize k + 8 + (Crc.num (l.drop k)).toNat = m at h1 HM hkm
      obtain ⟨i0, hi, hz0, hz1, hz2⟩ := info_parts infoStr
      have hown := HW.out
      have hb2 := HB.out
      have hsz : w.heap.size ≤ wr.heap.size := hb2.size
      go_wp2_with (at_builtin; refine wpList_append_own _ rfl _ _ 31 rfl w.heap.size 9 i0 (.string ⟨#[]⟩) 1 16 Try.underlying31 hi hz0 hz1 hz2 rfl (by decide) _ _ _ rfl (World.ownsRow.alloc hown _) ⟨wr.heap.size, 0, none⟩ 1 1 [.string ⟨b.toArray⟩] rfl rfl (cell_one_new _ _ _) ?_ ?_ ?_ ?_ ?_)
      · simp [Value.oneCell']
      · unfold maxLen; omega
      · omega
      · simp; omega
      intro v' w2 hown2 hg2 _
      have HN : Hid (ScanAt l w v' m w2) := ⟨acc ++ [b], by simpa [Strs] using hown2, by rw [HS.out, HM.out]; simp, h1, by simp; omega, hb2.trans (((Below.refl _ _).alloc hb2.size _).grown hg2 (by simp; omega) (fun kk hkk => (hown.lt kk hkk).1))⟩
      clear hown hown2 hg2 hb2
      go_wp2_with fail
      refine (refnext_any _ _ _ (by unfold maxLen; omega)).mono ?_
      rintro e w3 ⟨rfl, hb3⟩
      have HB3 := Lib.hid hb3
      clear hb3
      go_wp2
      go_roundw
      case rel =>
        obtain ⟨acc', a1, a2, a3, a4, a5⟩ := HN.out
        exact ⟨m, rfl, rfl, rfl, rfl, acc', a1.kept HB3.out, a2, a3, a4, a5.trans (HB3.out.mono a5.size)⟩
      case measure => simp [intOf]; omega
    · have hz1 : ((Frm.next l k).2.2 == 0) = false := by simpa using hz
      have hE := Lib.hid (@Frm.scan_end l k hz)
      clear hz
      go_wp2
      go_ret2
      have e := HS.out
      rw [hE.out, List.append_nil] at e
      rw [ScanPost, e]
      exact ⟨_, rfl, HW.out, HB.out⟩

/-- A slice of strings, however it came: its length and its cells. -/
def Txts (w : World) (v : Value) (ls : List (List UInt8)) : Prop :=
  (∃ a cap, v = .slice a ls.length cap ∧ ∀ i, i < ls.length → ∃ b off, a = some ⟨b, off, none⟩ ∧ b < w.heap.size ∧ w.cell? ⟨b, off + i, none⟩ = some (.string ⟨(ls.getD i []).toArray⟩))

set_option maxHeartbeats 400000 in
theorem same_any (a b : Value) (x y : List (List UInt8)) (w : World) (hx : Txts w a x) (hy : Txts w b y) (hm : x.length ≤ maxLen) (hn : y.length ≤ maxLen) :
    Calls Try.prog 19 #[a, b] w fun e w' => e = .returned (.bool (decide (x = y))) ∧ ∃ n, w' = w.drewN n := by
  unfold maxLen at hm hn
  obtain ⟨aa, ca, rfl, ha⟩ := hx
  obtain ⟨ab, cb, rfl, hb⟩ := hy
  have HA := Lib.hid ha
  have HB := Lib.hid hb
  clear ha hb
  by_cases hl : x.length = y.length
  · obtain ⟨n, hxn, hyn⟩ : ∃ n, Hid (x.length = n) ∧ Hid (y.length = n) := ⟨x.length, rfl, hl.symm⟩
    rw [hxn.out] at HA hm
    rw [hyn.out] at HB
    rw [hxn.out, hyn.out]
    clear hl hn
    have hne : ((n : Int) != (n : Int)) = false := by simp
    go_enter Try.func19, Try.ntmps19
    go_wp2
    go_loopw [5] (fun i wr => ∃ k : Nat, i = .int .i64 k ∧ k ≤ n ∧ Hid (∀ i, i < k → x.getD i [] = y.getD i []) ∧ ∃ d, wr = w.drewN d) (fun i _ => n - (intOf i).toNat)
    case atStart => exact ⟨0, rfl, by omega, fun i hi => by omega, 0, rfl⟩
    case round =>
      obtain ⟨k, rfl, hk, he, d, rfl⟩ := hrel
      by_cases hlt : k < n
      · obtain ⟨b1, o1, rfl, hb1, hc1⟩ := HA.out k hlt
        obtain ⟨b2, o2, rfl, hb2, hc2⟩ := HB.out k hlt
        have hkk : (k : Int) < (n : Int) := by omega
        by_cases hc : x.getD k [] = y.getD k []
        · rw [← hc] at hc2
          have HC := Lib.hid hc
          clear hc
          go_wp2
          go_quiet (fail)
          go_wp2
          go_roundw
          case rel => exact ⟨k + 1, by go_num, by omega, fun i hi => (Nat.lt_succ_iff_lt_or_eq.1 hi).elim (he.out i) (fun e => e ▸ HC.out), _, rfl⟩
          case measure => simp [intOf]; omega
        · have hc' : (x.getD k [] == y.getD k []) = false := by simpa using hc
          have HC : Hid (¬ x = y) := fun e => hc (by rw [e])
          clear hc
          generalize x.getD k [] = p at hc1 hc'
          generalize y.getD k [] = q at hc2 hc'
          go_wp2
          go_quiet (fail)
          go_wp2
          go_ret
          exact ⟨by rw [decide_eq_false HC.out]; rfl, d + nq, by rw [World.drewN_drewN]⟩
      · obtain rfl : k = n := by omega
        go_wp2
        go_ret
        have e : x = y := List.ext_getElem (hxn.out.trans hyn.out.symm) fun i h1 h2 => by
          have := he.out i (by have := hxn.out; omega)
          simpa [List.getD, h1, h2] using this
        exact ⟨by rw [decide_eq_true e]; rfl, _, rfl⟩
  · have hl1 : ((x.length : Int) != (y.length : Int)) = true := by rw [bne_iff_ne]; omega
    have hl2 : Hid (¬ x = y) := fun e => hl (by rw [e])
    clear hl
    go_enter Try.func19, Try.ntmps19
    go_wp2
    go_ret
    exact ⟨by rw [decide_eq_false hl2.out]; rfl, 0, rfl⟩

end Go.Proofs.Ytlieanigefjocaa
