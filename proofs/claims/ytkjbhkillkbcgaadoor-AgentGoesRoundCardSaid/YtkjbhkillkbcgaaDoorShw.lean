/-
  Share: names, who is good, walked.
  Conditions: the model's longest length.
-/
import Derived.Test.YtkjbhkillkbcgaaDoorSh
import Derived.Test.YtkjbhkillkbcgaaDoorOi
import Derived.Test.YtkjbhkillkbcgaaDoorApp
import Derived.Test.YtkjbhkillkbcgaaDoorShelf
import Derived.Shelf.Strings.SlTrimAscii
import Derived.Laws.AppendOwn
set_option linter.unusedVariables false
set_option linter.unusedSimpArgs false
namespace Go.Proofs.YtkjbhkillkbcgaaDoor
open Go.RowKit

theorem trim_any (s : List UInt8) (hs : s.length ≤ 9223372036854775807) (w : World) : Calls Tryd.prog 30 #[.string ⟨s.toArray⟩, .string ⟨Sh.letters.toArray⟩] w fun e w' =>
    e = .returned (.string ⟨(Lib.trimS s Sh.letters).toArray⟩) ∧ Below w.heap.size w w' :=
  Any.strings_Trim_laid Tryd.lays160 (by kernel_rfl) ⟨s.toArray⟩ ⟨Sh.letters.toArray⟩ w hs (by decide) (ascii_of_all (by decide))
theorem isName_any (s : List UInt8) (hs : s.length ≤ 9223372036854775807) (w : World) : Calls Tryd.prog 25 #[.string ⟨s.toArray⟩] w fun e w' => e = .returned (.bool (Sh.isName s)) ∧ Below w.heap.size w w' := by
  cases s with
  | nil =>
    go_enter Tryd.func25, Tryd.ntmps25
    go_wp2
    go_ret
    exact ⟨rfl, Below.refl _ _⟩
  | cons c r =>
    by_cases h8 : (c :: r).length ≤ 8
    · have h8i : r.length ≤ 7 := by simpa using h8
      have HT := Lib.hid (trim_any (c :: r) hs w)
      have HE : Hid (Sh.isName (c :: r) = (Lib.trimS (c :: r) Sh.letters).isEmpty) := by
        rw [Hid, Sh.isName, decide_eq_true h8]
        rfl
      generalize Lib.trimS (c :: r) Sh.letters = t at HT HE
      cases t with
      | nil =>
        go_enter Tryd.func25, Tryd.ntmps25
        go_wp2_with fail
        refine HT.out.mono ?_
        rintro e w1 ⟨rfl, hb⟩
        have HB := Lib.hid hb
        clear hb
        go_wp2
        go_ret
        exact ⟨by rw [HE.out]; rfl, HB.out⟩
      | cons x t =>
        go_enter Tryd.func25, Tryd.ntmps25
        go_wp2_with fail
        refine HT.out.mono ?_
        rintro e w1 ⟨rfl, hb⟩
        have HB := Lib.hid hb
        clear hb
        go_wp2
        go_ret
        exact ⟨by rw [HE.out]; rfl, HB.out⟩
    · have HE : Hid (Sh.isName (c :: r) = false) := by
        rw [Hid, Sh.isName, decide_eq_false h8]
        simp
      have h8i : 7 < r.length := by simp at h8; omega
      clear h8
      go_enter Tryd.func25, Tryd.ntmps25
      go_wp2
      go_ret
      exact ⟨by rw [HE.out]; rfl, Below.refl _ _⟩

/-- The name ahead. -/
def prevOf (ms : List Sh.Nm) (k : Nat) : Option Sh.Nm := if k = 0 then none else some (ms.getD (k - 1) [])
def riseAt (p : Option Sh.Nm) (x : Sh.Nm) : Bool := match p with | none => true | some y => Op.bytesLess y x
theorem rise_step (ms : List Sh.Nm) (k : Nat) (h : k < ms.length) : Sh.riseFrom (prevOf ms k) (ms.drop k) = (Sh.isName (ms.getD k []) && riseAt (prevOf ms k) (ms.getD k []) && Sh.riseFrom (prevOf ms (k + 1)) (ms.drop (k + 1))) := by
  rw [List.drop_eq_getElem_cons h]
  have e : ms.getD k [] = ms[k] := by simp [List.getD, h]
  have e2 : prevOf ms (k + 1) = some ms[k] := by simp [prevOf, h]
  rw [e2, e]
  rfl
theorem good_any (v : Value) (ms : List Sh.Nm) (w : World) (h : Txts w v ms) (hm : ms.length ≤ maxLen) (hl : ∀ l ∈ ms, l.length ≤ maxLen) :
    Calls Tryd.prog 20 #[v] w fun e w' => e = .returned (.bool (Sh.good ms)) ∧ Below w.heap.size w w' := by
  have HZ := Lib.hid h
  have HL := Lib.hid hl
  obtain ⟨a, cap, rfl, _⟩ := h
  unfold maxLen at hm
  clear hl
  go_enter Tryd.func20, Tryd.ntmps20
  go_wp2
  go_loopw [7] (fun i wr => ∃ k : Nat, i = .int .i64 k ∧ k ≤ ms.length ∧ Sh.riseFrom none ms = Sh.riseFrom (prevOf ms k) (ms.drop k) ∧ Below w.heap.size w wr) (fun i _ => ms.length - (intOf i).toNat)
  case atStart => exact ⟨0, rfl, by omega, rfl, Below.refl _ _⟩
  case round =>
    obtain ⟨k, rfl, hk, hr, hb⟩ := hrel
    have HR := Lib.hid hr
    have HB := Lib.hid hb
    clear hr hb
    by_cases hlt : k < ms.length
    · have HS := Lib.hid (rise_step ms k hlt)
      obtain ⟨a', cap', he, hcells⟩ := HZ.out
      injection he with he1 he2 he3
      subst he1 he3
      obtain ⟨g, off, rfl, hg, hd1⟩ := hcells k hlt
      have hgw := Lib.hid hg
      have hc1 := (HB.out.cell (p := ⟨g, off + k, none⟩) hg).trans hd1
      have hxl := HL.out (ms.getD k []) (by simp [List.getD, hlt])
      unfold maxLen at hxl
      by_cases hn : Sh.isName (ms.getD k []) = true
      · cases k with
        | zero =>
          have HN := Lib.hid (fun w => isName_any (ms.getD 0 []) hxl w)
          have HF : Hid (Sh.riseFrom none ms = Sh.riseFrom (prevOf ms (0 + 1)) (ms.drop (0 + 1))) := by
            rw [Hid, HR.out, HS.out, hn]
            rfl
          rw [hn] at HN
          rw [Nat.add_zero] at hc1
          clear hcells he2 hg hd1 HS hn
          generalize ms.getD 0 [] = x at *
          go_wp2_with fail
          refine (HN.out _).mono ?_
          rintro e w1 ⟨rfl, hb1⟩
          have B1 := Lib.hid (bt HB.out hb1)
          clear hb1
          go_wp2
          go_roundw
          case rel => exact ⟨1, by go_num, by omega, HF.out, B1.out⟩
          case measure => simp [intOf]; omega
        | succ j =>
          have HN := Lib.hid (fun w => isName_any (ms.getD (j + 1) []) hxl w)
          rw [hn] at HN HS
          obtain ⟨g2, off2, e2, hg2, hd2⟩ := hcells j (by omega)
          cases e2
          have HD2 := Lib.hid hd2
          have hQ : prevOf ms (j + 1) = some (ms.getD j []) := by simp [prevOf]
          rw [hQ] at HS HR
          clear hcells he2 hg hd1 hn hg2 hd2 hQ
          generalize ms.getD (j + 1) [] = x at *
          generalize ms.getD j [] = y at *
          by_cases hless : Op.bytesLess y x = true
          · have HF : Hid (Sh.riseFrom none ms = Sh.riseFrom (prevOf ms (j + 1 + 1)) (ms.drop (j + 1 + 1))) := by
              rw [Hid, HR.out, HS.out, show riseAt (some y) x = true from hless]
              rfl
            clear HS HR
            go_wp2_with fail
            refine (HN.out _).mono ?_
            rintro e w1 ⟨rfl, hb1⟩
            have B1 := Lib.hid (bt HB.out hb1)
            have hc2 := (B1.out.cell (p := ⟨g, off + j, none⟩) hgw.out).trans HD2.out
            clear hb1
            go_wp2
            go_roundw
            case rel => exact ⟨j + 1 + 1, by go_num, by omega, HF.out, B1.out⟩
            case measure => simp [intOf]; omega
          · have HF : Hid (Sh.good ms = false) := by
              rw [Hid, Sh.good, HR.out, HS.out, show riseAt (some y) x = false by simpa [riseAt] using hless]
              rfl
            clear HS HR
            go_wp2_with fail
            refine (HN.out _).mono ?_
            rintro e w1 ⟨rfl, hb1⟩
            have B1 := Lib.hid (bt HB.out hb1)
            have hc2 := (B1.out.cell (p := ⟨g, off + j, none⟩) hgw.out).trans HD2.out
            clear hb1
            go_wp2
            go_ret
            exact ⟨by rw [HF.out]; rfl, B1.out⟩
      · have hn' : Sh.isName (ms.getD k []) = false := by simpa using hn
        have HN := Lib.hid (fun w => isName_any (ms.getD k []) hxl w)
        have HF : Hid (Sh.good ms = false) := by
          rw [Hid, Sh.good, HR.out, HS.out, hn']
          rfl
        rw [hn'] at HN
        clear hcells he2 hg hd1 HS hn hn'
        generalize ms.getD k [] = x at *
        go_wp2_with fail
        refine (HN.out _).mono ?_
        rintro e w1 ⟨rfl, hb1⟩
        have B1 := Lib.hid (bt HB.out hb1)
        clear hb1
        go_wp2
        go_ret
        exact ⟨by rw [HF.out]; rfl, B1.out⟩
    · obtain rfl : k = ms.length := by omega
      have HF : Hid (Sh.good ms = decide (ms.length ≤ 4)) := by
        rw [Hid, Sh.good, HR.out, List.drop_length]
        rfl
      go_wp2
      go_ret
      refine ⟨?_, HB.out⟩
      rw [HF.out]
      exact congrArg (fun b => Ending.returned (.bool b)) (decide_eq_decide.2 (show (ms.length : Int) ≤ 4 ↔ ms.length ≤ 4 by omega))

end Go.Proofs.YtkjbhkillkbcgaaDoor
