/-
  The walk of FrameJoins: it returns true and leaves old memory as it was.
  Conditions: none but the model's longest length.
-/
import Derived.Test.YtlieanigefjocaaLawsb
import Derived.Test.YtlieanigefjocaaApp
set_option linter.unusedVariables false
set_option linter.unusedSimpArgs false
namespace Go.Proofs.Ytlieanigefjocaa
open Go.RowKit

theorem strs_one (ls : List (List UInt8)) : ∀ u ∈ ls.map (fun b => Value.string ⟨b.toArray⟩), u.oneCell' = true := by
  intro u hu
  obtain ⟨_, _, rfl⟩ := List.mem_map.1 hu
  rfl

set_option maxHeartbeats 400000 in
theorem joins_walk (s t : List UInt8) (w : World) (hs : s.length ≤ maxLen) (ht : t.length ≤ maxLen) :
    Calls Try.prog 7 #[.string ⟨s.toArray⟩, .string ⟨t.toArray⟩] w fun e w' => e = .returned (.bool true) ∧ Below w.heap.size w w' := by
  by_cases hl : s.length ≤ 4096
  · by_cases hl2 : t.length ≤ 4096
    · have hle := Frm.scan_le s
      have hle2 := Frm.scan_le t
      have hj := Lib.hid (Frm.scan_joins s t)
      have hcut := str_to (P := Try.prog) s (Frm.scan s).2 (Frm.scan s).2 .i64 rfl hle 9 Try.underlying9
      have HL1 := Lib.hid (scan_length s)
      have HL2 := Lib.hid (scan_length t)
      go_enter Try.func7, Try.ntmps7
      go_wp2_with fail
      refine (awake_any _).mono ?_
      rintro e w1 ⟨rfl, hb1⟩
      have HB1 := Lib.hid hb1
      clear hb1
      go_wp2_with fail
      refine (scan_any _ _ (by omega)).mono ?_
      rintro e w2 ⟨v2, rfl, hown2, hb2⟩
      have HB2 := Lib.hid (bt HB1.out hb2)
      have HO2 := Lib.hid hown2
      clear hb2 hown2
      go_wp2_with fail
      refine (scan_any _ _ (by omega)).mono ?_
      rintro e w3 ⟨v3, rfl, hown3, hb3⟩
      have HB3 := Lib.hid (bt HB2.out hb3)
      have HO3 := Lib.hid hown3
      have HO2' := Lib.hid (HO2.out.kept hb3)
      clear hb3 hown3 HO2
      go_wp2_with fail
      refine (scan_any _ _ (by simp; omega)).mono ?_
      rintro e w4 ⟨v4, rfl, hown4, hb4⟩
      have HB4 := Lib.hid (bt HB3.out hb4)
      have HO4 := Lib.hid hown4
      have HO2 := Lib.hid (HO2'.out.kept hb4)
      have HO3' := Lib.hid (HO3.out.kept hb4)
      clear hb4 hown4 HO2' HO3
      rw [hj.out] at HO4 ⊢
      generalize hA : (Frm.scan s).1 = A at HO2 HO4 HL1 hj
      generalize hB : (Frm.scan t).1 = B at HO3' HO4 HL2 hj
      generalize (Frm.scan s).2 = n at hle hcut hj
      generalize (Frm.scan t).2 = m at hle2 hj
      clear hA hB hcut
      have heq : ((((n + m : Nat)) : Int) == (n : Int) + (m : Int)) = true := by simp
      obtain ⟨i0, hi, hz0, hz1, hz2⟩ := info_parts infoStr
      have hmade : Hid ((w4.alloc (.cells #[] 9)).ownsRow w4.heap.size 9 1 (.slice (some ⟨w4.heap.size, 0, none⟩) 0 0) 0 []) := World.ownsRow_made w4 #[] 0 (Nat.le_refl _) (by unfold maxLen; omega) rfl
      have hsrc2 : Hid (SrcIs (w4.alloc (.cells #[] 9)) 1 v2 A.length (A.map fun b => Value.string ⟨b.toArray⟩)) := SrcIs.ofOwn (HO2.out.alloc _)
      go_wp2_with (at_builtin; refine wpList_append_src rfl (.tmp 41) (.tmp 42) 31 rfl w4.heap.size 9 i0 (.string ⟨#[]⟩) 1 16 Try.underlying31 hi hz0 hz1 hz2 rfl (by decide) _ _ _ rfl hmade.out _ _ _ rfl hsrc2.out (strs_one _) ?_ ?_ ?_ ?_)
      · unfold maxLen; have := HL1.out; omega
      · have := HL1.out; omega
      · simp
      intro v5 w5 hown5 hg5
      have hb5 : Below w4.heap.size w4 w5 := ((Below.refl _ _).alloc (Nat.le_refl _) _).grown hg5 (by simp) (fun kk hkk => by simp [Value.ownBlock] at hkk; omega)
      have hown5'' : w5.ownsRow w4.heap.size 9 1 v5 A.length (A.map fun b => Value.string ⟨b.toArray⟩) := by simpa using hown5
      have hown5' := Lib.hid hown5''
      clear hown5''
      have hsrc3 : Hid (SrcIs w5 1 v3 B.length (B.map fun b => Value.string ⟨b.toArray⟩)) := SrcIs.ofOwn (HO3'.out.kept hb5)
      have hsz : w4.heap.size ≤ w5.heap.size := hb5.size
      have HB5 := Lib.hid hb5
      clear hown5 hg5 hb5 hsrc2
      go_wp2_with (at_builtin; refine wpList_append_src rfl (.tmp 43) (.tmp 44) 31 rfl w4.heap.size 9 i0 (.string ⟨#[]⟩) 1 16 Try.underlying31 hi hz0 hz1 hz2 rfl (by decide) _ _ _ rfl hown5'.out _ _ _ rfl hsrc3.out (strs_one _) ?_ ?_ ?_ ?_)
      · unfold maxLen; have := HL1.out; have := HL2.out; omega
      · have := HL1.out; have := HL2.out; omega
      · exact hsz
      intro v6 w6 hown6 hg6
      have hb6 : Below w4.heap.size w4 w6 := HB5.out.grown hg6 hsz (fun kk hkk => (hown5'.out.lt kk hkk).1)
      have hT6 : Hid (Txts w6 v6 (A ++ B)) := Strs.txts (B := w4.heap.size) (by simpa [Strs] using hown6)
      have hT4 : Hid (Txts w6 v4 (A ++ B)) := (HO4.out.kept hb6).txts
      have HB6 := Lib.hid (bt HB4.out hb6)
      clear hown6 hg6 hb6 
      go_wp2_with fail
      refine (same_any _ _ _ _ _ hT4.out hT6.out (by simp [maxLen]; have := HL1.out; have := HL2.out; omega) (by simp [maxLen]; have := HL1.out; have := HL2.out; omega)).mono ?_
      rintro e w7 ⟨rfl, n7, rfl⟩
      rw [decide_eq_true rfl]
      go_wp2
      go_ret
      exact ⟨rfl, below_drewN HB6.out _⟩
    · go_enter Try.func7, Try.ntmps7
      unfold maxLen at hs ht
      go_wp2_with fail
      refine (awake_any _).mono ?_
      rintro e w1 ⟨rfl, hb1⟩
      have HB1 := Lib.hid hb1
      clear hb1
      go_wp2
      go_ret
      exact ⟨rfl, HB1.out⟩
  · go_enter Try.func7, Try.ntmps7
    unfold maxLen at hs
    go_wp2_with fail
    refine (awake_any _).mono ?_
    rintro e w1 ⟨rfl, hb1⟩
    have HB1 := Lib.hid hb1
    clear hb1
    go_wp2
    go_ret
    exact ⟨rfl, HB1.out⟩

end Go.Proofs.Ytlieanigefjocaa
