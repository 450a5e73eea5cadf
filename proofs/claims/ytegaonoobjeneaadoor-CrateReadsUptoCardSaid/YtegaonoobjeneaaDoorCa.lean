/-
  Crate's laws: awake, great, walked.
  Conditions: the library's variables hold what they are laid with.
-/
import Derived.Test.YtegaonoobjeneaaDoorCwh
import Derived.Test.YtegaonoobjeneaaDoorCwd
set_option linter.unusedVariables false
set_option linter.unusedSimpArgs false
namespace Go.Proofs.YtegaonoobjeneaaDoor
open Go.RowKit

def greatB (l : List Cr.Rec) : Bool := decide (40 < l.length) || l.any fun x => decide (1000 < x.key.length) || decide (1000 < x.val.length)
theorem any_step (l : List Cr.Rec) (f : Cr.Rec → Bool) (k : Nat) (x : Cr.Rec) (h : l[k]? = some x) : (l.drop k).any f = (f x || (l.drop (k + 1)).any f) := by
  obtain ⟨hk, rfl⟩ := List.getElem?_eq_some_iff.1 h
  rw [List.drop_eq_getElem_cons hk]
  rfl
set_option maxHeartbeats 800000 in
theorem great_any (l : List Cr.Rec) (hok : ∀ x ∈ l, RecOk x) (hl : l.length ≤ maxLen) (rv : Value) (w : World) (h : Recs w rv l) :
    Calls Tryd.prog 12 #[rv] w fun e w' => e = .returned (.bool (greatB l)) ∧ w' = w := by
  have HZ := Lib.hid h
  have HR := Lib.hid hok
  have HE : Hid (greatB l = (decide (40 < l.length) || l.any fun x => decide (1000 < x.key.length) || decide (1000 < x.val.length))) := rfl
  obtain ⟨a, cap, rfl⟩ := h.form
  unfold maxLen at hl
  clear h hok
  by_cases h1 : 40 < l.length
  · have HX : Hid (greatB l = true) := by rw [Hid, HE.out, decide_eq_true h1]; rfl
    generalize l.length = n at *
    go_enter Tryd.func12, Tryd.ntmps12
    go_wp2
    go_ret
    exact ⟨by rw [HX.out]; rfl, rfl⟩
  · have HX : Hid (greatB l = l.any fun x => decide (1000 < x.key.length) || decide (1000 < x.val.length)) := by rw [Hid, HE.out, decide_eq_false h1]; rfl
    generalize hf : (fun x : Cr.Rec => decide (1000 < x.key.length) || decide (1000 < x.val.length)) = f at *
    have HF : Hid (∀ x, f x = (decide (1000 < x.key.length) || decide (1000 < x.val.length))) := fun x => by rw [← hf]
    clear HE hf
    go_enter Tryd.func12, Tryd.ntmps12
    go_wp2
    go_loopw [3] (fun i wr => ∃ k : Nat, i = .int .i64 k ∧ k ≤ l.length ∧ l.any f = (l.drop k).any f ∧ wr = w) (fun i _ => l.length - (intOf i).toNat)
    case atStart => exact ⟨0, rfl, by omega, rfl, rfl⟩
    case round =>
      obtain ⟨k, rfl, hk, hr, rfl⟩ := hrel
      have HR2 := Lib.hid hr
      clear hr
      by_cases hlt : k < l.length
      · obtain ⟨x, hx⟩ : ∃ x, l[k]? = some x := ⟨l[k], by simp [hlt]⟩
        have hxo := HR.out x (List.mem_of_getElem? hx)
        have HS := Lib.hid (any_step l f k x hx)
        obtain ⟨g, off, cap', he, hg, p0, p1, p2, p3⟩ := HZ.out.get (Below.refl _ _) hx
        injection he with he1 he2 he3
        subst he1 he3
        obtain ⟨x0, xk, xv, xg⟩ := x
        obtain ⟨-, xkl, xvl⟩ := hxo
        unfold maxLen at xkl xvl
        have HFX : Hid (f ⟨x0, xk, xv, xg⟩ = (decide (1000 < xk.length) || decide (1000 < xv.length))) := HF.out _
        dsimp only at *
        clear he2
        by_cases h2 : 1000 < xk.length
        · have HY : Hid (greatB l = true) := by rw [Hid, HX.out, HR2.out, HS.out, HFX.out, decide_eq_true h2]; rfl
          go_wp2
          go_ret
          exact ⟨by rw [HY.out]; rfl, rfl⟩
        · by_cases h3 : 1000 < xv.length
          · have HY : Hid (greatB l = true) := by rw [Hid, HX.out, HR2.out, HS.out, HFX.out, decide_eq_false h2, decide_eq_true h3]; rfl
            go_wp2
            go_ret
            exact ⟨by rw [HY.out]; rfl, rfl⟩
          · have HY : Hid (l.any f = (l.drop (k + 1)).any f) := by rw [Hid, HR2.out, HS.out, HFX.out, decide_eq_false h2, decide_eq_false h3]; rfl
            clear HS HFX
            go_wp2
            go_roundw
            case rel => exact ⟨k + 1, by go_num, by omega, HY.out, by simp⟩
            case measure => simp [intOf]; omega
      · obtain rfl : k = l.length := by omega
        have HY : Hid (greatB l = false) := by rw [Hid, HX.out, HR2.out, List.drop_length]; rfl
        go_wp2
        go_ret
        exact ⟨by rw [HY.out]; rfl, rfl⟩
theorem recs_new (w : World) (l : List Cr.Rec) : Recs (w.alloc (.cells (recCells l).toArray 41)) (.slice (some ⟨w.heap.size, 0, none⟩) l.length l.length) l := by
  have C := Cl.new w (recCells l) 41
  refine ⟨_, _, rfl, fun i x hx => ⟨_, _, rfl, C.lt, ?_⟩⟩
  obtain ⟨h0, h1, h2, h3⟩ := recCells_get l i x hx
  rw [Nat.zero_add]
  exact ⟨(C.cell _).trans h0, (C.cell _).trans h1, (C.cell _).trans h2, (C.cell _).trans h3⟩
def rec0 : Cr.Rec := ⟨0, [107], [118], false⟩
def bat0 : Cr.Batch := ⟨5, 1, 1, 0, 9, [⟨5, [107], [118], false⟩]⟩
theorem pack0 : Cr.pack [rec0] 5 1 0 9 = some bat0 := by kernel_rfl
theorem good0 : Cr.good bat0 = true := by kernel_rfl
theorem goodZ : Cr.good zeroBat = false := by kernel_rfl
theorem fits0 : Cr.fits bat0.recs = true := by kernel_rfl
theorem itoaOne (n : Nat) (h : n < 10) : Lib.itoa (n : Int) = [UInt8.ofNat (48 + n)] := by
  have : ¬ ((n : Int) < 0) := by omega
  rw [Lib.itoa, if_neg this, show ((n : Int)).toNat = n from rfl, Bd.dec_small h]
theorem enc0 : Cr.enc bat0 = [108, 105, 53, 101, 105, 49, 101, 105, 49, 101, 105, 48, 101, 105, 57, 101, 108, 105, 53, 101, 49, 58, 107, 49, 58, 118, 105, 48, 101, 101, 101] := by
  have i5 : Bd.bInt 5 = [105, 53, 101] := by rw [Bd.bInt, show (5 : Int) = ((5 : Nat) : Int) from rfl, itoaOne 5 (by decide)]; rfl
  have i1 : Bd.bInt 1 = [105, 49, 101] := by rw [Bd.bInt, show (1 : Int) = ((1 : Nat) : Int) from rfl, itoaOne 1 (by decide)]; rfl
  have i0 : Bd.bInt 0 = [105, 48, 101] := by rw [Bd.bInt, show (0 : Int) = ((0 : Nat) : Int) from rfl, itoaOne 0 (by decide)]; rfl
  have i9 : Bd.bInt 9 = [105, 57, 101] := by rw [Bd.bInt, show (9 : Int) = ((9 : Nat) : Int) from rfl, itoaOne 9 (by decide)]; rfl
  have t1 : ∀ c : UInt8, Bd.bText [c] = [49, 58, c] := fun c => by rw [Bd.bText, show (([c] : List UInt8).length : Int) = ((1 : Nat) : Int) from rfl, itoaOne 1 (by decide)]; rfl
  show 108 :: ((Bd.bInt 5 ++ (Bd.bInt 1 ++ (Bd.bInt 1 ++ (Bd.bInt 0 ++ Bd.bInt 9)))) ++ ((108 :: (Bd.bInt 5 ++ (Bd.bText [107] ++ (Bd.bText [118] ++ (Bd.bInt 0 ++ [101]))))) ++ [] ++ [101])) = _
  rw [i5, i1, i0, i9, t1, t1]
  rfl
theorem dec0 : Cr.dec [108, 105, 53, 101, 105, 49, 101, 105, 49, 101, 105, 48, 101, 105, 57, 101, 108, 105, 53, 101, 49, 58, 107, 49, 58, 118, 105, 48, 101, 101, 101] = some bat0 := by rw [← enc0]; exact Cr.dec_enc good0
theorem batOk0 : BatOk bat0 := by
  refine ⟨⟨by decide, by decide⟩, ⟨by decide, by decide⟩, ⟨by decide, by decide⟩, ⟨by decide, by decide⟩, ⟨by decide, by decide⟩, by unfold maxLen; decide, fun x hx => ?_⟩
  rw [List.mem_singleton.1 hx]
  exact ⟨⟨by decide, by decide⟩, by unfold maxLen; decide, by unfold maxLen; decide⟩
theorem batOkZ : BatOk zeroBat := ⟨⟨by decide, by decide⟩, ⟨by decide, by decide⟩, ⟨by decide, by decide⟩, ⟨by decide, by decide⟩, ⟨by decide, by decide⟩, by unfold maxLen; decide, fun x hx => by cases hx⟩
theorem recOk0 : ∀ x ∈ [rec0], RecOk x := fun x hx => by
  rw [List.mem_singleton.1 hx]
  exact ⟨⟨by decide, by decide⟩, by unfold maxLen; decide, by unfold maxLen; decide⟩
/-- What a batch's answer is, its records' slice written out. -/
theorem BatR.some' {w w' : World} {b : Cr.Batch} {bad : Int} {e : Ending} (h : BatR w (some b) bad e w') : ∃ a cap, e = .returned (.tuple #[batV b (.slice a b.recs.length cap), .int .i64 0]) ∧ Recs w' (.slice a b.recs.length cap) b.recs ∧ Below w.heap.size w w' := by
  obtain ⟨rv, he, hr, hb⟩ := h
  obtain ⟨a, cap, rfl⟩ := hr.form
  exact ⟨a, cap, he, hr, hb⟩
theorem BatR.none' {w w' : World} {bad : Int} {e : Ending} (h : BatR w none bad e w') : ∃ a cap, e = .returned (.tuple #[batV zeroBat (.slice a 0 cap), .int .i64 bad]) ∧ Recs w' (.slice a 0 cap) [] ∧ Below w.heap.size w w' := by
  obtain ⟨rv, he, hr, hb⟩ := h
  obtain ⟨a, cap, rfl⟩ := hr.form
  exact ⟨a, cap, he, hr, hb⟩
set_option maxRecDepth 20000 in
set_option maxHeartbeats 6400000 in
theorem awake_any (w : World) (hw : Lw w) : Calls Tryd.prog 11 #[] w fun e w' => e = .returned (.bool true) ∧ Below w.heap.size w w' := by
  have HW := Lib.hid hw
  clear hw
  have R0 : Hid (Recs (w.alloc (.cells #[.int .i64 0, .string ⟨#[107]⟩, .string ⟨#[118]⟩, .bool false] 41)) (.slice (some ⟨w.heap.size, 0, none⟩) 1 1) [rec0]) := recs_new w [rec0]
  have B0 : Hid (Below w.heap.size w (w.alloc (.cells #[.int .i64 0, .string ⟨#[107]⟩, .string ⟨#[118]⟩, .bool false] 41))) := (Below.refl _ _).alloc (Nat.le_refl _) _
  have HP := Lib.hid (pack_any [rec0] recOk0 (by unfold maxLen; decide) 5 1 0 9 ⟨by decide, by decide⟩ ⟨by decide, by decide⟩ ⟨by decide, by decide⟩ ⟨by decide, by decide⟩ _ _ R0.out)
  rw [pack0] at HP
  go_enter Tryd.func11, Tryd.ntmps11
  go_wp2_with fail
  refine HP.out.mono ?_
  intro e w1 h1
  obtain ⟨a1, cap1, rfl, r1, b1⟩ := h1.some'
  have R1 := Lib.hid r1
  have B1 := Lib.hid (bt B0.out b1)
  have HE := Lib.hid (fun W (hW : Below w1.heap.size w1 W) => encode_any bat0 batOk0 _ W (R1.out.kept hW) (HW.out.below (bt B1.out hW)))
  have HE2 : Hid (encR bat0 = .tuple #[.string ⟨#[108, 105, 53, 101, 105, 49, 101, 105, 49, 101, 105, 48, 101, 105, 57, 101, 108, 105, 53, 101, 49, 58, 107, 49, 58, 118, 105, 48, 101, 101, 101]⟩, .int .i64 0]) := by
    rw [Hid, encR, if_pos good0, enc0]
  have C1 : Hid (Cl (w1.alloc (.cells #[.int .i64 5, .int .i64 1, .int .i64 1, .int .i64 0, .int .i64 9, .slice a1 1 cap1] 24)) w1.heap.size [.int .i64 5, .int .i64 1, .int .i64 1, .int .i64 0, .int .i64 9, .slice a1 1 cap1] 24) := Cl.new _ _ _
  have D1 : Hid (Below w1.heap.size w1 (w1.alloc (.cells #[.int .i64 5, .int .i64 1, .int .i64 1, .int .i64 0, .int .i64 9, .slice a1 1 cap1] 24))) := (Below.refl _ _).alloc (Nat.le_refl _) _
  clear h1 r1 b1 B0 R0 HP
  rw [HE2.out] at HE
  unfold batV at HE ⊢
  dsimp only [bat0, List.length_cons, List.length_nil, Nat.zero_add] at HE R1 ⊢
  obtain ⟨c0, c1, c2, c3, c4, c5⟩ := C1.out.cell6
  go_wp2_with fail
  refine (HE.out _ D1.out).mono ?_
  rintro e w2 ⟨rfl, hb2⟩
  have C2 := Lib.hid (C1.out.below hb2)
  have D2 := Lib.hid (bt D1.out hb2)
  have HD := Lib.hid (decode_any [108, 105, 53, 101, 105, 49, 101, 105, 49, 101, 105, 48, 101, 105, 57, 101, 108, 105, 53, 101, 49, 58, 107, 49, 58, 118, 105, 48, 101, 101, 101] (by decide) w2 (HW.out.below (bt B1.out D2.out)))
  rw [dec0] at HD
  clear hb2 C1 D1 HE HE2 c0 c1 c2 c3 c4 c5
  go_wp2_with fail
  refine HD.out.mono ?_
  intro e w3 h3
  obtain ⟨a3, cap3, rfl, r3, b3⟩ := h3.some'
  have R3 := Lib.hid r3
  have C3 := Lib.hid (C2.out.below b3)
  have D3 := Lib.hid (bt D2.out b3)
  clear h3 r3 C2 D2 HD
  unfold batV
  dsimp only [bat0, List.length_cons, List.length_nil, Nat.zero_add] at R3 ⊢
  have C4 : Hid (Cl (w3.alloc (.cells #[.int .i64 5, .int .i64 1, .int .i64 1, .int .i64 0, .int .i64 9, .slice a3 1 cap3] 24)) w3.heap.size [.int .i64 5, .int .i64 1, .int .i64 1, .int .i64 0, .int .i64 9, .slice a3 1 cap3] 24) := Cl.new _ _ _
  have C3' : Hid (Cl (w3.alloc (.cells #[.int .i64 5, .int .i64 1, .int .i64 1, .int .i64 0, .int .i64 9, .slice a3 1 cap3] 24)) w1.heap.size [.int .i64 5, .int .i64 1, .int .i64 1, .int .i64 0, .int .i64 9, .slice a1 1 cap1] 24) := C3.out.alloc _
  have D4 : Hid (Below w1.heap.size w1 (w3.alloc (.cells #[.int .i64 5, .int .i64 1, .int .i64 1, .int .i64 0, .int .i64 9, .slice a3 1 cap3] 24))) := D3.out.alloc D3.out.size _
  have R4 : Hid (Recs (w3.alloc (.cells #[.int .i64 5, .int .i64 1, .int .i64 1, .int .i64 0, .int .i64 9, .slice a3 1 cap3] 24)) (.slice a3 1 cap3) bat0.recs) := R3.out.kept ((Below.refl _ _).alloc (Nat.le_refl _) _)
  have b3s := b3.size
  clear C3 R3 D3 b3
  go_wp2_with fail
  generalize w3.alloc (.cells #[.int .i64 5, .int .i64 1, .int .i64 1, .int .i64 0, .int .i64 9, .slice a3 1 cap3] 24) = w4 at *
  have HZ := Lib.hid (encode_any zeroBat batOkZ (.slice none 0 0) w4 (recs_none _) (HW.out.below (bt B1.out D4.out)))
  rw [show encR zeroBat = .tuple #[.string ⟨#[]⟩, .int .i64 1] from by rw [encR, if_neg (by rw [goodZ]; decide)]] at HZ
  refine HZ.out.mono ?_
  rintro e w5 ⟨rfl, hb5⟩
  have C5 := Lib.hid (C4.out.below hb5)
  have C5' := Lib.hid (C3'.out.below hb5)
  have D5 := Lib.hid (bt D4.out hb5)
  have R5 := Lib.hid (R4.out.kept hb5)
  clear hb5 C4 C3' D4 R4 HZ
  obtain ⟨c0, c1, c2, c3, c4, c5⟩ := C5.out.cell6
  obtain ⟨d0, d1, d2, d3, d4, d5⟩ := C5'.out.cell6
  have HS := Lib.hid (same_any bat0 bat0 batOk0 batOk0 _ _ w5 (R1.out.kept D5.out) R5.out)
  rw [Cr.same_iff.2 rfl] at HS
  go_wp2_with fail
  refine HS.out.mono ?_
  rintro e w6 ⟨rfl, hb6⟩
  have C6' := Lib.hid (C5'.out.below hb6)
  have D6 := Lib.hid (bt D5.out hb6)
  clear hb6 C5 C5' D5 HS c0 c1 c2 c3 c4 c5 d0 d1 d2 d3 d4 d5 R5
  obtain ⟨d0, d1, d2, d3, d4, d5⟩ := C6'.out.cell6
  have HG := Lib.hid (good_any bat0 batOk0 _ w6 (R1.out.kept D6.out))
  rw [good0] at HG
  go_wp2_with fail
  refine HG.out.mono ?_
  rintro e w7 ⟨rfl, hb7⟩
  have C7' := Lib.hid (C6'.out.below hb7)
  have D7 := Lib.hid (bt D6.out hb7)
  clear hb7 C6' D6 HG d0 d1 d2 d3 d4 d5
  obtain ⟨d0, d1, d2, d3, d4, d5⟩ := C7'.out.cell6
  have HF := Lib.hid (fits_any bat0.recs batOk0.2.2.2.2.2.2 batOk0.2.2.2.2.2.1 _ w7 (R1.out.kept D7.out))
  rw [fits0] at HF
  go_wp2_with fail
  refine HF.out.mono ?_
  rintro e w8 ⟨rfl, hb8⟩
  have D8 := Lib.hid (bt D7.out hb8)
  clear hb8 C7' D7 HF d0 d1 d2 d3 d4 d5
  have HN := Lib.hid (fits_any [] (fun x h => by cases h) (by unfold maxLen; decide) (.slice none 0 0) w8 (recs_none _))
  rw [show Cr.fits [] = false from rfl] at HN
  go_wp2_with fail
  refine HN.out.mono ?_
  rintro e w9 ⟨rfl, hb9⟩
  have D9 := Lib.hid (bt B1.out (bt D8.out hb9))
  clear hb9
  go_wp2
  go_ret
  exact ⟨rfl, D9.out⟩

end Go.Proofs.YtegaonoobjeneaaDoor
