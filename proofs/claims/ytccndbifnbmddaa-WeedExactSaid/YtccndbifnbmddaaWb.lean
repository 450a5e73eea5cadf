/-
  The greatest offset of each key, walked; isTime.
  Conditions: none but the model's longest length.
-/
import Derived.Test.YtccndbifnbmddaaWa
import Derived.Test.YtccndbifnbmddaaCl
import Derived.OwnWalk
import Derived.Deep.Cut
set_option linter.unusedVariables false
set_option linter.unusedSimpArgs false
namespace Go.Proofs.Ytccndbifnbmddaa
open Go.RowKit

def isT (n : Int) : Bool := decide (0 ≤ n) && decide (n ≤ 1099511627776)
set_option maxHeartbeats 800000 in
theorem isTime_any (n : Int) (w : World) : Calls Try.prog 24 #[.int .i64 n] w fun e w' => e = .returned (.bool (isT n)) ∧ w = w' := by
  by_cases h0 : 0 ≤ n
  · have HE : Hid (isT n = decide (n ≤ 1099511627776)) := by rw [Hid, isT, decide_eq_true h0]; rfl
    by_cases h1 : n ≤ 1099511627776
    · go_enter Try.func24, Try.ntmps24
      go_wp2
      go_ret
      refine ⟨?_, rfl⟩
      rw [HE.out, decide_eq_true h1]
      rfl
    · go_enter Try.func24, Try.ntmps24
      go_wp2
      go_ret
      refine ⟨?_, rfl⟩
      rw [HE.out, decide_eq_false (by omega)]
      rfl
  · have HE : Hid (isT n = false) := by simp [Hid, isT, h0]
    go_enter Try.func24, Try.ntmps24
    go_wp2
    go_ret
    exact ⟨by rw [HE.out]; rfl, rfl⟩
theorem zeroI (w : World) : (zeroValue 3).run Try.prog w = .ok (.int .i64 0) w := by kernel_rfl
def LastPost (w : World) (r : LM) (e : Ending) (w' : World) : Prop := ∃ m, e = .returned (.map (some m)) ∧ Mp w' m (imap r) ∧ w.heap.size ≤ m ∧ Below w.heap.size w w'
set_option maxRecDepth 20000 in
set_option maxHeartbeats 3200000 in
theorem last_any (l : List Cr.Batch) (high : Int) (v : Value) (w : World) (h : Bats w v l) (hl : l.length ≤ maxLen) (hrl : ∀ b ∈ l, b.recs.length ≤ maxLen) :
    Calls Try.prog 23 #[v, .int .i64 high] w (LastPost w (lastL high l)) := by
  have HB := Lib.hid h
  have HR := Lib.hid hrl
  obtain ⟨a, cap, rfl⟩ := h.form
  unfold maxLen at hl
  clear h hrl
  have hmk : ∀ w0 : World, (Instr.makeMap 50 none).run Try.prog w0 = .ok (.map (some w0.heap.size)) (w0.alloc (.map #[] 0)) := fun _ => rfl
  have M0 : Hid (Mp (w.alloc (.map #[] 0)) w.heap.size (imap [])) := Mp.new w
  have B0 : Hid (Below w.heap.size w (w.alloc (.map #[] 0))) := (Below.refl _ _).alloc (Nat.le_refl _) _
  go_enter Try.func23, Try.ntmps23
  go_wp2
  generalize w.alloc (.map #[] 0) = w0 at *
  generalize hm : w.heap.size = m at M0 ⊢
  have LE := Lib.hid (Nat.le_of_eq hm)
  clear hm hmk
  go_loopw [15] (fun i wr => ∃ k : Nat, i = .int .i64 k ∧ k ≤ l.length ∧ Mp wr m (imap ((l.take k).foldl (lastB high) [])) ∧ Below w.heap.size w wr) (fun i _ => l.length - (intOf i).toNat)
  case atStart => exact ⟨0, rfl, by omega, M0.out, B0.out⟩
  case round =>
    obtain ⟨k, rfl, hk, hM, hbel⟩ := hrel
    have HM := Lib.hid hM
    have HBL := Lib.hid hbel
    clear hM hbel M0 B0
    by_cases hlt : k < l.length
    · obtain ⟨b, hb⟩ : ∃ b, l[k]? = some b := ⟨l[k], by simp [hlt]⟩
      have HNX := Lib.hid (fold_take (lastB high) [] l k b hb)
      have hbl := HR.out b (List.mem_of_getElem? hb)
      obtain ⟨g, off, cap', rv, he, hg, p0, p1, p2, p3, p4, p5, hrec⟩ := HB.out.get HBL.out hb
      injection he with he1 he2 he3
      subst he1 he3
      have HRV := Lib.hid hrec
      obtain ⟨ar, capr, rfl⟩ := hrec.form
      generalize (l.take k).foldl (lastB high) [] = m0 at *
      unfold maxLen at hbl
      have CB : Hid (Cl (wr.alloc (.cells #[.int .i64 b.base, .int .i64 b.count, .int .i64 b.prod, .int .i64 b.seq, .int .i64 b.time, .slice ar b.recs.length capr] 42)) wr.heap.size [.int .i64 b.base, .int .i64 b.count, .int .i64 b.prod, .int .i64 b.seq, .int .i64 b.time, .slice ar b.recs.length capr] 42) := Cl.new wr _ _
      have M1 := Lib.hid (HM.out.below ((Below.refl wr.heap.size wr).alloc (Nat.le_refl _) (.cells #[.int .i64 b.base, .int .i64 b.count, .int .i64 b.prod, .int .i64 b.seq, .int .i64 b.time, .slice ar b.recs.length capr] 42)))
      have B1 := Lib.hid (bt HBL.out ((Below.refl wr.heap.size wr).alloc (Nat.le_refl _) (.cells #[.int .i64 b.base, .int .i64 b.count, .int .i64 b.prod, .int .i64 b.seq, .int .i64 b.time, .slice ar b.recs.length capr] 42)))
      clear he2 hb hrec
      go_upto_region 5 with (fail)
      generalize wr.alloc (.cells #[.int .i64 b.base, .int .i64 b.count, .int .i64 b.prod, .int .i64 b.seq, .int .i64 b.time, .slice ar b.recs.length capr] 42) = w1 at *
      have c5 := CB.out.cell 5
      clear p0 p1 p2 p3 p4 p5
      go_wp2
      have M10 : Hid (Mp w1 m (imap ((b.recs.take 0).foldl (lastStep high) m0))) := M1.out
      clear M1 HM c5
      go_loopw [22] (fun i wz => ∃ j : Nat, i = .int .i64 j ∧ j ≤ b.recs.length ∧ Mp wz m (imap ((b.recs.take j).foldl (lastStep high) m0)) ∧ Below w.heap.size w wz) (fun i _ => b.recs.length - (intOf i).toNat)
      case atStart => exact ⟨0, rfl, by omega, M10.out, B1.out⟩
      case round =>
        obtain ⟨j, rfl, hj, hM, hbel⟩ := hrel
        have HM := Lib.hid hM
        have HBZ := Lib.hid hbel
        clear hM hbel M10 B1 CB
        by_cases hjt : j < b.recs.length
        · obtain ⟨x, hx⟩ : ∃ x, b.recs[j]? = some x := ⟨b.recs[j], by simp [hjt]⟩
          have HNJ := Lib.hid (fold_take (lastStep high) m0 b.recs j x hx)
          obtain ⟨g2, off2, cap2, he, hg2, q0, q1, q2, q3⟩ := HRV.out.get HBZ.out hx
          injection he with he1 he2 he3
          subst he1 he3
          clear he2 hx
          generalize (b.recs.take j).foldl (lastStep high) m0 = m1 at *
          have C9 : Hid (Cl (wr.alloc (.cells #[.int .i64 x.off, .string ⟨x.key.toArray⟩, .string ⟨x.val.toArray⟩, .bool x.gone] 44)) wr.heap.size [.int .i64 x.off, .string ⟨x.key.toArray⟩, .string ⟨x.val.toArray⟩, .bool x.gone] 44) := Cl.new wr _ _
          have M2 := Lib.hid (HM.out.below ((Below.refl wr.heap.size wr).alloc (Nat.le_refl _) (.cells #[.int .i64 x.off, .string ⟨x.key.toArray⟩, .string ⟨x.val.toArray⟩, .bool x.gone] 44)))
          have B2 := Lib.hid (bt HBZ.out ((Below.refl wr.heap.size wr).alloc (Nat.le_refl _) (.cells #[.int .i64 x.off, .string ⟨x.key.toArray⟩, .string ⟨x.val.toArray⟩, .bool x.gone] 44)))
          go_upto_region 8 with (fail)
          generalize wr.alloc (.cells #[.int .i64 x.off, .string ⟨x.key.toArray⟩, .string ⟨x.val.toArray⟩, .bool x.gone] 44) = w2 at *
          generalize wr.heap.size = p9 at *
          clear q0 q1 q2 q3 HM HBZ
          have d0 := C9.out.cell 0
          have d1 := C9.out.cell 1
          have hlk := M2.out.lookup_ok (P := Try.prog) (T := 50) Try.underlying50 Try.underlying9 x.key (z := .int .i64 0) zeroI
          rw [look_imap] at hlk
          cases hlo : lookI m1 x.key with
          | none =>
            rw [hlo] at hlk
            by_cases hh : x.off < high
            · obtain ⟨w3, hup, hM3, hk3, hs3⟩ := M2.out.update (P := Try.prog) (T := 50) Try.underlying50 Try.underlying9 x.key (.int .i64 x.off)
              have M3 : Hid (Mp w3 m (imap (updI m1 x.key x.off))) := by rw [← upd_imap]; exact hM3
              have B3 := Lib.hid (B2.out.trans (hk3.toBelow B2.out.size (fun q hq e => by have := LE.out; omega)))
              have HX : Hid (lastStep high m1 x = updI m1 x.key x.off) := by rw [Hid, lastStep, if_pos (by simp [lastNew, hlo, hh])]
              clear hM3 hk3 hs3 hlo
              go_wp2
              go_roundw
              case rel => exact ⟨j + 1, by go_num, by omega, by rw [HNJ.out, HX.out]; exact M3.out, B3.out⟩
              case measure => simp [intOf]; omega
            · have HX : Hid (lastStep high m1 x = m1) := by rw [Hid, lastStep, if_neg (by simp [lastNew, hlo, hh])]
              clear hlo
              go_wp2
              go_roundw
              case rel => exact ⟨j + 1, by go_num, by omega, by rw [HNJ.out, HX.out]; exact M2.out, B2.out⟩
              case measure => simp [intOf]; omega
          | some n =>
            rw [hlo] at hlk
            by_cases hh : x.off < high
            · by_cases hn : n < x.off
              · obtain ⟨w3, hup, hM3, hk3, hs3⟩ := M2.out.update (P := Try.prog) (T := 50) Try.underlying50 Try.underlying9 x.key (.int .i64 x.off)
                have M3 : Hid (Mp w3 m (imap (updI m1 x.key x.off))) := by rw [← upd_imap]; exact hM3
                have B3 := Lib.hid (B2.out.trans (hk3.toBelow B2.out.size (fun q hq e => by have := LE.out; omega)))
                have HX : Hid (lastStep high m1 x = updI m1 x.key x.off) := by rw [Hid, lastStep, if_pos (by simp [lastNew, hlo, hh, hn])]
                clear hM3 hk3 hs3 hlo
                go_wp2
                go_roundw
                case rel => exact ⟨j + 1, by go_num, by omega, by rw [HNJ.out, HX.out]; exact M3.out, B3.out⟩
                case measure => simp [intOf]; omega
              · have HX : Hid (lastStep high m1 x = m1) := by rw [Hid, lastStep, if_neg (by simp [lastNew, hlo, hh, hn])]
                clear hlo
                go_wp2
                go_roundw
                case rel => exact ⟨j + 1, by go_num, by omega, by rw [HNJ.out, HX.out]; exact M2.out, B2.out⟩
                case measure => simp [intOf]; omega
            · have HX : Hid (lastStep high m1 x = m1) := by rw [Hid, lastStep, if_neg (by simp [lastNew, hlo, hh])]
              clear hlo
              go_wp2
              go_roundw
              case rel => exact ⟨j + 1, by go_num, by omega, by rw [HNJ.out, HX.out]; exact M2.out, B2.out⟩
              case measure => simp [intOf]; omega
        · obtain rfl : j = b.recs.length := by omega
          have HX : Hid ((b.recs.take b.recs.length).foldl (lastStep high) m0 = lastB high m0 b) := by rw [Hid, List.take_length]; rfl
          go_wp2
          go_roundw
          case rel => exact ⟨k + 1, by go_num, by omega, by rw [HNX.out, ← HX.out]; exact HM.out, HBZ.out⟩
          case measure => simp [intOf]; omega
    · obtain rfl : k = l.length := by omega
      have HX : Hid ((l.take l.length).foldl (lastB high) [] = lastL high l) := by rw [Hid, List.take_length]; rfl
      go_wp2
      go_ret
      exact ⟨m, rfl, by rw [← HX.out]; exact HM.out, LE.out, HBL.out⟩

end Go.Proofs.Ytccndbifnbmddaa
