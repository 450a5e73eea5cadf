/-
  Agent: a call that sends records.
  Conditions: none.
-/
import Derived.Test.YtkjbhkillkbcgaaDoorAn
import Derived.Test.YtkjbhkillkbcgaaDoorAo
set_option linter.unusedVariables false
set_option linter.unusedSimpArgs false
namespace Go.Proofs.YtkjbhkillkbcgaaDoor
open Go.RowKit

theorem off0_any (x : Cr.Rec) (hx : x.off = 0) (w : World) : Calls Tryd.prog 23 #[recV x] w fun e w' => e = .returned (.bool false) ∧ Below w.heap.size w w' := by
  obtain ⟨x0, xk, xv, xg⟩ := x
  dsimp only at hx
  subst hx
  have HB0 : Hid (Below w.heap.size w (w.alloc (.cells #[.int .i64 0, .string ⟨xk.toArray⟩, .string ⟨xv.toArray⟩, .bool xg] 57))) := (Below.refl _ _).alloc (Nat.le_refl _) _
  unfold recV
  dsimp only
  go_enter Tryd.func23, Tryd.ntmps23
  go_wp2
  go_ret
  exact ⟨rfl, HB0.out⟩
set_option maxHeartbeats 800000 in
theorem idx0_any (l : List Cr.Rec) (hok : ∀ x ∈ l, x.off = 0) (hl : l.length ≤ maxLen) (rv : Value) (w : World) (h : Recs w rv l) :
    Calls Tryd.prog 28 #[rv, .func (.func 23) #[] #[]] w fun e w' => e = .returned (.int .i64 (-1)) ∧ Below w.heap.size w w' := by
  have HZ := Lib.hid h
  have HR := Lib.hid hok
  obtain ⟨a, cap, rfl⟩ := h.form
  unfold maxLen at hl
  clear h hok
  go_enter Tryd.func28, Tryd.ntmps28
  go_wp2
  go_loopw [8] (fun i wr => ∃ k : Nat, i = .int .i64 k ∧ k ≤ l.length ∧ Below w.heap.size w wr) (fun i _ => l.length - (intOf i).toNat)
  case atStart => exact ⟨0, rfl, by omega, Below.refl _ _⟩
  case round =>
    obtain ⟨k, rfl, hk, hb⟩ := hrel
    have HB := Lib.hid hb
    clear hb
    by_cases hlt : k < l.length
    · obtain ⟨x, hx⟩ : ∃ x, l[k]? = some x := ⟨l[k], by simp [hlt]⟩
      have HN := Lib.hid (fun w => off0_any x (HR.out x (List.mem_of_getElem? hx)) w)
      obtain ⟨g, off, cap', he, hg, p0, p1, p2, p3⟩ := HZ.out.get HB.out hx
      injection he with he1 he2 he3
      subst he1 he3
      obtain ⟨x0, xk, xv, xg⟩ := x
      unfold recV at HN
      dsimp only at *
      clear he2
      go_wp2_with fail
      refine (HN.out _).mono ?_
      rintro e w5 ⟨rfl, hb5⟩
      have B5 := Lib.hid (bt HB.out hb5)
      clear hb5
      go_wp2
      go_roundw
      case rel => exact ⟨k + 1, by go_num, by omega, B5.out⟩
      case measure => simp [intOf]; omega
    · obtain rfl : k = l.length := by omega
      go_wp2
      go_ret
      exact ⟨rfl, HB.out⟩
theorem contains0_any (l : List Cr.Rec) (hok : ∀ x ∈ l, x.off = 0) (hl : l.length ≤ maxLen) (rv : Value) (w : World) (h : Recs w rv l) :
    Calls Tryd.prog 22 #[rv, .func (.func 23) #[] #[]] w fun e w' => e = .returned (.bool false) ∧ Below w.heap.size w w' := by
  have HI := Lib.hid (idx0_any l hok hl rv w h)
  clear h hok
  go_enter Tryd.func22, Tryd.ntmps22
  go_wp2_with fail
  refine HI.out.mono ?_
  rintro e w1 ⟨rfl, hb⟩
  have HB := Lib.hid hb
  clear hb
  go_wp2
  go_ret
  exact ⟨rfl, HB.out⟩
set_option maxRecDepth 20000 in
set_option maxHeartbeats 1600000 in
theorem right_prod (x : CallS) (a : Option Addr) (l cap : Nat) (hx : x.recs = .slice a l cap) (hk : x.kind = 1) (hl : x.group.length ≤ maxLen) (hp : 1 ≤ x.part ∧ x.part ≤ 3) (rl : List Cr.Rec) (hok : ∀ y ∈ rl, RecOk y ∧ y.off = 0) (hrl : rl.length ≤ maxLen) (hft : Cr.fits rl = true) (w : World) (hR : Recs w x.recs rl) :
    Calls Tryd.prog 13 #[callV x] w fun e w' => e = .returned (.bool true) ∧ Below w.heap.size w w' := by
  obtain ⟨kind, part, off, max, group, recs⟩ := x
  dsimp only at *
  subst hk hx
  have HR := Lib.hid hR
  have HO := Lib.hid hok
  clear hR hok
  unfold callV callC
  go_enter Tryd.func13, Tryd.ntmps13
  obtain ⟨w1, hw1, C1, B1⟩ := right_start (w := w) ⟨1, part, off, max, group, .slice a l cap⟩ a l cap 1 part off max group
  go_upto_region 1 with (fail)
  first | rw [hw1] | skip
  clear hw1
  generalize hp9 : w.heap.size = p at C1 ⊢
  have BW : Hid (∀ W, Below w.heap.size w W → Below w.heap.size w W) := fun W h => h
  clear hp9
  have x4 := C1.out.cell 4
  simp only [List.getElem?_cons_zero, List.getElem?_cons_succ] at x4
  have T1 := Lib.hid (one_txt w1 group)
  have C2 := Lib.hid (C1.out.alloc (.cells #[.string ⟨group.toArray⟩] 9))
  have B2 := Lib.hid (B1.out.alloc B1.out.size (.cells #[.string ⟨group.toArray⟩] 9))
  have HG := Lib.hid (good_any (.slice (some ⟨w1.heap.size, 0, none⟩) 1 1) [group] _ T1.out (by simp [maxLen]) (by simpa using hl))
  go_wp2_with fail
  refine HG.out.mono ?_
  clear HG T1
  rintro e w3 ⟨rfl, hb3⟩
  have C3 := Lib.hid (C2.out.below hb3)
  have B3 := Lib.hid (bt B2.out hb3)
  clear hb3 C2 B2 x4
  have x0 := C3.out.cell 0
  have x1 := C3.out.cell 1
  have x2 := C3.out.cell 2
  have x3 := C3.out.cell 3
  have x5 := C3.out.cell 5
  simp only [List.getElem?_cons_zero, List.getElem?_cons_succ] at x0 x1 x2 x3 x5
  go_wp2_with fail
  refine (within_any part 0 3 w3).mono ?_
  rintro e w4 ⟨rfl, rfl⟩
  go_wp2_with fail
  refine (within_any off 0 1099511627776 w3).mono ?_
  rintro e w4 ⟨rfl, rfl⟩
  have e1 : (decide (0 ≤ part) && decide (part ≤ 3)) = true := by simp; omega
  try simp only [e1]
  obtain ⟨hp1, hp2⟩ := hp
  have B1w : Hid (Below w.heap.size w w3) := BW.out w3 B3.out
  have HF := Lib.hid (fits_any rl (fun y hy => (HO.out y hy).1) hrl (.slice a l cap) w3 (HR.out.kept B1w.out))
  rw [hft] at HF
  go_wp2_with fail
  refine HF.out.mono ?_
  rintro e w5 ⟨rfl, hb5⟩
  have B5 := Lib.hid (bt B1w.out hb5)
  have C5 := Lib.hid (C3.out.below hb5)
  clear hb5 HF x0 x1 x2 x3 x5
  have x5 := C5.out.cell 5
  simp only [List.getElem?_cons_zero, List.getElem?_cons_succ] at x5
  have HC := Lib.hid (contains0_any rl (fun y hy => (HO.out y hy).2) hrl (.slice a l cap) w5 (HR.out.kept B5.out))
  go_wp2_with fail
  refine HC.out.mono ?_
  rintro e w6 ⟨rfl, hb6⟩
  have B6 := Lib.hid (bt B5.out hb6)
  clear hb6 HC x5
  go_wp2
  go_ret
  exact ⟨rfl, B6.out⟩

def prodX (rv : Value) : CallS := ⟨1, 1, 0, 0, [], rv⟩
theorem call_prod (g : Nat) (s : AgS) (gl : LM) (rv : Value) (rl : List Cr.Rec) (hok : ∀ y ∈ rl, RecOk y ∧ y.off = 0) (hrl : rl.length ≤ 1000000) (hft : Cr.fits rl = true) (w : World) (hR : Recs w rv rl) (h : AgI w g s gl) (hb0 : s.busy = false) (ho : s.out = .slice none 0 0) (hn : s.n ≤ 999999) :
    Calls Tryd.prog 7 #[.pointer (some ⟨g, 0, none⟩), callV (prodX rv)] w (CallPost w g s gl (prodX rv) (fun rq => ∃ r, rq = ⟨s.client, s.n + 1, 1, 1, s.s1, 0, 0, 0, [], [], r⟩)) := by
  obtain ⟨a, cap, hrv⟩ := hR.form
  refine call_any g s gl (prodX rv) _ rl w h hb0 ho hR hrl hn ?_ ?_
  · exact fun W hW => right_prod (prodX rv) a rl.length cap hrv rfl (by simp [prodX]) ⟨by simp [prodX], by simp [prodX]⟩ rl hok (Nat.le_trans hrl (by unfold maxLen; omega)) hft W (hR.kept hW)
  · intro W a' l' c' hr hk ha hm hal
    refine (request_prod g _ { prodX rv with recs := .slice a' l' c' } a' l' c' rfl rl hrl W ha rfl rfl hr hal h.cl).mono ?_
    rintro e w' ⟨r, rfl, hrr, hoo, hb⟩
    have h1 := Cl.lt ha
    have h2 := hm.lt
    have hne : ∀ j, r.ownBlock = some j → j ≠ g ∧ j ≠ s.gens := fun j hj => by
      have := hoo j hj
      have h3 : s.gens < W.heap.size := h2
      exact ⟨by omega, by omega⟩
    exact ⟨_, rfl, ⟨r, rfl⟩, by simp, ⟨rl, hrr, hrl, hne⟩, hb⟩

end Go.Proofs.YtkjbhkillkbcgaaDoor
