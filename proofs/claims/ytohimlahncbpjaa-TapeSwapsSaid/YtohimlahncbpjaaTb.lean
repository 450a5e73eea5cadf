/-
  The tape's small functions, walked: New, ready, isName, find, Off, act, Read, Down, Acts, Life, Arm.
  Conditions: none but the tape's form.
-/
import Derived.Test.YtohimlahncbpjaaRows
import Derived.Test.YtohimlahncbpjaaTa
import Derived.OwnWalk
import Derived.Deep.Cut
import Derived.BigRegion
set_option linter.unusedVariables false
set_option linter.unusedSimpArgs false
namespace Go.Proofs.Ytohimlahncbpjaa
open Go.RowKit

theorem tape_cells {w : World} {O : Nat → Prop} {p m : Nat} {t : Tp} (h : TapeW w O p m t) :
    w.cell? ⟨p, 0, none⟩ = some (.map (some m)) ∧ w.cell? ⟨p, 1, none⟩ = some (.int .i64 t.room) ∧ w.cell? ⟨p, 2, none⟩ = some (.bool t.down) ∧ w.cell? ⟨p, 3, none⟩ = some (.int .i64 t.acts) ∧ w.cell? ⟨p, 4, none⟩ = some (.int .i64 t.armed) ∧ w.cell? ⟨p, 5, none⟩ = some (.int .i64 t.life) := h.P.cell6
def readyV (t : Tp) : Int := if t.down then 10 else 0
theorem ready_any (O : Nat → Prop) (p m : Nat) (t : Tp) (w : World) (h : TapeW w O p m t) :
    Calls Try.prog 25 #[.pointer (some ⟨p, 0, none⟩)] w fun e w' => e = .returned (.int .i64 (readyV t)) ∧ w = w' := by
  obtain ⟨c0, c1, c2, c3, c4, c5⟩ := tape_cells h
  have HV : Hid (readyV t = if t.down then 10 else 0) := rfl
  clear h
  generalize t.down = d at *
  go_enter Try.func25, Try.ntmps25
  cases d with
  | true =>
    go_wp2
    go_ret
    exact ⟨by rw [HV.out]; rfl, rfl⟩
  | false =>
    go_wp2
    go_ret
    exact ⟨by rw [HV.out]; rfl, rfl⟩
theorem ready_nil (w : World) : Calls Try.prog 25 #[.pointer none] w fun e w' => e = .returned (.int .i64 2) ∧ w = w' := by
  go_enter Try.func25, Try.ntmps25
  go_wp2
  go_ret
  exact ⟨rfl, rfl⟩
def isNm (s : List UInt8) : Bool := decide (s ≠ []) && decide (s.length ≤ 32)
theorem isName_any (s : List UInt8) (w : World) : Calls Try.prog 26 #[.string ⟨s.toArray⟩] w fun e w' => e = .returned (.bool (isNm s)) ∧ w = w' := by
  have HV : Hid (isNm s = (decide (s ≠ []) && decide (s.length ≤ 32))) := rfl
  cases s with
  | nil =>
    go_enter Try.func26, Try.ntmps26
    go_wp2
    go_ret
    exact ⟨rfl, rfl⟩
  | cons a s =>
    by_cases hl : (a :: s).length ≤ 32
    · have HX : Hid (isNm (a :: s) = true) := by rw [Hid, HV.out, decide_eq_true hl]; rfl
      simp only [List.length_cons] at hl
      go_enter Try.func26, Try.ntmps26
      go_wp2
      go_ret
      exact ⟨by rw [HX.out]; simp; omega, rfl⟩
    · have HX : Hid (isNm (a :: s) = false) := by rw [Hid, HV.out, decide_eq_false hl]; simp
      simp only [List.length_cons] at hl
      go_enter Try.func26, Try.ntmps26
      go_wp2
      go_ret
      exact ⟨by rw [HX.out]; simp; omega, rfl⟩
theorem zeroF (w : World) : (zeroValue 51).run Try.prog w = .ok (.pointer none) w := by kernel_rfl
/-- What find hands back. -/
def findV (t : Tp) (n : List UInt8) : Value :=
  if t.down then .tuple #[.pointer none, .int .i64 10] else
  match getF t.files n with
  | none => .tuple #[.pointer none, .int .i64 12]
  | some f => .tuple #[f.ptr, .int .i64 0]
set_option maxRecDepth 20000 in
set_option maxHeartbeats 800000 in
theorem find_any (O : Nat → Prop) (p m : Nat) (t : Tp) (n : List UInt8) (w : World) (h : TapeW w O p m t) :
    Calls Try.prog 22 #[.pointer (some ⟨p, 0, none⟩), .string ⟨n.toArray⟩] w fun e w' => e = .returned (findV t n) ∧ w = w' := by
  have H := Lib.hid h
  have hlk := h.M.lookup (P := Try.prog) (T := 48) Try.underlying48 Try.underlying9 n (z := .pointer none) zeroF
  rw [look_fmap] at hlk
  obtain ⟨c0, c1, c2, c3, c4, c5⟩ := tape_cells h
  clear h
  go_enter Try.func22, Try.ntmps22
  go_wp2_with fail
  refine (ready_any O p m t w H.out).mono ?_
  rintro e w1 ⟨rfl, rfl⟩
  cases hd : t.down with
  | true =>
    rw [show readyV t = 10 from by rw [readyV, hd]; rfl]
    have HX : Hid (findV t n = .tuple #[.pointer none, .int .i64 10]) := by rw [Hid, findV, hd]; rfl
    clear hd hlk
    go_wp2
    go_ret2
    exact ⟨by rw [HX.out]; rfl, rfl⟩
  | false =>
    rw [show readyV t = 0 from by rw [readyV, hd]; rfl]
    cases hg : getF t.files n with
    | none =>
      have HX : Hid (findV t n = .tuple #[.pointer none, .int .i64 12]) := by rw [Hid, findV, hd, hg]; rfl
      rw [hg] at hlk
      clear hd hg
      go_wp2
      go_ret2
      exact ⟨by rw [HX.out]; rfl, rfl⟩
    | some f =>
      have HX : Hid (findV t n = .tuple #[f.ptr, .int .i64 0]) := by rw [Hid, findV, hd, hg]; rfl
      rw [hg] at hlk
      clear hd hg
      go_wp2
      go_ret2
      exact ⟨by rw [HX.out]; rfl, rfl⟩
theorem find_nil (n : List UInt8) (w : World) :
    Calls Try.prog 22 #[.pointer none, .string ⟨n.toArray⟩] w fun e w' => e = .returned (.tuple #[.pointer none, .int .i64 2]) ∧ w = w' := by
  go_enter Try.func22, Try.ntmps22
  go_wp2_with fail
  refine (ready_nil w).mono ?_
  rintro e w1 ⟨rfl, rfl⟩
  go_wp2
  go_ret2
  exact ⟨rfl, rfl⟩
def readV (t : Tp) (n : List UInt8) : Value :=
  if t.down then .tuple #[.string ⟨#[]⟩, .int .i64 10] else
  match getF t.files n with
  | none => .tuple #[.string ⟨#[]⟩, .int .i64 12]
  | some f => .tuple #[.string ⟨f.data.toArray⟩, .int .i64 0]
set_option maxRecDepth 20000 in
set_option maxHeartbeats 800000 in
theorem read_any (O : Nat → Prop) (p m : Nat) (t : Tp) (n : List UInt8) (w : World) (h : TapeW w O p m t) :
    Calls Try.prog 10 #[.pointer (some ⟨p, 0, none⟩), .string ⟨n.toArray⟩] w fun e w' => e = .returned (readV t n) ∧ w = w' := by
  have H := Lib.hid h
  have HF := Lib.hid (find_any O p m t n w h)
  clear h
  go_enter Try.func10, Try.ntmps10
  go_wp2_with fail
  refine HF.out.mono ?_
  rintro e w1 ⟨rfl, rfl⟩
  cases hd : t.down with
  | true =>
    rw [show findV t n = .tuple #[.pointer none, .int .i64 10] from by rw [findV, hd]; rfl]
    have HX : Hid (readV t n = .tuple #[.string ⟨#[]⟩, .int .i64 10]) := by rw [Hid, readV, hd]; rfl
    clear hd
    go_wp2
    go_ret2
    exact ⟨by rw [HX.out]; rfl, rfl⟩
  | false =>
    cases hg : getF t.files n with
    | none =>
      rw [show findV t n = .tuple #[.pointer none, .int .i64 12] from by rw [findV, hd, hg]; rfl]
      have HX : Hid (readV t n = .tuple #[.string ⟨#[]⟩, .int .i64 12]) := by rw [Hid, readV, hd, hg]; rfl
      clear hd hg
      go_wp2
      go_ret2
      exact ⟨by rw [HX.out]; rfl, rfl⟩
    | some f =>
      rw [show findV t n = .tuple #[f.ptr, .int .i64 0] from by rw [findV, hd, hg]; rfl]
      have HX : Hid (readV t n = .tuple #[.string ⟨f.data.toArray⟩, .int .i64 0]) := by rw [Hid, readV, hd, hg]; rfl
      have CF := H.out.F f (getF_mem hg).1
      have f0 : w.cell? ⟨f.blk, 0, none⟩ = some (.string ⟨f.data.toArray⟩) := CF.cell 0
      clear hd hg CF
      go_wp2
      go_ret2
      exact ⟨by rw [HX.out]; rfl, rfl⟩
theorem read_nil (n : List UInt8) (w : World) :
    Calls Try.prog 10 #[.pointer none, .string ⟨n.toArray⟩] w fun e w' => e = .returned (.tuple #[.string ⟨#[]⟩, .int .i64 2]) ∧ w = w' := by
  go_enter Try.func10, Try.ntmps10
  go_wp2_with fail
  refine (find_nil n w).mono ?_
  rintro e w1 ⟨rfl, rfl⟩
  go_wp2
  go_ret2
  exact ⟨rfl, rfl⟩
theorem down_any (O : Nat → Prop) (p m : Nat) (t : Tp) (w : World) (h : TapeW w O p m t) :
    Calls Try.prog 19 #[.pointer (some ⟨p, 0, none⟩)] w fun e w' => e = .returned (.bool t.down) ∧ w = w' := by
  obtain ⟨c0, c1, c2, c3, c4, c5⟩ := tape_cells h
  clear h
  go_enter Try.func19, Try.ntmps19
  go_wp2
  go_ret
  exact ⟨rfl, rfl⟩
theorem down_nil (w : World) : Calls Try.prog 19 #[.pointer none] w fun e w' => e = .returned (.bool true) ∧ w = w' := by
  go_enter Try.func19, Try.ntmps19
  go_wp2
  go_ret
  exact ⟨rfl, rfl⟩
theorem acts_any (O : Nat → Prop) (p m : Nat) (t : Tp) (w : World) (h : TapeW w O p m t) :
    Calls Try.prog 20 #[.pointer (some ⟨p, 0, none⟩)] w fun e w' => e = .returned (.int .i64 t.acts) ∧ w = w' := by
  obtain ⟨c0, c1, c2, c3, c4, c5⟩ := tape_cells h
  clear h
  go_enter Try.func20, Try.ntmps20
  go_wp2
  go_ret
  exact ⟨rfl, rfl⟩
theorem life_any (O : Nat → Prop) (p m : Nat) (t : Tp) (w : World) (h : TapeW w O p m t) :
    Calls Try.prog 16 #[.pointer (some ⟨p, 0, none⟩)] w fun e w' => e = .returned (.int .i64 t.life) ∧ w = w' := by
  obtain ⟨c0, c1, c2, c3, c4, c5⟩ := tape_cells h
  clear h
  go_enter Try.func16, Try.ntmps16
  go_wp2
  go_ret
  exact ⟨rfl, rfl⟩
/-- An operation's end: what it says, the tape behind it. -/
def OpPost (O : Nat → Prop) (p m : Nat) (w : World) (v : Value) (t' : Tp) (e : Ending) (w' : World) : Prop :=
  e = .returned v ∧ TapeW w' O p m t' ∧ Keeps O w w'
def offT (t : Tp) : Tp := if t.down then t else { t with down := true, armed := 0, life := t.life + 1 }
set_option maxRecDepth 20000 in
set_option maxHeartbeats 800000 in
theorem off_any (O : Nat → Prop) (p m : Nat) (t : Tp) (w : World) (h : TapeW w O p m t) (hok : TapeOk t) :
    Calls Try.prog 14 #[.pointer (some ⟨p, 0, none⟩)] w (OpPost O p m w (.tuple #[]) (offT t)) := by
  have H := Lib.hid h
  obtain ⟨c0, c1, c2, c3, c4, c5⟩ := tape_cells h
  have l0 := hok.l0
  have l1 := hok.l1
  have cf2 := h.P.free 2
  have cf4 := h.P.free 4
  have cf5 := h.P.free 5
  clear h hok
  cases hd : t.down with
  | true =>
    have HX : Hid (offT t = t) := by rw [Hid, offT, hd]; rfl
    rw [hd] at c2
    clear hd
    go_enter Try.func14, Try.ntmps14
    go_wp2
    refine bodyPost_ret (results_none rfl _ _ _) rfl ?_
    exact ⟨rfl, by rw [HX.out]; exact H.out, Keeps.refl _ _⟩
  | false =>
    have HX : Hid (offT t = { t with down := true, armed := 0, life := t.life + 1 }) := by rw [Hid, offT, hd]; rfl
    have T1 := Lib.hid (H.out.setP (t' := { t with down := true }) 2 (.bool true) rfl rfl)
    have T2 := Lib.hid (T1.out.setP (t' := { t with down := true, armed := 0 }) 4 (.int .i64 0) rfl rfl)
    have T3 := Lib.hid (T2.out.setP (t' := { t with down := true, armed := 0, life := t.life + 1 }) 5 (.int .i64 (t.life + 1)) rfl rfl)
    rw [hd] at c2
    clear hd
    go_enter Try.func14, Try.ntmps14
    go_wp2
    go_end0
    refine ⟨rfl, by rw [HX.out]; exact T3.out, ?_⟩
    exact ((Keeps.setCell O _ ⟨p, 2, none⟩ _ H.out.Op).trans (Keeps.setCell O _ ⟨p, 4, none⟩ _ H.out.Op)).trans (Keeps.setCell O _ ⟨p, 5, none⟩ _ H.out.Op)
/-- What an act does; what it says. -/
def actT (t : Tp) : Tp :=
  if t.armed = 0 then { t with acts := t.acts + 1 }
  else if 1 < t.armed then { t with acts := t.acts + 1, armed := t.armed - 1 }
  else { t with acts := t.acts + 1, down := true, armed := 0, life := t.life + 1 }
def actV (t : Tp) : Int := if t.armed = 1 then 10 else 0
set_option maxRecDepth 20000 in
set_option maxHeartbeats 800000 in
theorem act_any (O : Nat → Prop) (p m : Nat) (t : Tp) (w : World) (h : TapeW w O p m t) (hok : TapeOk t) (hd : t.down = false) (ha : t.acts < 1000000000) (hl : t.life < 1000000000) :
    Calls Try.prog 27 #[.pointer (some ⟨p, 0, none⟩)] w (OpPost O p m w (.int .i64 (actV t)) (actT t)) := by
  have H := Lib.hid h
  obtain ⟨c0, c1, c2, c3, c4, c5⟩ := tape_cells h
  have HK := Lib.hid hok
  have a0 := hok.a0
  have a1 := hok.a1
  have m0 := hok.m0
  have m1 := hok.m1
  have cf3 := h.P.free 3
  have cf4 := h.P.free 4
  have T1 := Lib.hid (h.setP (t' := { t with acts := t.acts + 1 }) 3 (.int .i64 (t.acts + 1)) rfl rfl)
  have K1 : Hid (Keeps O w (w.setCell ⟨p, 3, none⟩ (.int .i64 (t.acts + 1)))) := Keeps.setCell O _ ⟨p, 3, none⟩ _ h.Op
  clear h hok
  go_enter Try.func27, Try.ntmps27
  by_cases h0 : t.armed = 0
  · have HX : Hid (actT t = { t with acts := t.acts + 1 }) := by rw [Hid, actT, if_pos h0]
    have HY : Hid (actV t = 0) := by rw [Hid, actV, if_neg (by omega)]
    rw [h0] at c4
    clear h0 m0 m1
    go_wp2
    go_ret
    exact ⟨by rw [HY.out]; rfl, by rw [HX.out]; exact T1.out, K1.out⟩
  · by_cases h1 : 1 < t.armed
    · have HX : Hid (actT t = { t with acts := t.acts + 1, armed := t.armed - 1 }) := by rw [Hid, actT, if_neg h0, if_pos h1]
      have HY : Hid (actV t = 0) := by rw [Hid, actV, if_neg (by omega)]
      have hz : (t.armed == 0) = false := by rw [beq_eq_false_iff_ne]; exact h0
      have T2 := Lib.hid (T1.out.setP (t' := { t with acts := t.acts + 1, armed := t.armed - 1 }) 4 (.int .i64 (t.armed - 1)) rfl rfl)
      have K2 : Hid (Keeps O w ((w.setCell ⟨p, 3, none⟩ (.int .i64 (t.acts + 1))).setCell ⟨p, 4, none⟩ (.int .i64 (t.armed - 1)))) := K1.out.trans (Keeps.setCell O _ ⟨p, 4, none⟩ _ H.out.Op)
      generalize t.armed = a at *
      go_wp2
      go_ret
      exact ⟨by rw [HY.out]; rfl, by rw [HX.out]; exact T2.out, K2.out⟩
    · have he : t.armed = 1 := by omega
      have HX : Hid (actT t = { t with acts := t.acts + 1, down := true, armed := 0, life := t.life + 1 }) := by rw [Hid, actT, if_neg h0, if_neg h1]
      have HY : Hid (actV t = 10) := by rw [Hid, actV, if_pos he]
      have T2 := Lib.hid (T1.out.setP (t' := { t with acts := t.acts + 1, armed := 0 }) 4 (.int .i64 0) rfl rfl)
      have K2 : Hid (Keeps O w ((w.setCell ⟨p, 3, none⟩ (.int .i64 (t.acts + 1))).setCell ⟨p, 4, none⟩ (.int .i64 0))) := K1.out.trans (Keeps.setCell O _ ⟨p, 4, none⟩ _ H.out.Op)
      have OK2 : Hid (TapeOk { t with acts := t.acts + 1, armed := 0 }) := ⟨HK.out.r0, HK.out.r1, HK.out.tot, HK.out.safe, by show (0 : Int) ≤ t.acts + 1; omega, by show t.acts + 1 ≤ 1000000000; omega, by show (0 : Int) ≤ 0; omega, by show (0 : Int) ≤ 9223372036854775807; omega, HK.out.l0, HK.out.l1, HK.out.nm, HK.out.cnt⟩
      rw [he] at c4
      clear h0 h1 he m0 m1
      go_wp2_with fail
      refine (off_any O p m _ _ T2.out OK2.out).mono ?_
      rintro e w5 ⟨rfl, h5, k5⟩
      have T5 := Lib.hid h5
      have K5 := Lib.hid (K2.out.trans k5)
      clear h5 k5
      go_wp2
      go_ret
      refine ⟨by rw [HY.out]; rfl, ?_, K5.out⟩
      rw [HX.out]
      have := T5.out
      simp only [offT, hd] at this
      exact this
theorem arm_any (O : Nat → Prop) (p m : Nat) (t : Tp) (n : Int) (hn : 0 ≤ n) (w : World) (h : TapeW w O p m t) :
    Calls Try.prog 17 #[.pointer (some ⟨p, 0, none⟩), .int .i64 n] w (OpPost O p m w (.tuple #[]) { t with armed := n }) := by
  obtain ⟨c0, c1, c2, c3, c4, c5⟩ := tape_cells h
  have cf4 := h.P.free 4
  have T1 := Lib.hid (h.setP (t' := { t with armed := n }) 4 (.int .i64 n) rfl rfl)
  have K1 : Hid (Keeps O w (w.setCell ⟨p, 4, none⟩ (.int .i64 n))) := Keeps.setCell O _ ⟨p, 4, none⟩ _ h.Op
  clear h
  go_enter Try.func17, Try.ntmps17
  go_wp2
  go_end0
  exact ⟨rfl, T1.out, K1.out⟩
/-- A new tape. -/
def newT (room : Int) : Tp := ⟨[], room, false, 0, 0, 0⟩
theorem newTape_any (room : Int) (h0 : 0 ≤ room) (h1 : room ≤ 4194304) (w : World) :
    Calls Try.prog 9 #[.int .i64 room] w fun e w' => e = .returned (.pointer (some ⟨w.heap.size + 1, 0, none⟩)) ∧ TapeW w' (fun k => w.heap.size ≤ k ∧ k < w.heap.size + 2) (w.heap.size + 1) w.heap.size (newT room) ∧ Below w.heap.size w w' := by
  have hM := Mp.new w
  have C1 : Hid (Cl ((w.alloc (.map #[] 0)).alloc (.cells #[.map (some w.heap.size), .int .i64 room, .bool false, .int .i64 0, .int .i64 0, .int .i64 0] 50)) (w.heap.size + 1) ((newT room).cells w.heap.size) 50) := by
    have := Cl.new (w.alloc (.map #[] 0)) ((newT room).cells w.heap.size) 50
    rwa [show (w.alloc (.map #[] 0)).heap.size = w.heap.size + 1 from by simp] at this
  have M1 : Hid (Mp ((w.alloc (.map #[] 0)).alloc (.cells #[.map (some w.heap.size), .int .i64 room, .bool false, .int .i64 0, .int .i64 0, .int .i64 0] 50)) w.heap.size []) := hM.kept (S := fun _ => False) (Keeps.alloc _ _ _) id
  have B1 : Hid (Below w.heap.size w ((w.alloc (.map #[] 0)).alloc (.cells #[.map (some w.heap.size), .int .i64 room, .bool false, .int .i64 0, .int .i64 0, .int .i64 0] 50))) := ((Below.refl _ _).alloc (Nat.le_refl _) _).alloc (by simp) _
  clear hM
  have hmk : ∀ w : World, (Instr.makeMap 48 none).run Try.prog w = .ok (.map (some w.heap.size)) (w.alloc (.map #[] 0)) := fun _ => rfl
  go_enter Try.func9, Try.ntmps9
  go_wp2
  go_ret
  refine ⟨rfl, ⟨C1.out, M1.out, fun f hf => (by cases hf), ⟨by omega, by omega⟩, ⟨by omega, by omega⟩, fun f hf => (by cases hf), List.nodup_nil, fun k hk => ?_⟩, B1.out⟩
  simp; omega

end Go.Proofs.Ytohimlahncbpjaa
