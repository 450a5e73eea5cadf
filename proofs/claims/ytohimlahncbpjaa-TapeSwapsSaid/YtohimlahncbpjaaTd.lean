/-
  The tape's Append, Sync, Swap, walked.
  Conditions: none but the tape's form.
-/
import Derived.Test.YtohimlahncbpjaaTc
set_option linter.unusedVariables false
set_option linter.unusedSimpArgs false
namespace Go.Proofs.Ytohimlahncbpjaa
open Go.RowKit

/-- An operation that may make blocks: its end. -/
def NewPost (O : Nat → Prop) (p m : Nat) (w : World) (v : Value) (t' : Tp) (e : Ending) (w' : World) : Prop :=
  e = .returned v ∧ ∃ O', TapeW w' O' p m t' ∧ Sp O w O' w'
theorem OpPost.toNew {O : Nat → Prop} {p m : Nat} {w : World} {v : Value} {t' : Tp} {e : Ending} {w' : World} (h : OpPost O p m w v t' e w') : NewPost O p m w v t' e w' := ⟨h.1, O, h.2.1, Sp.of h.2.2⟩
theorem actT_files (t : Tp) : (actT t).files = t.files ∧ (actT t).room = t.room := by
  unfold actT
  split
  · exact ⟨rfl, rfl⟩
  · split <;> exact ⟨rfl, rfl⟩
theorem actT_with (t : Tp) (fs : List TF) : actT { t with files := fs } = { actT t with files := fs } := by
  unfold actT
  dsimp only
  split
  · rfl
  · split <;> rfl
theorem nameOf_some {n : List UInt8} (h : isNm n = true) : n ≠ [] ∧ n.length ≤ 32 := by
  simp only [isNm, Bool.and_eq_true, decide_eq_true_eq] at h
  exact h
def addD (s : List UInt8) (f : TF) : TF := { f with data := f.data ++ s }
theorem addD_same (s : List UInt8) : ∀ f, (addD s f).name = f.name ∧ (addD s f).blk = f.blk := fun _ => ⟨rfl, rfl⟩
/-- What stands ahead of the act, of an Append that is let through. -/
def appT (t : Tp) (n s : List UInt8) (b : Nat) : Tp :=
  match getF t.files n with
  | some f => { t with files := modF t.files n (addD s) }
  | none => { t with files := t.files ++ [⟨n, s, 0, b⟩] }
def appFits (t : Tp) (n s : List UInt8) : Prop := isNm n = true ∧ (getF t.files n = none → t.files.length < 256) ∧ (s.length : Int) ≤ t.room - total t.files
theorem appT_ok {t : Tp} {n s : List UInt8} (h : TapeOk t) (b : Nat) (hl : (s.length : Int) ≤ t.room - total t.files) (hn : (t.files.map (·.name)).Nodup) (hi : isNm n = true) (hc : getF t.files n = none → t.files.length < 256) : TapeOk (appT t n s b) := by
  unfold appT
  cases hg : getF t.files n with
  | some f =>
    refine ⟨h.r0, h.r1, ?_, ?_, h.a0, h.a1, h.m0, h.m1, h.l0, h.l1, fun x hx => ?_, by rw [len_modF]; exact h.cnt⟩
    rotate_left 2
    · rcases mem_modF hn hx with ⟨f0, h1, rfl⟩ | ⟨h1, _⟩
      · exact h.nm f0 (getF_mem h1).1
      · exact h.nm x h1
    · have := total_modF (g := addD s) hg
      have h2 := h.tot
      simp only [addD, List.length_append] at this ⊢
      omega
    · intro x hx
      rcases mem_modF hn hx with ⟨f0, h1, rfl⟩ | ⟨h1, _⟩
      · have := h.safe f0 (getF_mem h1).1
        simp only [addD, List.length_append]; omega
      · exact h.safe x h1
  | none =>
    refine ⟨h.r0, h.r1, ?_, ?_, h.a0, h.a1, h.m0, h.m1, h.l0, h.l1, fun x hx => ?_, by simp; have := hc hg; omega⟩
    rotate_left 2
    · rcases List.mem_append.1 hx with hx | hx
      · exact h.nm x hx
      · simp only [List.mem_singleton] at hx; subst hx; exact (nameOf_some hi).2
    · have h2 := h.tot
      simp only [total_append]
      simp only [total, List.map_cons, List.map_nil, List.sum_cons, List.sum_nil] at h2 hl ⊢
      omega
    · intro x hx
      rcases List.mem_append.1 hx with hx | hx
      · exact h.safe x hx
      · simp only [List.mem_singleton] at hx; subst hx; exact Nat.zero_le _
theorem appT_more (t : Tp) (n s : List UInt8) (b : Nat) : (appT t n s b).down = t.down ∧ (appT t n s b).acts = t.acts ∧ (appT t n s b).life = t.life ∧ (appT t n s b).room = t.room ∧ (appT t n s b).armed = t.armed := by
  unfold appT
  split <;> exact ⟨rfl, rfl, rfl, rfl, rfl⟩
set_option maxRecDepth 20000 in
set_option maxHeartbeats 1600000 in
theorem append_down (O : Nat → Prop) (p m : Nat) (t : Tp) (n s : List UInt8) (w : World) (h : TapeW w O p m t) (hd : t.down = true) :
    Calls Try.prog 12 #[.pointer (some ⟨p, 0, none⟩), .string ⟨n.toArray⟩, .string ⟨s.toArray⟩] w fun e w' => e = .returned (.int .i64 10) ∧ w = w' := by
  have H := Lib.hid h
  clear h
  go_enter Try.func12, Try.ntmps12
  go_wp2_with fail
  refine (ready_any O p m t w H.out).mono ?_
  rintro e w1 ⟨rfl, rfl⟩
  rw [show readyV t = 10 from by rw [readyV, hd]; rfl]
  go_wp2
  go_ret
  exact ⟨rfl, rfl⟩
theorem append_nil (n s : List UInt8) (w : World) :
    Calls Try.prog 12 #[.pointer none, .string ⟨n.toArray⟩, .string ⟨s.toArray⟩] w fun e w' => e = .returned (.int .i64 2) ∧ w = w' := by
  go_enter Try.func12, Try.ntmps12
  go_wp2_with fail
  refine (ready_nil w).mono ?_
  rintro e w1 ⟨rfl, rfl⟩
  go_wp2
  go_ret
  exact ⟨rfl, rfl⟩
set_option maxRecDepth 20000 in
set_option maxHeartbeats 1600000 in
theorem append_arg (O : Nat → Prop) (p m : Nat) (t : Tp) (n s : List UInt8) (w : World) (h : TapeW w O p m t) (hd : t.down = false) (hn : isNm n = false) :
    Calls Try.prog 12 #[.pointer (some ⟨p, 0, none⟩), .string ⟨n.toArray⟩, .string ⟨s.toArray⟩] w fun e w' => e = .returned (.int .i64 1) ∧ w = w' := by
  have H := Lib.hid h
  have hlk := h.M.lookup (P := Try.prog) (T := 48) Try.underlying48 Try.underlying9 n (z := .pointer none) zeroF
  generalize (look (fmap t.files) n).getD (.pointer none) = v at hlk
  obtain ⟨c0, c1, c2, c3, c4, c5⟩ := tape_cells h
  clear h
  go_enter Try.func12, Try.ntmps12
  go_wp2_with fail
  refine (ready_any O p m t w H.out).mono ?_
  rintro e w1 ⟨rfl, rfl⟩
  rw [show readyV t = 0 from by rw [readyV, hd]; rfl]
  go_wp2_with fail
  refine (isName_any n w).mono ?_
  rintro e w1 ⟨rfl, rfl⟩
  rw [hn]
  go_wp2
  go_ret
  exact ⟨rfl, rfl⟩
set_option maxRecDepth 20000 in
set_option maxHeartbeats 1600000 in
theorem append_full (O : Nat → Prop) (p m : Nat) (t : Tp) (n s : List UInt8) (w : World) (h : TapeW w O p m t) (hok : TapeOk t) (hs : s.length ≤ maxLen) (hd : t.down = false) (hn : isNm n = true) (hf : ¬ ((getF t.files n = none → t.files.length < 256) ∧ (s.length : Int) ≤ t.room - total t.files)) :
    Calls Try.prog 12 #[.pointer (some ⟨p, 0, none⟩), .string ⟨n.toArray⟩, .string ⟨s.toArray⟩] w fun e w' => e = .returned (.int .i64 11) ∧ Below w.heap.size w w' := by
  have H := Lib.hid h
  have HL := Lib.hid (left_any O p m t w h hok)
  have hlk := h.M.lookup (P := Try.prog) (T := 48) Try.underlying48 Try.underlying9 n (z := .pointer none) zeroF
  have hln := h.M.len (P := Try.prog) (T := 48) Try.underlying48 3
  have hfl : (fmap t.files).length = t.files.length := by simp [fmap]
  rw [hfl] at hln
  rw [look_fmap] at hlk
  obtain ⟨c0, c1, c2, c3, c4, c5⟩ := tape_cells h
  unfold maxLen at hs
  clear h hfl
  cases hg : getF t.files n with
  | some f =>
    have h2 : t.room - (total t.files : Int) < (s.length : Int) := by
      rw [hg] at hf
      have : ¬ (s.length : Int) ≤ t.room - total t.files := fun h => hf ⟨fun h => (by cases h), h⟩
      omega
    rw [hg] at hlk
    clear hf hg
    go_enter Try.func12, Try.ntmps12
    go_wp2_with fail
    refine (ready_any O p m t w H.out).mono ?_
    rintro e w1 ⟨rfl, rfl⟩
    rw [show readyV t = 0 from by rw [readyV, hd]; rfl]
    go_wp2_with fail
    refine (isName_any n w).mono ?_
    rintro e w1 ⟨rfl, rfl⟩
    rw [hn]
    go_wp2_with fail
    refine HL.out.mono ?_
    rintro e w1 ⟨rfl, hb1⟩
    have B1 := Lib.hid hb1
    clear hb1
    generalize (total t.files : Int) = x at *
    go_wp2
    go_ret
    exact ⟨rfl, B1.out⟩
  | none =>
    rw [hg] at hlk
    by_cases h256 : t.files.length < 256
    · have h2 : t.room - (total t.files : Int) < (s.length : Int) := by
        have : ¬ (s.length : Int) ≤ t.room - total t.files := fun h => hf ⟨fun _ => h256, h⟩
        omega
      clear hf hg
      go_enter Try.func12, Try.ntmps12
      go_wp2_with fail
      refine (ready_any O p m t w H.out).mono ?_
      rintro e w1 ⟨rfl, rfl⟩
      rw [show readyV t = 0 from by rw [readyV, hd]; rfl]
      go_wp2_with fail
      refine (isName_any n w).mono ?_
      rintro e w1 ⟨rfl, rfl⟩
      rw [hn]
      go_wp2_with fail
      refine HL.out.mono ?_
      rintro e w1 ⟨rfl, hb1⟩
      have B1 := Lib.hid hb1
      clear hb1
      generalize (total t.files : Int) = x at *
      go_wp2
      go_ret
      exact ⟨rfl, B1.out⟩
    · clear hf hg
      generalize t.files.length = fl at *
      go_enter Try.func12, Try.ntmps12
      go_wp2_with fail
      refine (ready_any O p m t w H.out).mono ?_
      rintro e w1 ⟨rfl, rfl⟩
      rw [show readyV t = 0 from by rw [readyV, hd]; rfl]
      go_wp2_with fail
      refine (isName_any n w).mono ?_
      rintro e w1 ⟨rfl, rfl⟩
      rw [hn]
      go_wp2
      go_ret
      exact ⟨rfl, Below.refl _ _⟩

end Go.Proofs.Ytohimlahncbpjaa
