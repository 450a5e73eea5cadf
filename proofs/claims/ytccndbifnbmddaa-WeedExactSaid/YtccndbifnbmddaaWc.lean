/-
  Whether a record is useless, walked.
  Conditions: what the closure holds.
-/
import Derived.Test.YtccndbifnbmddaaWb
set_option linter.unusedVariables false
set_option linter.unusedSimpArgs false
namespace Go.Proofs.Ytccndbifnbmddaa
open Go.RowKit

/-- What the closure holds. -/
structure Us where
  ok : Bool
  high : Int
  late : LM
  time : Int
  now : Int
  hor : Int
def useless (u : Us) (x : Cr.Rec) : Bool := u.ok && (decide (x.key ≠ []) && (decide (x.off < u.high) && (decide (x.off < (lookI u.late x.key).getD 0) || (x.gone && decide (u.time ≤ u.now - u.hor)))))
structure UsW (w : World) (po ph pl pb pn pz m : Nat) (u : Us) : Prop where
  co : Cl w po [.bool u.ok] 4
  ch : Cl w ph [.int .i64 u.high] 3
  cl : Cl w pl [.map (some m)] 50
  cb : w.cell? ⟨pb, 4, none⟩ = some (.int .i64 u.time)
  lb : pb < w.heap.size
  cn : Cl w pn [.int .i64 u.now] 3
  cz : Cl w pz [.int .i64 u.hor] 3
  M : Mp w m (imap u.late)
  t : u.ok = true → isT u.now = true ∧ isT u.hor = true
theorem UsW.keep {S : Nat → Prop} {w w' : World} {po ph pl pb pn pz m : Nat} {u : Us} (h : UsW w po ph pl pb pn pz m u) (k : Keeps S w w') (hs : ∀ j, j < w.heap.size → (j = po ∨ j = ph ∨ j = pl ∨ j = pb ∨ j = pn ∨ j = pz ∨ j = m) → ¬ S j) : UsW w' po ph pl pb pn pz m u :=
  ⟨h.co.keep k (hs _ h.co.lt (by simp)), h.ch.keep k (hs _ h.ch.lt (by simp)), h.cl.keep k (hs _ h.cl.lt (by simp)), (k.cell (a := ⟨pb, 4, none⟩) h.lb (hs _ h.lb (by simp))).trans h.cb, Nat.lt_of_lt_of_le h.lb k.size, h.cn.keep k (hs _ h.cn.lt (by simp)), h.cz.keep k (hs _ h.cz.lt (by simp)), h.M.kept k (hs _ h.M.lt (by simp)), h.t⟩
theorem UsW.below {w w' : World} {po ph pl pb pn pz m : Nat} {u : Us} (h : UsW w po ph pl pb pn pz m u) (hb : Below w.heap.size w w') : UsW w' po ph pl pb pn pz m u := h.keep (Keeps.below (fun _ => False) hb) (fun _ _ _ => id)
def usF (po ph pl pb pn pz : Nat) : Value := .func (.func 26) #[] #[.pointer (some ⟨po, 0, none⟩), .pointer (some ⟨ph, 0, none⟩), .pointer (some ⟨pl, 0, none⟩), .pointer (some ⟨pb, 0, none⟩), .pointer (some ⟨pn, 0, none⟩), .pointer (some ⟨pz, 0, none⟩)]
set_option maxRecDepth 20000 in
set_option maxHeartbeats 3200000 in
theorem useless_any (u : Us) (x : Cr.Rec) (po ph pl pb pn pz m : Nat) (w : World) (h : UsW w po ph pl pb pn pz m u) (hx : x.key.length ≤ maxLen) :
    Calls Try.prog 26 #[recV x, .pointer (some ⟨po, 0, none⟩), .pointer (some ⟨ph, 0, none⟩), .pointer (some ⟨pl, 0, none⟩), .pointer (some ⟨pb, 0, none⟩), .pointer (some ⟨pn, 0, none⟩), .pointer (some ⟨pz, 0, none⟩)] w fun e w' => e = .returned (.bool (useless u x)) ∧ Below w.heap.size w w' := by
  obtain ⟨xo, xk, xv, xg⟩ := x
  dsimp only at hx
  unfold maxLen at hx
  have BA : Hid (Below w.heap.size w (w.alloc (.cells #[.int .i64 xo, .string ⟨xk.toArray⟩, .string ⟨xv.toArray⟩, .bool xg] 44))) := (Below.refl _ _).alloc (Nat.le_refl _) _
  have CX : Hid (Cl (w.alloc (.cells #[.int .i64 xo, .string ⟨xk.toArray⟩, .string ⟨xv.toArray⟩, .bool xg] 44)) w.heap.size [.int .i64 xo, .string ⟨xk.toArray⟩, .string ⟨xv.toArray⟩, .bool xg] 44) := Cl.new w _ _
  have HU := Lib.hid (h.below BA.out)
  unfold recV
  dsimp only
  have HV : Hid (useless u ⟨xo, xk, xv, xg⟩ = (u.ok && (decide (xk ≠ []) && (decide (xo < u.high) && (decide (xo < (lookI u.late xk).getD 0) || (xg && decide (u.time ≤ u.now - u.hor))))))) := rfl
  generalize useless u ⟨xo, xk, xv, xg⟩ = res at *
  clear h
  go_enter Try.func26, Try.ntmps26
  go_upto_region 1 with (fail)
  generalize w.alloc (.cells #[.int .i64 xo, .string ⟨xk.toArray⟩, .string ⟨xv.toArray⟩, .bool xg] 44) = w1 at *
  generalize w.heap.size = px at CX ⊢
  have x0 := CX.out.cell 0
  have x1 := CX.out.cell 1
  have x3 := CX.out.cell 3
  have b0 := HU.out.co.cell 0
  have b1 := HU.out.ch.cell 0
  have b2 := HU.out.cl.cell 0
  have b3 := HU.out.cb
  have b4 := HU.out.cn.cell 0
  have b5 := HU.out.cz.cell 0
  have hlk := HU.out.M.lookup (P := Try.prog) (T := 50) Try.underlying50 Try.underlying9 xk (z := .int .i64 0) zeroI
  rw [look_imap, show ((lookI u.late xk).map (Value.int .i64)).getD (.int .i64 0) = .int .i64 ((lookI u.late xk).getD 0) by cases lookI u.late xk <;> rfl] at hlk
  generalize (lookI u.late xk).getD 0 = ln at *
  have hT := HU.out.t
  obtain ⟨ok, high, late, time, now, hor⟩ := u
  dsimp only at *
  cases ok with
  | false =>
    clear hT
    go_wp2
    go_ret
    exact ⟨by rw [HV.out]; rfl, BA.out⟩
  | true =>
    obtain ⟨t1, t2⟩ := hT rfl
    have t3 : 0 ≤ now ∧ now ≤ 1099511627776 := by simpa [isT] using t1
    have t4 : 0 ≤ hor ∧ hor ≤ 1099511627776 := by simpa [isT] using t2
    obtain ⟨n1, n2⟩ := t3
    obtain ⟨z1, z2⟩ := t4
    clear hT t1 t2
    cases xk with
    | nil =>
      go_wp2
      go_ret
      exact ⟨by rw [HV.out]; rfl, BA.out⟩
    | cons c cs =>
      simp only [List.length_cons] at hx
      by_cases hh : xo < high
      · by_cases hl : xo < ln
        · have HX : Hid (res = true) := by rw [Hid, HV.out, decide_eq_true hh, decide_eq_true hl]; rfl
          go_wp2
          go_ret
          exact ⟨by rw [HX.out]; rfl, BA.out⟩
        · cases xg with
          | false =>
            have HX : Hid (res = false) := by rw [Hid, HV.out, decide_eq_true hh, decide_eq_false hl]; rfl
            go_wp2
            go_ret
            exact ⟨by rw [HX.out]; rfl, BA.out⟩
          | true =>
            by_cases ht : time ≤ now - hor
            · have HX : Hid (res = true) := by rw [Hid, HV.out, decide_eq_true hh, decide_eq_false hl, decide_eq_true ht]; rfl
              go_wp2
              go_ret
              exact ⟨by rw [HX.out]; rfl, BA.out⟩
            · have HX : Hid (res = false) := by rw [Hid, HV.out, decide_eq_true hh, decide_eq_false hl, decide_eq_false ht]; rfl
              go_wp2
              go_ret
              exact ⟨by rw [HX.out]; rfl, BA.out⟩
      · have HX : Hid (res = false) := by rw [Hid, HV.out, decide_eq_false hh]; rfl
        go_wp2
        go_ret
        exact ⟨by rw [HX.out]; rfl, BA.out⟩

end Go.Proofs.Ytccndbifnbmddaa
