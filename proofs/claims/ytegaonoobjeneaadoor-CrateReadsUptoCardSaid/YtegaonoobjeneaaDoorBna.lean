/-
  The document's 'number', walked.
  Conditions: the text has at most 2^32 bytes.
-/
import Derived.Test.YtegaonoobjeneaaDoorBds
import Derived.Test.YtegaonoobjeneaaDoorBwe
set_option linter.unusedVariables false
set_option linter.unusedSimpArgs false
namespace Go.Proofs.YtegaonoobjeneaaDoor
open Go.RowKit

def NumV (l : List UInt8) (at_ : Nat) : Value := .tuple #[.int .i64 (Bd.numP (l.drop at_)).1, .int .u64 (Bd.numP (l.drop at_)).2]
theorem NumV.zero {l : List UInt8} {a : Nat} (h : Bd.numP (l.drop a) = (0, 0)) : NumV l a = .tuple #[.int .i64 0, .int .u64 0] := by rw [NumV, h]; rfl
theorem NumV.some {l : List UInt8} {a k : Nat} {u : Int} (h : Bd.numP (l.drop a) = (k, u.toNat)) (hu : 0 ≤ u) : NumV l a = .tuple #[.int .i64 k, .int .u64 u] := by
  rw [NumV, h]
  simp only
  rw [Int.toNat_of_nonneg hu]
theorem getD_drop (l : List UInt8) (a k : Nat) : (l.drop a).getD k 0 = l.getD (a + k) 0 := by
  simp [List.getD, List.getElem?_drop]
theorem not_dig {c : UInt8} (h : ¬(48 ≤ c.toNat ∧ c.toNat ≤ 57)) : Bd.isDig c = false := by simp only [Bd.isDig, h, decide_false]
theorem c48 {c : UInt8} : c = 48 ↔ c.toNat = 48 := ⟨fun h => by rw [h]; rfl, fun h => UInt8.toNat_inj.1 h⟩
set_option maxRecDepth 20000 in
set_option maxHeartbeats 3200000 in
theorem number_any (l : List UInt8) (at_ : Nat) (hat : at_ ≤ l.length) (hl : l.length ≤ 4294967296) (w : World) :
    Calls Tryd.prog 63 #[.string ⟨l.toArray⟩, .int .i64 at_] w fun e w' => e = .returned (NumV l at_) ∧ w' = w := by
  have hd : Hid ((l.drop at_).length = l.length - at_) := List.length_drop
  go_enter Tryd.func63, Tryd.ntmps63
  go_wp2_with fail
  go_loopw [6, 7] (fun kv uv wr => ∃ (k : Nat) (u : Int), kv = .int .i64 k ∧ uv = .int .u64 u ∧ k ≤ 20 ∧ at_ + k ≤ l.length ∧ 0 ≤ u ∧ u ≤ 18446744073709551615 ∧ Bd.Pre (l.drop at_) k u ∧ wr = w) (fun kv _ _ => l.length - (intOf kv).toNat)
  case atStart => exact ⟨0, 0, rfl, rfl, by omega, by omega, by omega, by omega, Bd.Pre.zero _, rfl⟩
  case round =>
    obtain ⟨k, u, rfl, rfl, hk, hak, hu0, hu1, hp, rfl⟩ := hrel
    have PP := Lib.hid hp
    clear hp
    have X0 : Hid (∀ x : UInt8, l.getD at_ 0 = x → ¬(1 < k ∧ x.toNat = 48) → ¬(1 < k ∧ (l.drop at_).getD 0 0 = 48)) := fun x hx hn ⟨h1, h2⟩ => by
      rw [getD_drop, Nat.add_zero, hx] at h2
      exact hn ⟨h1, c48.1 h2⟩
    have X1 : Hid (∀ x : UInt8, l.getD at_ 0 = x → 1 < k → x.toNat = 48 → (l.drop at_).getD 0 0 = 48) := fun x hx h1 h2 => by
      rw [getD_drop, Nat.add_zero, hx]
      exact c48.2 h2
    by_cases hlt : at_ + k < l.length
    · have hix := str_at (P := Tryd.prog) l (at_ + k) ((at_ : Int) + k) (by omega) hlt 9 Tryd.underlying9
      have h0 := str_at (P := Tryd.prog) l at_ at_ rfl (by omega) 9 Tryd.underlying9
      have X := Lib.hid (getD_drop l at_ k)
      have hc256 := UInt8.toNat_lt (l.getD (at_ + k) 0)
      have hx256 := UInt8.toNat_lt (l.getD at_ 0)
      have SU : Hid (48 ≤ (l.getD (at_ + k) 0).toNat ∧ (l.getD (at_ + k) 0).toNat ≤ 57 → Bd.Pre (l.drop at_) (k + 1) (10 * u + ((l.getD (at_ + k) 0).toNat - 48))) := fun hc => by
        have := PP.out.succ (by rw [hd.out]; omega) (by rw [X.out]; exact Bd.isDig_iff.2 hc)
        rwa [X.out] at this
      have ST : Hid (¬(48 ≤ (l.getD (at_ + k) 0).toNat ∧ (l.getD (at_ + k) 0).toNat ≤ 57) → Bd.Stops (l.drop at_) k) := fun hc => .inr (by rw [X.out]; exact not_dig hc)
      generalize he : l.getD at_ 0 = x at *
      have X0 := Lib.hid (X0.out x rfl)
      have X1 := Lib.hid (X1.out x rfl)
      clear he X
      generalize hc : (l.getD (at_ + k) 0).toNat = c at *
      generalize hxn : x.toNat = y at *
      clear hc hxn
      by_cases hdg : 48 ≤ c ∧ c ≤ 57
      · obtain ⟨hd1, hd2⟩ := hdg
        have SS := Lib.hid (SU.out ⟨hd1, hd2⟩)
        clear SU ST
        by_cases hk20 : k < 20
        · by_cases hov : u > (18446744073709551615 - ((c : Int) - 48)) / 10
          · have hz := SS.out.over (by omega)
            go_wp2
            go_ret2
            exact ⟨congrArg Ending.returned (NumV.zero hz).symm, rfl⟩
          · go_wp2
            go_roundw
            case rel => exact ⟨k + 1, _, by go_num, rfl, by omega, by omega, by omega, by omega, SS.out, by first | rfl | trivial⟩
            case measure => simp [intOf]; omega
        · have hz := SS.out.twenty (by omega)
          by_cases h1 : y = 48
          · go_wp2
            go_ret2
            exact ⟨congrArg Ending.returned (NumV.zero hz).symm, rfl⟩
          · go_wp2
            go_ret2
            exact ⟨congrArg Ending.returned (NumV.zero hz).symm, rfl⟩
      · have SX := Lib.hid (ST.out hdg)
        clear SU ST
        have hfin := PP.out.stop (SX.out) (by omega)
        by_cases h1 : 1 < k ∧ y = 48
        · obtain ⟨h1, rfl⟩ := h1
          rw [if_pos ⟨h1, X1.out h1 rfl⟩] at hfin
          go_wp2
          all_goals (go_ret2; exact ⟨congrArg Ending.returned (NumV.zero hfin).symm, rfl⟩)
        · rw [if_neg (X0.out h1)] at hfin
          go_wp2
          all_goals first
            | (exfalso; omega)
            | (go_ret2; exact ⟨congrArg Ending.returned (NumV.some hfin hu0).symm, rfl⟩)
            | (exfalso; simp only [beq_iff_eq] at *; omega)
    · have hx256 := UInt8.toNat_lt (l.getD at_ 0)
      have SX : Hid (Bd.Stops (l.drop at_) k) := .inl (by rw [hd.out]; omega)
      by_cases hat2 : at_ < l.length
      · have h0 := str_at (P := Tryd.prog) l at_ at_ rfl hat2 9 Tryd.underlying9
        generalize he : l.getD at_ 0 = x at *
        have X0 := Lib.hid (X0.out x rfl)
        have X1 := Lib.hid (X1.out x rfl)
        clear he
        generalize hxn : x.toNat = y at *
        clear hxn
        have hfin := PP.out.stop (SX.out) (by omega)
        by_cases h1 : 1 < k ∧ y = 48
        · obtain ⟨h1, rfl⟩ := h1
          rw [if_pos ⟨h1, X1.out h1 rfl⟩] at hfin
          go_wp2
          all_goals (go_ret2; exact ⟨congrArg Ending.returned (NumV.zero hfin).symm, rfl⟩)
        · rw [if_neg (X0.out h1)] at hfin
          go_wp2
          all_goals first
            | (exfalso; omega)
            | (go_ret2; exact ⟨congrArg Ending.returned (NumV.some hfin hu0).symm, rfl⟩)
            | (exfalso; simp only [beq_iff_eq] at *; omega)
      · have hk0 : k = 0 := by omega
        subst hk0
        have hfin := PP.out.stop (SX.out) (by omega)
        rw [if_neg (by omega)] at hfin
        go_wp2
        go_ret2
        exact ⟨congrArg Ending.returned (NumV.some hfin hu0).symm, rfl⟩

end Go.Proofs.YtegaonoobjeneaaDoor
