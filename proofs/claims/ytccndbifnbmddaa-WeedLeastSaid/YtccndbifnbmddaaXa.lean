/-
  WeedLeast: the plain law.
  Conditions: none.
-/
import Derived.Test.YtccndbifnbmddaaWv
set_option linter.unusedVariables false
set_option linter.unusedSimpArgs false
namespace Go.Proofs.Ytccndbifnbmddaa
open Go.RowKit Fl

/-- A size out of any number. -/
def bOf (z : Int) : Nat := (z % 1048576).toNat
theorem bOf_lt (z : Int) : bOf z < 1048576 := by unfold bOf; omega
theorem bOf_wrap (z : Int) : IntKind.u64.wrap z % 1048576 = (bOf z : Int) := by rw [IntKind.wrap_u64]; unfold bOf; omega
/-- A small number out of any. -/
def um (z : Int) (m : Nat) : Nat := ((z % 18446744073709551616) % (m : Int)).toNat
theorem um_lt (z : Int) {m : Nat} (h : 0 < m) : um z m < m := by
  unfold um
  have h1 := Int.emod_nonneg (z % 18446744073709551616) (show (m : Int) ≠ 0 by omega)
  have h2 := Int.emod_lt_of_pos (z % 18446744073709551616) (show (0 : Int) < m by omega)
  omega
theorem um_tmod (z : Int) {m : Nat} (h : 0 < m) : (IntKind.u64.wrap z).tmod (m : Int) = (um z m : Int) := by
  rw [IntKind.wrap_u64, Int.tmod_eq_emod_of_nonneg (by omega)]
  unfold um
  have h1 := Int.emod_nonneg (z % 18446744073709551616) (show (m : Int) ≠ 0 by omega)
  omega
theorem bOf_um (z : Int) : bOf z = um z 1048576 := by unfold bOf um; omega
theorem bOf_tmod (z : Int) : (IntKind.u64.wrap z).tmod 1048576 = (bOf z : Int) := by rw [bOf_um]; exact um_tmod z (m := 1048576) (by omega)
def endsL (k : Nat) : List Int := (List.range k).map fun (i : Nat) => 10 * ((i : Int) + 1)
def bytL (zs : List Int) : List Nat := zs.map bOf
def bytI (zs : List Int) : List Int := zs.map fun z => (bOf z : Int)
theorem endsL_len (k : Nat) : (endsL k).length = k := by simp [endsL]
theorem endsL_succ (k : Nat) : endsL (k + 1) = endsL k ++ [10 * ((k : Int) + 1)] := by simp [endsL, List.range_succ]
theorem endsL_get {k i : Nat} (h : i < k) : (endsL k).getD i 0 = 10 * ((i : Int) + 1) := by simp [endsL, List.getD, h]
theorem bytI_get {zs : List Int} {i : Nat} (h : i < zs.length) : (bytI zs).getD i 0 = ((bytL zs).getD i 0 : Int) := by simp [bytI, bytL, List.getD, h]
theorem byt_ns (zs : List Int) : (bytI zs).map szB = (bytL zs).map fun b => ((0, b) : Nat × Nat) := by
  simp [bytI, bytL, szB]
theorem sB_pairs (bl : List Nat) : sB (bl.map fun b => ((0, b) : Nat × Nat)) = bl.sum := by
  have : ((bl.map fun b => ((0, b) : Nat × Nat)).map (·.2)) = bl := by
    rw [List.map_map]
    exact List.map_id bl
  rw [sB, this]
theorem byt_sum_le (zs : List Int) : (bytL zs).sum ≤ zs.length * 1048576 := by
  induction zs with
  | nil => simp [bytL]
  | cons z zs ih =>
    have := bOf_lt z
    simp only [bytL, List.map_cons, List.sum_cons, List.length_cons] at ih ⊢
    omega
theorem byt_sum_small (zs : List Int) (h : zs.length ≤ 60) : (bytL zs).sum ≤ 62914560 := by
  have := byt_sum_le zs
  omega
theorem wrapN (n : Nat) (h : n ≤ 62914560) : wrap64 (n : Int) = n := by unfold wrap64; omega
theorem ov_all (ns : List (Nat × Nat)) (m : Int) : ∀ i, i < ov ns m → m < ((sB (ns.drop i) : Nat) : Int) := by
  induction ns with
  | nil => intro i h; simp [ov] at h
  | cons x ns ih =>
    intro i h
    cases ns with
    | nil => simp [ov] at h
    | cons y r =>
      rw [ov] at h
      split at h
      · rename_i hm
        cases i with
        | zero => exact hm
        | succ i => exact ih i (by omega)
      · omega
theorem cnt_all (l : List Int) (h : Int) : ∀ i, i < cntLe l h → l.getD i 0 ≤ h := by
  induction l with
  | nil => intro i hi; simp [cntLe] at hi
  | cons z l ih =>
    intro i hi
    rw [cntLe] at hi
    split at hi
    · cases i with
      | zero => simpa
      | succ i => simpa using ih i (by omega)
    · omega
theorem cnt_stop (l : List Int) (h : Int) (hl : cntLe l h < l.length) : h < l.getD (cntLe l h) 0 := by
  induction l with
  | nil => simp [cntLe] at hl
  | cons z l ih =>
    rw [cntLe] at hl ⊢
    split at hl
    · rename_i hz
      rw [if_pos hz]
      simpa using ih (by simpa using hl)
    · rename_i hz
      rw [if_neg hz]
      simpa using Int.not_le.1 hz
/-- What the law asks of the number that goes. -/
structure Least (bl : List Nat) (high keep : Int) (n : Nat) : Prop where
  lt : bl ≠ [] → n < bl.length
  zero : bl = [] → n = 0
  each : ∀ i, i < n → 10 * ((i : Int) + 1) ≤ high ∧ keep < (((bl.drop i).sum : Nat) : Int)
  last : bl ≠ [] → (((bl.drop n).sum : Nat) : Int) ≤ keep ∨ n + 1 = bl.length ∨ high < 10 * ((n : Int) + 1)
theorem least_old (zs : List Int) (hz : zs.length ≤ 60) (high keep : Int) : Least (bytL zs) high keep (oldN (endsL zs.length) (bytI zs) high keep) := by
  have hok : okB (bytI zs) = true := by
    apply okB_true
    · intro i hi
      have hi2 : i < zs.length := by simpa [bytI] using hi
      rw [bytI_get hi2]
      have : (bytL zs).getD i 0 < 1048576 := by
        simp only [bytL, List.getD, List.getElem?_map, List.getElem?_eq_getElem hi2, Option.map_some, Option.getD_some]
        exact bOf_lt _
      exact size_yes (by omega) (by omega)
    · simp [bytI]; omega
  have hn : oldN (endsL zs.length) (bytI zs) high keep = cntLe ((endsL zs.length).take (ov ((bytI zs).map szB) keep)) high := by
    rw [oldN, if_pos ⟨hok, by simp [endsL, bytI]⟩]
  rw [hn, byt_ns]
  have hql := ov_le ((bytL zs).map fun b => ((0, b) : Nat × Nat)) keep
  rw [List.length_map] at hql
  have hbl : (bytL zs).length = zs.length := by simp [bytL]
  have hall := ov_all ((bytL zs).map fun b => ((0, b) : Nat × Nat)) keep
  have hlt := ov_lt ((bytL zs).map fun b => ((0, b) : Nat × Nat)) keep
  have hen := ov_enough ((bytL zs).map fun b => ((0, b) : Nat × Nat)) keep
  simp only [← List.map_drop, sB_pairs, List.length_map] at hall hlt hen
  generalize ov ((bytL zs).map fun b => ((0, b) : Nat × Nat)) keep = q at *
  have htl : ((endsL zs.length).take q).length = q := by rw [List.length_take, endsL_len]; omega
  have hcl := cntLe_le ((endsL zs.length).take q) high
  rw [htl] at hcl
  have hca := cnt_all ((endsL zs.length).take q) high
  have hcs := cnt_stop ((endsL zs.length).take q) high
  rw [htl] at hcs
  have hge : ∀ i, i < q → ((endsL zs.length).take q).getD i 0 = 10 * ((i : Int) + 1) := fun i hi => by
    rw [← endsL_get (k := zs.length) (i := i) (by omega)]
    simp [List.getD, List.getElem?_take, hi]
  generalize cntLe ((endsL zs.length).take q) high = n at *
  refine ⟨fun hne => ?_, fun he => ?_, fun i hi => ⟨?_, ?_⟩, fun hne => ?_⟩
  · have := hlt (by simpa using hne)
    omega
  · have : zs.length = 0 := by rw [← hbl, he]; rfl
    omega
  · rw [← hge i (by omega)]
    exact hca i hi
  · exact hall i (by omega)
  · by_cases hnq : n < q
    · right; right
      have := hcs hnq
      rwa [hge n hnq] at this
    · have : n = q := by omega
      subst this
      rcases hen (by simpa using hne) with h | h
      · exact .inl h
      · exact .inr (.inl h)

end Go.Proofs.Ytccndbifnbmddaa
