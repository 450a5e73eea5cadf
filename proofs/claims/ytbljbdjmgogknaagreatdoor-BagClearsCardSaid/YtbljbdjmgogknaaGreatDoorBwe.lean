/-
  What the walks over bead's calls carry: a reader's world, a slice of texts just made; the document's example.
  Conditions: the library's variables hold what they are laid with.
-/
import Derived.Test.YtbljbdjmgogknaaGreatDoorBwd
set_option linter.unusedVariables false
set_option linter.unusedSimpArgs false
namespace Go.Proofs.YtbljbdjmgogknaaGreatDoor
open Go.RowKit

theorem Rds.bel {w0 w w' : World} {p : Nat} {q : Bd.St} (h : Rds w p q w') (hb : Below w0.heap.size w0 w) (hp : w0.heap.size ≤ p) : Below w0.heap.size w0 w' :=
  hb.trans (h.2.toBelow hb.size (fun k hk e => by omega))
theorem strs_new (W : World) (ls : List (List UInt8)) (t : TypeId) : Strs (W.alloc (.cells (ls.map fun x => Value.string ⟨x.toArray⟩).toArray t)) (.slice (some ⟨W.heap.size, 0, none⟩) ls.length ls.length) ls := by
  refine .inr ⟨W.heap.size, 0, ls.length, rfl, by simp, Nat.le_refl _, fun j x hx => ?_⟩
  rw [cell_of_row (W.alloc _) W.heap.size (0 + j) _ t (0, 0) (heap_alloc_new W _)]
  simp [hx]
theorem bInt_1 : Bd.bInt 1 = [105, 49, 101] := by
  have e : Lib.itoa 1 = [49] := by
    unfold Lib.itoa
    rw [if_neg (by decide), show (1 : Int).toNat = 1 from rfl, Bd.dec_small (by decide)]
    rfl
  rw [Bd.bInt, e]
  rfl
theorem bInt_m5 : Bd.bInt (-5) = [105, 45, 53, 101] := by
  have e : Lib.itoa (-5) = [45, 53] := by
    unfold Lib.itoa
    rw [if_pos (by decide), show (-5 : Int).natAbs = 5 from rfl, Bd.dec_small (by decide)]
    rfl
  rw [Bd.bInt, e]
  rfl
theorem bText_nil : Bd.bText [] = [48, 58] := by
  have e : Lib.itoa (([] : List UInt8).length : Int) = [48] := by
    rw [Lib.itoa_nonneg, show ([] : List UInt8).length = 0 from rfl, Bd.dec_small (by decide)]
    rfl
  rw [Bd.bText, e]
  rfl
theorem bText_hi : Bd.bText [104, 105] = [50, 58, 104, 105] := by
  have e : Lib.itoa (([104, 105] : List UInt8).length : Int) = [50] := by
    rw [Lib.itoa_nonneg, show ([104, 105] : List UInt8).length = 2 from rfl, Bd.dec_small (by decide)]
    rfl
  rw [Bd.bText, e]
  rfl
theorem done_is (p : Nat) (q : Bd.St) (d : Int) (hd : Bd.sDone q = d) (w : World) (h : Rd w p q) : Calls Tryz.prog 61 #[.pointer (some ⟨p, 0, none⟩)] w fun e w' => e = .returned (.int .i64 d) ∧ w = w' := hd ▸ done_any p q w h

end Go.Proofs.YtbljbdjmgogknaaGreatDoor
