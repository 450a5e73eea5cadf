/-
  Small facts of a walk over strings whose bytes are a list: cutting, joining, reading a byte, converting. No program in sight.
  Conditions: each names its bounds.
-/
import Derived.WalkKit
import Derived.WalkSpells
import Derived.WalkLawsBesides
import Derived.Handy
import Derived.Lib.ConvBytes
import Derived.Lib.Hide
import Derived.WalkMore
import Derived.ScopeJumps
set_option linter.unusedVariables false
set_option linter.unusedSimpArgs false
namespace Go.Proofs.YtbljbdjmgogknaaGreatDoor
open Go.RowKit

/-- A string of a list of bytes. -/
abbrev bs (l : List UInt8) : ByteArray := ⟨l.toArray⟩

theorem bs_of (s : ByteArray) : s = bs s.data.toList := rfl
theorem bs_extract (l : List UInt8) (i j : Nat) : (⟨l.toArray⟩ : ByteArray).extract i j = ⟨((l.take j).drop i).toArray⟩ := by
  apply ByteArray.ext
  simp [ByteArray.data_extract, List.extract_toArray, List.extract, List.drop_take]
theorem bs_append (a b : List UInt8) : (⟨a.toArray⟩ : ByteArray) ++ ⟨b.toArray⟩ = ⟨(a ++ b).toArray⟩ := by
  apply ByteArray.ext
  simp [ByteArray.data_append]
theorem bs_get (l : List UInt8) (k : Nat) (h : k < (⟨l.toArray⟩ : ByteArray).size) : (⟨l.toArray⟩ : ByteArray)[k]'h = l[k]'(show k < l.length from h) := rfl
theorem bs_getD (l : List UInt8) (k : Nat) (h : k < (⟨l.toArray⟩ : ByteArray).size) : (⟨l.toArray⟩ : ByteArray)[k]'h = l.getD k 0 := by
  have hk : k < l.length := h
  simp [List.getD, hk]; rfl
attribute [go_sem] bs_extract bs_append

section
variable {P : Program}
theorem str_at (l : List UInt8) (k : Nat) (i : Int) (hi : i = k) (h : k < l.length) (t : TypeId) (ht : P.underlying t = some .string) (w : World) :
    (Instr.index t (.string ⟨l.toArray⟩) (.int .i64 i)).run P w = .ok (.int .u8 (l.getD k 0).toNat) w := by
  subst hi
  have hk : k < (⟨l.toArray⟩ : ByteArray).size := h
  have hb := bs_getD l k hk
  generalize l.getD k 0 = b at hb
  simp [go_sem, ht, h, hb]
theorem str_from (l : List UInt8) (k : Nat) (i : Int) (hi : i = k) (h : k ≤ l.length) (t : TypeId) (kk : IntKind) (ht : P.underlying t = some .string) (w : World) :
    (Instr.slice t (.string ⟨l.toArray⟩) (some (.int kk i)) none none).run P w = .ok (.string ⟨(l.drop k).toArray⟩) w := by
  subst hi
  rw [run_slice_string_l (P := P) w t ⟨l.toArray⟩ ht kk (k : Int) (by omega) (by show (k : Int) ≤ (l.length : Int); omega), bs_extract, Int.toNat_natCast]
  have e : (⟨l.toArray⟩ : ByteArray).size = l.length := rfl
  rw [e, List.take_length]
theorem str_cut (l : List UInt8) (k m : Nat) (i j : Int) (ki kj : IntKind) (hi : i = k) (hj : j = m) (h : k ≤ m) (h2 : m ≤ l.length) (t : TypeId) (ht : P.underlying t = some .string) (w : World) :
    (Instr.slice t (.string ⟨l.toArray⟩) (some (.int ki i)) (some (.int kj j)) none).run P w = .ok (.string ⟨((l.take m).drop k).toArray⟩) w := by
  subst hi hj
  rw [run_slice_string (P := P) w t ⟨l.toArray⟩ ki kj k m ht (by omega) (by omega) (by show (m : Int) ≤ (l.length : Int); omega), bs_extract, Int.toNat_natCast, Int.toNat_natCast]
theorem str_to (l : List UInt8) (m : Nat) (j : Int) (kj : IntKind) (hj : j = m) (h2 : m ≤ l.length) (t : TypeId) (ht : P.underlying t = some .string) (w : World) :
    (Instr.slice t (.string ⟨l.toArray⟩) none (some (.int kj j)) none).run P w = .ok (.string ⟨(l.take m).toArray⟩) w := by
  subst hj
  rw [run_slice_string_h (P := P) w t ⟨l.toArray⟩ ht kj m (by omega) (by show (m : Int) ≤ (l.length : Int); omega), bs_extract, Int.toNat_natCast, List.drop_zero]
end

theorem below_bytesWorld (w : World) (e : TypeId) (s : ByteArray) : Below w.heap.size w (Lib.bytesWorld w e s) :=
  ⟨rfl, rfl, rfl, by rw [Lib.bytesWorld_size]; omega, fun k hk => Lib.bytesWorld_at_old w e s k hk⟩
theorem ret_int {k : IntKind} {a b : Int} (h : a = b) : Ending.returned (.int k a) = .returned (.int k b) := by rw [h]
theorem ret_str {a b : ByteArray} (h : a = b) : Ending.returned (.string a) = .returned (.string b) := by rw [h]
theorem below_drewN {B : Nat} {w w' : World} (h : Below B w w') (n : Nat) : Below B w (w'.drewN n) := h.trans ⟨rfl, rfl, rfl, Nat.le_refl _, fun _ _ => rfl⟩

/-- Old memory is kept over two steps. -/
theorem bt {a b c : World} (h : Below a.heap.size a b) (k : Below b.heap.size b c) : Below a.heap.size a c := h.trans (k.mono h.size)
theorem bd {a b : World} (h : Below a.drew.heap.size a.drew b) : Below a.heap.size a b := (Below.refl a.heap.size a).drew.trans h
theorem bdn {a b : World} {n : Nat} (h : Below (a.drewN n).heap.size (a.drewN n) b) : Below a.heap.size a b := (below_drewN (Below.refl a.heap.size a) n).trans h

/-- A scope that begins with its label: what holds there at first and at each jump back, and a measure. -/
theorem wp_scope_head {P : Program} {a : Act} {w : World} {Q : Exit → Act → World → Prop} {rest : Code} (l : Nat) (J : Act → World → Prop) (m : Act → World → Nat)
    (h0 : J a w)
    (pass : ∀ a w, J a w → rest.wp P (Exit.jump l (fun a' w' => J a' w' ∧ m a' w' < m a w) Q) a w) : (Code.scope ((Code.label l).seq rest)).wp P Q a w := by
  refine wp_scope_jumps (rest := Code.skip.seq rest) l J m (by simp [findLabel]) ?_ (fun a w h => wp_seq (wp_skip (pass a w h)))
  refine wp_seq (wp_label ?_)
  refine wp_mono (pass a w h0) ?_
  intro e a w h
  cases e with
  | goto l' => exact ⟨h.1, h.2.1⟩
  | normal => exact h
  | exit id => exact h
  | ret => exact h
  | panic ch => exact h
  | outgrown => exact h

/-- A scope out of which the run jumps forward, to its label: the walk goes on there. -/
theorem wp_scope_fwd {P : Program} {a : Act} {w : World} {Q : Exit → Act → World → Prop} {c rest : Code} (l : Nat) (hf : findLabel c l = some rest)
    (first : c.wp P (Exit.jump l (fun a w => rest.wp P (Exit.noGoto Q) a w) Q) a w) : (Code.scope c).wp P Q a w := by
  refine wp_scope_jumps l _ (fun _ _ => 0) hf first (fun a w hJ => wp_mono hJ ?_)
  intro e a w h
  cases e with
  | goto l' => exact absurd h (by simp [Exit.noGoto])
  | normal => exact h
  | exit id => exact h
  | ret => exact h
  | panic ch => exact h
  | outgrown => exact h

end Go.Proofs.YtbljbdjmgogknaaGreatDoor
