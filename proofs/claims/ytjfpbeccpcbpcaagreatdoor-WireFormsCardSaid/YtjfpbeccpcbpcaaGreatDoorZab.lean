/-
  App / Sl / Opn / Oi / Cwa / Cwb: texts of one proof, one behind the other.
  Conditions: none of its own.
-/
import Derived.Test.YtjfpbeccpcbpcaaGreatDoorZaa
import Derived.Laws.AppendOwnNone
import Derived.Deep.MidRow
import Derived.Deep.AppendSrc
import Derived.Deep.Upon
import Derived.ProofKit
import Derived.OpenShut
import Derived.Deep.Slices
import Derived.Test.YtjfpbeccpcbpcaaGreatDoorRows
import Derived.Deep.Strs
import Derived.Lib.SmallJoins
set_option linter.unusedVariables false
set_option linter.unusedSimpArgs false
namespace Go.Proofs.YtjfpbeccpcbpcaaGreatDoor
open Go.RowKit
def SrcIs (w : World) (size : Nat) (sv : Value) (m : Nat) (ys : List Value) : Prop :=
  (sv = .slice none 0 0 ∧ m = 0 ∧ ys = []) ∨
    ∃ ad c, sv = .slice (some ad) m c ∧ ys.length = m * size ∧ ∀ j u, ys[j]? = some u → w.cell? (ad.add j) = some u
theorem SrcIs.ofOwn {w : World} {base : Nat} {e : TypeId} {size : Nat} {v : Value} {n : Nat} {xs : List Value} (h : w.ownsRow base e size v n xs) : SrcIs w size v n xs := by
  have hh := h
  rcases h.2 with ⟨rfl, rfl⟩ | ⟨g, cap, cur, rfl, hB, hg, hn, hm, hs, ht⟩
  · exact .inl ⟨rfl, rfl, List.eq_nil_of_length_eq_zero (by simpa using h.1)⟩
  · exact .inr ⟨_, cap, rfl, h.1, hh.cells (g := g) rfl⟩
section
variable {P : Program} {w : World}
end
theorem ownsRow_below {w w' : World} {base : Nat} {e : TypeId} {size : Nat} {v : Value} {n : Nat} {xs : List Value} (h : w.ownsRow base e size v n xs) (hb : Below w.heap.size w w') : w'.ownsRow base e size v n xs :=
  World.ownsRow.kept (row := none) h ⟨hb.os, hb.tape, hb.output, hb.size, fun k hk _ => hb.block k hk⟩ (by cases hv : v.ownBlock <;> simp)
theorem SrcIs.grown {w w' : World} {size : Nat} {sv : Value} {m : Nat} {ys : List Value} {row : Option Nat} (h : SrcIs w size sv m ys) (hg : w.grownBy w' row) (hr : sv.ownBlock = none ∨ sv.ownBlock ≠ row) : SrcIs w' size sv m ys := by
  rcases h with h | ⟨ad, c, rfl, hl, hc⟩
  · exact .inl h
  · refine .inr ⟨ad, c, rfl, hl, fun j u hu => hg.cell (hc j u hu) ?_⟩
    have e : (ad.add j).block = ad.block := by unfold Addr.add; split <;> rfl
    rw [e]
    simpa [Value.ownBlock] using hr
theorem uint_rem (p m : Int) (h : 0 < m) (hm : m ≤ 9223372036854775807) : ∃ j : Nat, (j : Int) < m ∧ (IntKind.u64.wrap p).tmod m = (j : Int) := by
  have h0 : 0 ≤ IntKind.u64.wrap p := by rw [IntKind.wrap_u64]; omega
  have e : (IntKind.u64.wrap p).tmod m = IntKind.u64.wrap p % m := Int.tmod_eq_emod_of_nonneg h0
  have h1 : 0 ≤ IntKind.u64.wrap p % m := Int.emod_nonneg _ (by omega)
  have h2 : IntKind.u64.wrap p % m < m := Int.emod_lt_of_pos _ h
  exact ⟨(IntKind.u64.wrap p % m).toNat, by omega, by rw [e]; omega⟩
theorem cell_int {P : Program} {w : World} {r : Reach} {base : Nat} {t : TypeId} {v : Value} {k : IntKind} (hs : P.underlying t = some (.int k)) (h : Cell.okWide P w r base t v) : ∃ n, v = .int k n ∧ k.has n := by
  cases v <;> simp [Cell.okWide, Cell.ok, hs] at h
  case int k' n => obtain ⟨rfl, h⟩ := h; exact ⟨n, rfl, h⟩
theorem cell_u8 {P : Program} {w : World} {r : Reach} {base : Nat} {t : TypeId} {v : Value} (hs : P.underlying t = some (.int .u8)) (h : Cell.okWide P w r base t v) : ∃ c : UInt8, v = .int .u8 (c.toNat : Int) := by
  obtain ⟨n, rfl, hn⟩ := cell_int hs h
  have hb : 0 ≤ n ∧ n ≤ 255 := by simpa [IntKind.has, IntKind.min, IntKind.max, IntKind.signed, IntKind.bits] using hn
  refine ⟨UInt8.ofNat n.toNat, ?_⟩
  have : (UInt8.ofNat n.toNat).toNat = n.toNat := by simp; omega
  rw [this]
  congr 1
  omega
end Go.Proofs.YtjfpbeccpcbpcaaGreatDoor
namespace Go.Proofs.YtjfpbeccpcbpcaaGreatDoor
open Go.RowKit
structure Keeps (S : Nat → Prop) (w w' : World) : Prop where
  os : w'.os = w.os
  tape : w'.tape = w.tape
  output : w'.output = w.output
  size : w.heap.size ≤ w'.heap.size
  block : ∀ k, k < w.heap.size → ¬ S k → w'.heap[k]? = w.heap[k]?
theorem Keeps.refl (S : Nat → Prop) (w : World) : Keeps S w w := ⟨rfl, rfl, rfl, Nat.le_refl _, fun _ _ _ => rfl⟩
theorem Keeps.trans {S : Nat → Prop} {a b c : World} (h : Keeps S a b) (k : Keeps S b c) : Keeps S a c :=
  ⟨k.os.trans h.os, k.tape.trans h.tape, k.output.trans h.output, Nat.le_trans h.size k.size, fun i hi hs => (k.block i (Nat.lt_of_lt_of_le hi h.size) hs).trans (h.block i hi hs)⟩
theorem Keeps.mono {S T : Nat → Prop} {a b : World} (h : Keeps S a b) (hs : ∀ k, k < a.heap.size → S k → T k) : Keeps T a b :=
  ⟨h.os, h.tape, h.output, h.size, fun k hk ht => h.block k hk (fun s => ht (hs k hk s))⟩
theorem Keeps.drewN (S : Nat → Prop) (w : World) (n : Nat) : Keeps S w (w.drewN n) := ⟨rfl, rfl, rfl, Nat.le_refl _, fun _ _ _ => rfl⟩
theorem Keeps.drew (S : Nat → Prop) (w : World) : Keeps S w w.drew := ⟨rfl, rfl, rfl, Nat.le_refl _, fun _ _ _ => rfl⟩
theorem Keeps.alloc (S : Nat → Prop) (w : World) (o : Obj) : Keeps S w (w.alloc o) := ⟨rfl, rfl, rfl, by simp, fun k hk _ => Below.heap_alloc w o k hk⟩
theorem Keeps.setCell (S : Nat → Prop) (w : World) (a : Addr) (u : Value) (h : S a.block) : Keeps S w (w.setCell a u) :=
  ⟨rfl, rfl, rfl, by simp [World.setCell], fun k hk hs => Below.heap_setCell _ _ _ _ (fun e => hs (e ▸ h))⟩
theorem Keeps.grown {S : Nat → Prop} {w w' : World} {row : Option Nat} (hg : w.grownBy w' row) (h : ∀ k, row = some k → S k) : Keeps S w w' :=
  ⟨hg.os, hg.tape, hg.output, hg.size, fun k hk hs => hg.block k hk (fun e => hs (h k e.symm))⟩
theorem Keeps.below {w w' : World} (S : Nat → Prop) (h : Below w.heap.size w w') : Keeps S w w' := ⟨h.os, h.tape, h.output, h.size, fun k hk _ => h.block k hk⟩
theorem Keeps.toBelow {S : Nat → Prop} {B : Nat} {w w' : World} (h : Keeps S w w') (hB : B ≤ w.heap.size) (hs : ∀ k, k < B → ¬ S k) : Below B w w' :=
  ⟨h.os, h.tape, h.output, h.size, fun k hk => h.block k (by omega) (hs k hk)⟩
theorem Keeps.cell {S : Nat → Prop} {w w' : World} (h : Keeps S w w') {a : Addr} (hb : a.block < w.heap.size) (hs : ¬ S a.block) : w'.cell? a = w.cell? a := World.cell?_of_block (w := w) (h.block a.block hb hs)
theorem Keeps.frozen {S : Nat → Prop} {w w' : World} (h : Keeps S w w') {a : Addr} (hb : a.block < w.heap.size) (hs : ¬ S a.block) : w'.frozen? a = w.frozen? a := World.frozen?_of_block (w := w) (h.block a.block hb hs)
theorem Keeps.rangeAt {S : Nat → Prop} {w w' : World} (h : Keeps S w w') {g o : Nat} {xs : List Value} (hx : w.rangeAt g o xs) (hs : ¬ S g) : w'.rangeAt g o xs := fun j v hv => by
  have hc := hx j v hv
  rw [h.cell (a := ⟨g, o + j, none⟩) (World.block_lt_of_cell? w _ hc) hs]; exact hc
theorem Keeps.there {S : Nat → Prop} {w w' : World} (h : Keeps S w w') {g o n : Nat} (hx : w.there g o n) (hs : ¬ S g) : w'.there g o n := fun j hj => by
  obtain ⟨h1, h2⟩ := hx j hj
  obtain ⟨u, hu⟩ := Option.isSome_iff_exists.1 h1
  have hb := World.block_lt_of_cell? w _ hu
  rw [h.cell (a := ⟨g, o + j, none⟩) hb hs, h.frozen (a := ⟨g, o + j, none⟩) hb hs]; exact ⟨h1, h2⟩
def Sl (w : World) (base size : Nat) (v : Value) (n : Nat) (xs : List Value) : Prop :=
  xs.length = n * size ∧ ((v = .slice none 0 0 ∧ n = 0) ∨
    ∃ g off cap, v = .slice (some ⟨g, off, none⟩) n cap ∧ base ≤ g ∧ g < w.heap.size ∧ n ≤ cap ∧ cap ≤ maxLen ∧ w.rangeAt g off xs ∧ w.there g off (cap * size))
theorem Sl.nil (w : World) (base size : Nat) : Sl w base size (.slice none 0 0) 0 [] := ⟨by simp, .inl ⟨rfl, rfl⟩⟩
theorem Sl.kept {S : Nat → Prop} {w w' : World} {base size : Nat} {v : Value} {n : Nat} {xs : List Value} (h : Sl w base size v n xs) (hk : Keeps S w w') (hs : ∀ k, v.ownBlock = some k → ¬ S k) : Sl w' base size v n xs := by
  refine ⟨h.1, ?_⟩
  rcases h.2 with h2 | ⟨g, off, cap, rfl, hB, hg, hn, hm, hr, ht⟩
  · exact .inl h2
  · have hsg := hs g rfl
    exact .inr ⟨g, off, cap, rfl, hB, Nat.lt_of_lt_of_le hg hk.size, hn, hm, hk.rangeAt hr hsg, hk.there ht hsg⟩
theorem Sl.lt {w : World} {base size : Nat} {v : Value} {n : Nat} {xs : List Value} (h : Sl w base size v n xs) : ∀ k, v.ownBlock = some k → base ≤ k ∧ k < w.heap.size := by
  intro k hk
  rcases h.2 with ⟨rfl, _⟩ | ⟨g, off, cap, rfl, hB, hg, _⟩
  · simp [Value.ownBlock] at hk
  · simp [Value.ownBlock] at hk
    subst hk
    exact ⟨hB, hg⟩
theorem Sl.ofOwn {w : World} {base : Nat} {e : TypeId} {size : Nat} {v : Value} {n : Nat} {xs : List Value} (h : w.ownsRow base e size v n xs) : Sl w base size v n xs := by
  refine ⟨h.1, ?_⟩
  have hh := h
  rcases h.2 with h2 | ⟨g, cap, cur, rfl, hB, hg, hn, hm, hs, ht⟩
  · exact .inl h2
  · refine .inr ⟨g, 0, cap, rfl, hB, (Array.getElem?_eq_some_iff.1 hg).1, hn, hm, fun j u hu => ?_, fun j hj => ?_⟩
    · have := hh.cells (g := g) rfl j u hu
      rwa [Addr.add_mid] at this
    · rw [cell_of_row w g (0 + j) cur e (0, 0) hg]
      refine ⟨by simp; omega, ?_⟩
      simp [World.frozen?, hg]
theorem Sl.form {w : World} {base size : Nat} {v : Value} {n : Nat} {xs : List Value} (h : Sl w base size v n xs) : ∃ a cap, v = .slice a n cap ∧ n ≤ cap ∧ (a = none ∨ ∃ b off, a = some ⟨b, off, none⟩) := by
  rcases h.2 with ⟨rfl, rfl⟩ | ⟨g, off, cap, rfl, hB, hg, hn, hm, hr, ht⟩
  · exact ⟨none, 0, rfl, Nat.le_refl _, .inl rfl⟩
  · exact ⟨_, cap, rfl, hn, .inr ⟨g, off, rfl⟩⟩
section
variable {P : Program}
end
end Go.Proofs.YtjfpbeccpcbpcaaGreatDoor
namespace Go.Proofs.YtjfpbeccpcbpcaaGreatDoor
open Go.ChangeShapes Go.WideShapes Go.ChangeAt Go.RowKit
theorem list_of {α : Type} {n : Nat} (dflt : α) (p : Nat → α → Prop) (h : ∀ i, i < n → ∃ x, p i x) : ∃ l : List α, l.length = n ∧ ∀ i, i < n → p i (l.getD i dflt) := by
  induction n with
  | zero => exact ⟨[], rfl, fun i hi => by omega⟩
  | succ n ih =>
    obtain ⟨l, hl, hp⟩ := ih fun i hi => h i (by omega)
    obtain ⟨x, hx⟩ := h n (by omega)
    refine ⟨l ++ [x], by simp [hl], fun i hi => ?_⟩
    by_cases hin : i < n
    · have := hp i hin
      simpa [List.getD, List.getElem?_append, hl, hin] using this
    · have : i = n := by omega
      subst this
      simpa [List.getD, hl] using hx
end Go.Proofs.YtjfpbeccpcbpcaaGreatDoor
namespace Go.Proofs.YtjfpbeccpcbpcaaGreatDoor
open Go.ChangeShapes Go.WideShapes Go.ChangeAt Go.RowKit
def Ints (w : World) (v : Value) (zs : List Int) : Prop :=
  ∃ a cap, v = .slice a zs.length cap ∧ ∀ i, i < zs.length → ∃ g off, a = some ⟨g, off, none⟩ ∧ g < w.heap.size ∧ w.cell? ⟨g, off + i, none⟩ = some (.int .i64 (zs.getD i 0))
theorem Ints.kept {w w' : World} {v : Value} {zs : List Int} (h : Ints w v zs) (hb : Below w.heap.size w w') : Ints w' v zs := by
  obtain ⟨a, cap, rfl, hc⟩ := h
  refine ⟨a, cap, rfl, fun i hi => ?_⟩
  obtain ⟨g, off, rfl, hg, h1⟩ := hc i hi
  exact ⟨g, off, rfl, Nat.lt_of_lt_of_le hg hb.size, (hb.cell (p := ⟨g, off + i, none⟩) hg).trans h1⟩
def Txts (w : World) (v : Value) (ls : List (List UInt8)) : Prop :=
  ∃ a cap, v = .slice a ls.length cap ∧ ∀ i, i < ls.length → ∃ g off, a = some ⟨g, off, none⟩ ∧ g < w.heap.size ∧ w.cell? ⟨g, off + i, none⟩ = some (.string ⟨(ls.getD i []).toArray⟩)
theorem Txts.kept {w w' : World} {v : Value} {ls : List (List UInt8)} (h : Txts w v ls) (hb : Below w.heap.size w w') : Txts w' v ls := by
  obtain ⟨a, cap, rfl, hc⟩ := h
  refine ⟨a, cap, rfl, fun i hi => ?_⟩
  obtain ⟨g, off, rfl, hg, h1⟩ := hc i hi
  exact ⟨g, off, rfl, Nat.lt_of_lt_of_le hg hb.size, (hb.cell (p := ⟨g, off + i, none⟩) hg).trans h1⟩
end Go.Proofs.YtjfpbeccpcbpcaaGreatDoor
namespace Go.Proofs.YtjfpbeccpcbpcaaGreatDoor
open Go.ChangeShapes Go.WideShapes Go.ChangeAt Go.RowKit
def recV (x : Cr.Rec) : Value := .agg #[.int .i64 x.off, .string ⟨x.key.toArray⟩, .string ⟨x.val.toArray⟩, .bool x.gone]
def RecOk (x : Cr.Rec) : Prop := Bd.inR x.off ∧ x.key.length ≤ maxLen ∧ x.val.length ≤ maxLen
def Recs (w : World) (v : Value) (l : List Cr.Rec) : Prop :=
  ∃ a cap, v = .slice a l.length cap ∧ ∀ i x, l[i]? = some x → ∃ g off, a = some ⟨g, off, none⟩ ∧ g < w.heap.size ∧ w.cell? ⟨g, off + i * 4, none⟩ = some (.int .i64 x.off) ∧ w.cell? ⟨g, off + i * 4 + 1, none⟩ = some (.string ⟨x.key.toArray⟩) ∧
    w.cell? ⟨g, off + i * 4 + 2, none⟩ = some (.string ⟨x.val.toArray⟩) ∧ w.cell? ⟨g, off + i * 4 + 3, none⟩ = some (.bool x.gone)
theorem Recs.kept {w w' : World} {v : Value} {l : List Cr.Rec} (h : Recs w v l) (hb : Below w.heap.size w w') : Recs w' v l := by
  obtain ⟨a, cap, rfl, hc⟩ := h
  refine ⟨a, cap, rfl, fun i x hi => ?_⟩
  obtain ⟨g, off, rfl, hg, h1, h2, h3, h4⟩ := hc i x hi
  exact ⟨g, off, rfl, Nat.lt_of_lt_of_le hg hb.size, (hb.cell (p := ⟨g, off + i * 4, none⟩) hg).trans h1, (hb.cell (p := ⟨g, off + i * 4 + 1, none⟩) hg).trans h2, (hb.cell (p := ⟨g, off + i * 4 + 2, none⟩) hg).trans h3, (hb.cell (p := ⟨g, off + i * 4 + 3, none⟩) hg).trans h4⟩
theorem isNum_any (n : Int) (w : World) : Calls Tryz.prog 96 #[.int .i64 n] w fun e w' => e = .returned (.bool (Cr.isNum n)) ∧ w' = w := by
  by_cases h0 : 0 ≤ n
  · by_cases h1 : n ≤ 1099511627776
    · have HE : Hid (Cr.isNum n = true) := by simp [Hid, Cr.isNum, h0, h1]
      go_enter Tryz.func96, Tryz.ntmps96
      go_wp2
      go_ret
      refine ⟨?_, rfl⟩
      rw [HE.out]
      first | rfl | exact congrArg (fun b => Ending.returned (.bool b)) (decide_eq_true h1)
    · have HE : Hid (Cr.isNum n = false) := by simp [Hid, Cr.isNum, h0, h1]
      go_enter Tryz.func96, Tryz.ntmps96
      go_wp2
      go_ret
      refine ⟨?_, rfl⟩
      rw [HE.out]
      first | rfl | exact congrArg (fun b => Ending.returned (.bool b)) (decide_eq_false h1)
  · have HE : Hid (Cr.isNum n = false) := by simp [Hid, Cr.isNum, h0]
    go_enter Tryz.func96, Tryz.ntmps96
    go_wp2
    go_ret
    exact ⟨by rw [HE.out]; rfl, rfl⟩
theorem flag_any (b : Bool) (w : World) : Calls Tryz.prog 127 #[.bool b] w fun e w' => e = .returned (.int .i64 (Cr.flag b)) ∧ w' = w := by
  cases b <;>
  · go_enter Tryz.func127, Tryz.ntmps127
    go_wp2
    go_ret
    exact ⟨rfl, rfl⟩
theorem isRec_any (x : Cr.Rec) (hx : RecOk x) (w : World) : Calls Tryz.prog 97 #[recV x] w fun e w' => e = .returned (.bool (Cr.isRec x)) ∧ Below w.heap.size w w' := by
  obtain ⟨o, k, v, g⟩ := x
  obtain ⟨_, hk, hv⟩ := hx
  unfold maxLen at hk hv
  simp only at hk hv
  have HB : Hid (Below w.heap.size w (w.alloc (.cells #[.int .i64 o, .string ⟨k.toArray⟩, .string ⟨v.toArray⟩, .bool g] 107))) := (Below.refl _ _).alloc (Nat.le_refl _) _
  have fin : ∀ (b c : Bool), b = c → Ending.returned (.bool b) = Ending.returned (.bool c) := fun b c h => by rw [h]
  by_cases h1 : k.length ≤ 16
  · by_cases h2 : v.length ≤ 64
    · cases g with
      | false =>
        have HE : Hid (Cr.isRec ⟨o, k, v, false⟩ = true) := by simp [Hid, Cr.isRec, h1, h2]
        unfold recV
        go_enter Tryz.func97, Tryz.ntmps97
        go_wp2
        go_ret
        exact ⟨by rw [HE.out]; rfl, HB.out⟩
      | true =>
        cases v with
        | nil =>
          have HE : Hid (Cr.isRec ⟨o, k, [], true⟩ = true) := by simp [Hid, Cr.isRec, h1]
          unfold recV
          go_enter Tryz.func97, Tryz.ntmps97
          go_wp2
          go_ret
          exact ⟨by rw [HE.out]; rfl, HB.out⟩
        | cons c r =>
          have HE : Hid (Cr.isRec ⟨o, k, c :: r, true⟩ = false) := by simp [Hid, Cr.isRec]
          have h2' : r.length ≤ 63 := by simpa using h2
          unfold recV
          go_enter Tryz.func97, Tryz.ntmps97
          go_wp2
          go_ret
          exact ⟨by rw [HE.out]; rfl, HB.out⟩
    · have HE : Hid (Cr.isRec ⟨o, k, v, g⟩ = false) := by simp [Hid, Cr.isRec, h2]
      unfold recV
      go_enter Tryz.func97, Tryz.ntmps97
      go_wp2
      go_ret
      exact ⟨by rw [HE.out]; rfl, HB.out⟩
  · have HE : Hid (Cr.isRec ⟨o, k, v, g⟩ = false) := by simp [Hid, Cr.isRec, h1]
    unfold recV
    go_enter Tryz.func97, Tryz.ntmps97
    go_wp2
    go_ret
    exact ⟨by rw [HE.out]; rfl, HB.out⟩
end Go.Proofs.YtjfpbeccpcbpcaaGreatDoor
namespace Go.Proofs.YtjfpbeccpcbpcaaGreatDoor
open Go.RowKit
def batV (b : Cr.Batch) (rv : Value) : Value := .agg #[.int .i64 b.base, .int .i64 b.count, .int .i64 b.prod, .int .i64 b.seq, .int .i64 b.time, rv]
def batCells (b : Cr.Batch) (rv : Value) : Array Value := #[.int .i64 b.base, .int .i64 b.count, .int .i64 b.prod, .int .i64 b.seq, .int .i64 b.time, rv]
def BatOk (b : Cr.Batch) : Prop := Bd.inR b.base ∧ Bd.inR b.count ∧ Bd.inR b.prod ∧ Bd.inR b.seq ∧ Bd.inR b.time ∧ b.recs.length ≤ maxLen ∧ ∀ x ∈ b.recs, RecOk x
theorem four_cells (w : World) (a b c d : Int) (k : Nat) (h : k < 4) (W : World) (hb : Below (w.alloc (.cells #[.int .i64 a, .int .i64 b, .int .i64 c, .int .i64 d] 3)).heap.size (w.alloc (.cells #[.int .i64 a, .int .i64 b, .int .i64 c, .int .i64 d] 3)) W) :
    W.cell? ⟨w.heap.size, k, none⟩ = some (.int .i64 ([a, b, c, d].getD k 0)) := by
  have e1 := (hb.block w.heap.size (by simp)).trans (heap_alloc_new w _)
  match k, h with
  | 0, _ => simp [World.cell?, e1]
  | 1, _ => simp [World.cell?, e1]
  | 2, _ => simp [World.cell?, e1]
  | 3, _ => simp [World.cell?, e1]
theorem bat_cells (w : World) (b : Cr.Batch) (rv : Value) (W : World) (hb : Below (w.alloc (.cells (batCells b rv) 28)).heap.size (w.alloc (.cells (batCells b rv) 28)) W) :
    W.cell? ⟨w.heap.size, 0, none⟩ = some (.int .i64 b.base) ∧ W.cell? ⟨w.heap.size, 1, none⟩ = some (.int .i64 b.count) ∧ W.cell? ⟨w.heap.size, 2, none⟩ = some (.int .i64 b.prod) ∧ W.cell? ⟨w.heap.size, 3, none⟩ = some (.int .i64 b.seq) ∧
      W.cell? ⟨w.heap.size, 4, none⟩ = some (.int .i64 b.time) ∧ W.cell? ⟨w.heap.size, 5, none⟩ = some rv := by
  have e1 := (hb.block w.heap.size (by simp)).trans (heap_alloc_new w _)
  simp [World.cell?, e1, batCells]
theorem rec_cells (w : World) (x : Cr.Rec) (W : World) (hb : Below (w.alloc (.cells #[.int .i64 x.off, .string ⟨x.key.toArray⟩, .string ⟨x.val.toArray⟩, .bool x.gone] 107)).heap.size (w.alloc (.cells #[.int .i64 x.off, .string ⟨x.key.toArray⟩, .string ⟨x.val.toArray⟩, .bool x.gone] 107)) W) :
    W.cell? ⟨w.heap.size, 0, none⟩ = some (.int .i64 x.off) ∧ W.cell? ⟨w.heap.size, 1, none⟩ = some (.string ⟨x.key.toArray⟩) ∧ W.cell? ⟨w.heap.size, 2, none⟩ = some (.string ⟨x.val.toArray⟩) ∧ W.cell? ⟨w.heap.size, 3, none⟩ = some (.bool x.gone) := by
  have e1 := (hb.block w.heap.size (by simp)).trans (heap_alloc_new w _)
  simp [World.cell?, e1]
theorem goodRecs_step (hi next : Int) (l : List Cr.Rec) (k : Nat) (x : Cr.Rec) (h : l[k]? = some x) : Cr.goodRecs hi next (l.drop k) = (Cr.isRec x && (decide (next ≤ x.off) && (decide (x.off < hi) && Cr.goodRecs hi (x.off + 1) (l.drop (k + 1))))) := by
  obtain ⟨hk, rfl⟩ := List.getElem?_eq_some_iff.1 h
  rw [List.drop_eq_getElem_cons hk]
  rfl
set_option maxRecDepth 20000 in
set_option maxHeartbeats 6400000 in
theorem good_any (b : Cr.Batch) (hok : BatOk b) (rv : Value) (w : World) (h : Recs w rv b.recs) :
    Calls Tryz.prog 38 #[batV b rv] w fun e w' => e = .returned (.bool (Cr.good b)) ∧ Below w.heap.size w w' := by
  have HB0 : Hid (Below w.heap.size w (w.alloc (.cells (batCells b rv) 28))) := (Below.refl _ _).alloc (Nat.le_refl _) _
  have HZ := Lib.hid h
  have HC := Lib.hid (bat_cells w b rv)
  have hsz : (w.alloc (.cells (batCells b rv) 28)).heap.size = w.heap.size + 1 := World.size_alloc _ _
  have hw0 : w.alloc (.cells #[.int .i64 b.base, .int .i64 b.count, .int .i64 b.prod, .int .i64 b.seq, .int .i64 b.time, rv] 28) = w.alloc (.cells (batCells b rv) 28) := rfl
  have HW0 := Lib.hid hw0
  have HG : Hid (Cr.good b = (Cr.isNum b.base && (Cr.isNum b.prod && (Cr.isNum b.seq && (Cr.isNum b.time && (decide (1 ≤ b.count) && (decide (b.count ≤ 8) && (decide (b.base ≤ 1099511627776 - b.count) &&
    (decide ((b.recs.length : Int) ≤ b.count) && Cr.goodRecs (b.base + b.count) b.base b.recs))))))))) := rfl
  obtain ⟨⟨o1, o2⟩, ⟨o3, o4⟩, ⟨o5, o6⟩, ⟨o7, o8⟩, ⟨o9, o10⟩, o11, o12⟩ := hok
  have HR := Lib.hid o12
  obtain ⟨a, cap, hrv, -⟩ := h
  obtain ⟨base, count, prod, seq, time, recs⟩ := b
  simp only at *
  clear hw0 o12
  unfold maxLen at o11
  unfold batV
  simp only
  subst hrv
  go_enter Tryz.func38, Tryz.ntmps38
  go_wp2_with fail
  rw [HW0.out]
  clear HW0
  generalize w.alloc (.cells (batCells ⟨base, count, prod, seq, time, recs⟩ (.slice a recs.length cap)) 28) = w0 at *
  have HF := Lib.hid (four_cells w0 base prod seq time)
  have B1 : Hid (Below w0.heap.size w0 (w0.alloc (.cells #[.int .i64 base, .int .i64 prod, .int .i64 seq, .int .i64 time] 3))) := (Below.refl _ _).alloc (Nat.le_refl _) _
  generalize w0.alloc (.cells #[.int .i64 base, .int .i64 prod, .int .i64 seq, .int .i64 time] 3) = w1 at *
  go_loopw [18] (fun i wr => ∃ k : Nat, i = .int .i64 k ∧ k ≤ 4 ∧ (∀ j, j < k → Cr.isNum ([base, prod, seq, time].getD j 0) = true) ∧ Below w1.heap.size w1 wr) (fun i _ => 4 - (intOf i).toNat)
  case atStart => exact ⟨0, rfl, by omega, fun j hj => by omega, Below.refl _ _⟩
  case round =>
    obtain ⟨k, rfl, hk, hn, hb⟩ := hrel
    have HN := Lib.hid hn
    have HB := Lib.hid hb
    clear hn hb
    have BW : Hid (Below w.heap.size w wr) := HB0.out.trans ((B1.out.trans (HB.out.mono B1.out.size)).mono HB0.out.size)
    by_cases hlt : k < 4
    · have hc1 := HF.out k hlt _ HB.out
      rw [hsz] at hc1
      have HNI := Lib.hid (fun w => isNum_any ([base, prod, seq, time].getD k 0) w)
      have HNX : Hid (Cr.isNum ([base, prod, seq, time].getD k 0) = true → ∀ j, j < k + 1 → Cr.isNum ([base, prod, seq, time].getD j 0) = true) := fun h j hj => by
        by_cases e : j = k
        · rw [e]; exact h
        · exact HN.out j (by omega)
      have HNG : Hid (Cr.isNum ([base, prod, seq, time].getD k 0) = false → Cr.good ⟨base, count, prod, seq, time, recs⟩ = false) := fun h => by
        rw [HG.out]
        match k, hlt, h with
        | 0, _, h => rw [show Cr.isNum base = false from h]; rfl
        | 1, _, h => rw [show Cr.isNum prod = false from h]; simp
        | 2, _, h => rw [show Cr.isNum seq = false from h]; simp
        | 3, _, h => rw [show Cr.isNum time = false from h]; simp
      generalize [base, prod, seq, time].getD k 0 = n at *
      cases hb : Cr.isNum n with
      | true =>
        rw [hb] at HNI
        have HX := Lib.hid (HNX.out hb)
        clear HNX HNG hb
        go_wp2_with fail
        refine (HNI.out _).mono ?_
        rintro e w5 ⟨rfl, rfl⟩
        go_wp2
        go_roundw
        case rel => exact ⟨k + 1, by go_num, by omega, HX.out, HB.out⟩
        case measure => simp [intOf]; omega
      | false =>
        rw [hb] at HNI
        have HX := Lib.hid (HNG.out hb)
        clear HNX HNG hb
        go_wp2_with fail
        refine (HNI.out _).mono ?_
        rintro e w5 ⟨rfl, rfl⟩
        go_wp2
        go_ret
        exact ⟨by rw [HX.out]; rfl, BW.out⟩
    · obtain rfl : k = 4 := by omega
      have n0 : Cr.isNum base = true := HN.out 0 (by omega)
      have n1 : Cr.isNum prod = true := HN.out 1 (by omega)
      have n2 : Cr.isNum seq = true := HN.out 2 (by omega)
      have n3 : Cr.isNum time = true := HN.out 3 (by omega)
      have HG2 : Hid (Cr.good ⟨base, count, prod, seq, time, recs⟩ = (decide (1 ≤ count) && (decide (count ≤ 8) && (decide (base ≤ 1099511627776 - count) && (decide ((recs.length : Int) ≤ count) && Cr.goodRecs (base + count) base recs))))) := by
        rw [Hid, HG.out, n0, n1, n2, n3]
        rfl
      simp only [Cr.isNum, Bool.and_eq_true, decide_eq_true_eq] at n0
      obtain ⟨n0, n00⟩ := n0
      clear n1 n2 n3 HG HN
      have HBB : Hid (Below w0.heap.size w0 wr) := B1.out.trans (HB.out.mono B1.out.size)
      obtain ⟨c0, c1, c2, c3, c4, c5⟩ := HC.out _ HBB.out
      by_cases hc : 1 ≤ count ∧ count ≤ 8 ∧ base ≤ 1099511627776 - count ∧ (recs.length : Int) ≤ count
      · obtain ⟨d1, d2, d3, d4⟩ := hc
        have HH : Hid (Cr.good ⟨base, count, prod, seq, time, recs⟩ = Cr.goodRecs (base + count) base recs) := by
          rw [Hid, HG2.out, decide_eq_true d1, decide_eq_true d2, decide_eq_true d3, decide_eq_true d4]
          rfl
        have HZr : Hid (Recs wr (.slice a recs.length cap) recs) := HZ.out.kept BW.out
        clear HG2 HZ HB B1 HF
        generalize wr = w3 at *
        go_wp2_with fail
        go_loopw [55, 5] (fun i nx w4 => ∃ (k : Nat) (n : Int), i = .int .i64 k ∧ nx = .int .i64 n ∧ k ≤ recs.length ∧ Cr.goodRecs (base + count) base recs = Cr.goodRecs (base + count) n (recs.drop k) ∧ Below w3.heap.size w3 w4) (fun i _ _ => recs.length - (intOf i).toNat)
        case atStart => exact ⟨0, base, rfl, rfl, by omega, rfl, Below.refl _ _⟩
        case round =>
          obtain ⟨k, n, rfl, rfl, hk2, hr, hb2⟩ := hrel
          have HR2 := Lib.hid hr
          have B2 := Lib.hid hb2
          have BW2 : Hid (Below w.heap.size w wr) := bt BW.out B2.out
          clear hr hb2
          by_cases hlt : k < recs.length
          · obtain ⟨x, hx⟩ : ∃ x, recs[k]? = some x := ⟨recs[k], by simp [hlt]⟩
            have hxo := HR.out x (List.mem_of_getElem? hx)
            have HS := Lib.hid (goodRecs_step (base + count) n recs k x hx)
            obtain ⟨a', cap', he, hcells⟩ := HZr.out
            injection he with he1 he2 he3
            subst he1 he3
            obtain ⟨g, off, rfl, hg, q0, q1, q2, q3⟩ := hcells k x hx
            have p0 := (B2.out.cell (p := ⟨g, off + k * 4, none⟩) hg).trans q0
            have p1 := (B2.out.cell (p := ⟨g, off + k * 4 + 1, none⟩) hg).trans q1
            have p2 := (B2.out.cell (p := ⟨g, off + k * 4 + 2, none⟩) hg).trans q2
            have p3 := (B2.out.cell (p := ⟨g, off + k * 4 + 3, none⟩) hg).trans q3
            obtain ⟨x0, xk, xv, xg⟩ := x
            obtain ⟨⟨xo1, xo2⟩, xkl, xvl⟩ := hxo
            simp only at p0 p1 p2 p3 xo1 xo2 xkl xvl
            clear q0 q1 q2 q3 hcells he2
            have BA : Hid (Below w.heap.size w (wr.alloc (.cells #[.int .i64 x0, .string ⟨xk.toArray⟩, .string ⟨xv.toArray⟩, .bool xg] 107))) := BW2.out.alloc BW2.out.size _
            have B2A : Hid (Below w3.heap.size w3 (wr.alloc (.cells #[.int .i64 x0, .string ⟨xk.toArray⟩, .string ⟨xv.toArray⟩, .bool xg] 107))) := B2.out.alloc B2.out.size _
            have HCX := Lib.hid (rec_cells wr ⟨x0, xk, xv, xg⟩)
            have HN := Lib.hid (fun w => isRec_any ⟨x0, xk, xv, xg⟩ ⟨⟨xo1, xo2⟩, xkl, xvl⟩ w)
            have hHS : Cr.goodRecs (base + count) n (recs.drop k) = (Cr.isRec ⟨x0, xk, xv, xg⟩ && (decide (n ≤ x0) && (decide (x0 < base + count) && Cr.goodRecs (base + count) (x0 + 1) (recs.drop (k + 1))))) := HS.out
            by_cases hok : Cr.isRec ⟨x0, xk, xv, xg⟩ = true ∧ n ≤ x0 ∧ x0 < base + count
            · obtain ⟨k1, k2, k3⟩ := hok
              have HX : Hid (Cr.goodRecs (base + count) base recs = Cr.goodRecs (base + count) (x0 + 1) (recs.drop (k + 1))) := by
                rw [Hid, HR2.out, hHS, k1, decide_eq_true k2, decide_eq_true k3]
                rfl
              rw [k1] at HN
              clear hHS HS k1
              go_wp2_with fail
              refine (HN.out _).mono ?_
              rintro e w6 ⟨rfl, hb6⟩
              have B6 : Hid (Below w3.heap.size w3 w6) := bt B2A.out hb6
              obtain ⟨t0, t1, t2, t3⟩ := HCX.out _ hb6
              obtain ⟨e0, e1, _, _, _, e5⟩ := HC.out _ (bt HBB.out B6.out)
              try dsimp only at t0 e0 e1
              clear hb6
              go_wp2
              go_roundw
              case rel => exact ⟨k + 1, x0 + 1, by go_num, by go_num, by omega, HX.out, B6.out⟩
              case measure => simp [intOf]; omega
            · have HX : Hid (Cr.good ⟨base, count, prod, seq, time, recs⟩ = false) := by
                rw [Hid, HH.out, HR2.out, hHS]
                cases h : (Cr.isRec ⟨x0, xk, xv, xg⟩ && (decide (n ≤ x0) && (decide (x0 < base + count) && Cr.goodRecs (base + count) (x0 + 1) (recs.drop (k + 1))))) with
                | false => rfl
                | true =>
                  simp only [Bool.and_eq_true, decide_eq_true_eq] at h
                  exact absurd ⟨h.1, h.2.1, h.2.2.1⟩ hok
              clear hHS HS
              cases hb : Cr.isRec ⟨x0, xk, xv, xg⟩ with
              | false =>
                rw [hb] at HN
                clear hb hok
                go_wp2_with fail
                refine (HN.out _).mono ?_
                rintro e w6 ⟨rfl, hb6⟩
                have B6 : Hid (Below w.heap.size w w6) := bt BA.out hb6
                obtain ⟨t0, t1, t2, t3⟩ := HCX.out _ hb6
                obtain ⟨e0, e1, _, _, _, e5⟩ := HC.out _ (bt HBB.out (bt B2A.out hb6))
                try dsimp only at t0 e0 e1
                clear hb6
                go_wp2
                go_ret
                exact ⟨by rw [HX.out]; rfl, B6.out⟩
              | true =>
                rw [hb] at HN
                by_cases hn : n ≤ x0
                · have hn2 : ¬ x0 < base + count := fun h => hok ⟨hb, hn, h⟩
                  clear hb hok
                  go_wp2_with fail
                  refine (HN.out _).mono ?_
                  rintro e w6 ⟨rfl, hb6⟩
                  have B6 : Hid (Below w.heap.size w w6) := bt BA.out hb6
                  obtain ⟨t0, t1, t2, t3⟩ := HCX.out _ hb6
                  obtain ⟨e0, e1, _, _, _, e5⟩ := HC.out _ (bt HBB.out (bt B2A.out hb6))
                  try dsimp only at t0 e0 e1
                  clear hb6
                  go_wp2
                  go_ret
                  exact ⟨by rw [HX.out]; rfl, B6.out⟩
                · clear hb hok
                  go_wp2_with fail
                  refine (HN.out _).mono ?_
                  rintro e w6 ⟨rfl, hb6⟩
                  have B6 : Hid (Below w.heap.size w w6) := bt BA.out hb6
                  obtain ⟨t0, t1, t2, t3⟩ := HCX.out _ hb6
                  obtain ⟨e0, e1, _, _, _, e5⟩ := HC.out _ (bt HBB.out (bt B2A.out hb6))
                  try dsimp only at t0 e0 e1
                  clear hb6
                  go_wp2
                  go_ret
                  exact ⟨by rw [HX.out]; rfl, B6.out⟩
          · obtain rfl : k = recs.length := by omega
            have HX : Hid (Cr.good ⟨base, count, prod, seq, time, recs⟩ = true) := by
              rw [Hid, HH.out, HR2.out, List.drop_length]
              rfl
            go_wp2
            go_ret
            exact ⟨by rw [HX.out]; rfl, BW2.out⟩
      · have HX : Hid (Cr.good ⟨base, count, prod, seq, time, recs⟩ = false) := by
          rw [Hid, HG2.out]
          by_cases e1 : 1 ≤ count
          · by_cases e2 : count ≤ 8
            · by_cases e3 : base ≤ 1099511627776 - count
              · rw [decide_eq_false (p := (recs.length : Int) ≤ count) (fun e4 => hc ⟨e1, e2, e3, e4⟩)]; simp
              · rw [decide_eq_false e3]; simp
            · rw [decide_eq_false e2]; simp
          · rw [decide_eq_false e1]; rfl
        go_wp2
        all_goals first
          | (exfalso; omega)
          | (go_ret; exact ⟨by rw [HX.out]; rfl, BW.out⟩)
end Go.Proofs.YtjfpbeccpcbpcaaGreatDoor
