/-
  Sl / Opn / Oi / Cwa / Cwb: texts of one proof, one behind the other.
  Conditions: none of its own.
-/
import Derived.Test.YtbljbdjmgogknaaGreatDoorZaa
import Derived.Deep.MidRow
import Derived.Deep.AppendSrc
import Derived.Deep.Upon
import Derived.ProofKit
import Derived.OpenShut
import Derived.Deep.Slices
import Derived.Test.YtbljbdjmgogknaaGreatDoorRows
import Derived.Deep.Strs
import Derived.Lib.SmallJoins
set_option linter.unusedVariables false
set_option linter.unusedSimpArgs false
namespace Go.Proofs.YtbljbdjmgogknaaGreatDoor
open Go.RowKit
structure Keeps (S : Nat → Prop) (w w' : World) : Prop where
 os : w'.os = w.os
 tape : w'.tape = w.tape
 output : w'.output = w.output
 size : w.heap.size ≤ w'.heap.size
 block : ∀ k, k < w.heap.size → ¬ S k → w'.heap[k]? = w.heap[k]?
theorem Keeps.refl (S : Nat → Prop) (w : World) : Keeps S w w := ⟨rfl, rfl, rfl, Nat.le_refl _, fun _ _ _ => rfl⟩
theorem Keeps.trans {S : Nat → Prop} {a b c : World} (h : Keeps S a b) (k : Keeps S b c) : Keeps S a c :=
 ⟨k.os.trans h.os, k.tape.trans h.tape, k.output.trans h.output, Nat.le_trans h.size k.size, fun i hi hs => (k.block i (Nat.lt_of_lt_of_le hi h.size) hs).trans (h.block i hi hs)⟩
theorem Keeps.mono {S T : Nat → Prop} {a b : World} (h : Keeps S a b) (hs : ∀ k, k < a.heap.size → S k → T k) : Keeps T a b :=
 ⟨h.os, h.tape, h.output, h.size, fun k hk ht => h.block k hk (fun s => ht (hs k hk s))⟩
theorem Keeps.drewN (S : Nat → Prop) (w : World) (n : Nat) : Keeps S w (w.drewN n) := ⟨rfl, rfl, rfl, Nat.le_refl _, fun _ _ _ => rfl⟩
theorem Keeps.drew (S : Nat → Prop) (w : World) : Keeps S w w.drew := ⟨rfl, rfl, rfl, Nat.le_refl _, fun _ _ _ => rfl⟩
theorem Keeps.alloc (S : Nat → Prop) (w : World) (o : Obj) : Keeps S w (w.alloc o) := ⟨rfl, rfl, rfl, by simp, fun k hk _ => Below.heap_alloc w o k hk⟩
theorem Keeps.setCell (S : Nat → Prop) (w : World) (a : Addr) (u : Value) (h : S a.block) : Keeps S w (w.setCell a u) :=
 ⟨rfl, rfl, rfl, by simp [World.setCell], fun k hk hs => Below.heap_setCell _ _ _ _ (fun e => hs (e ▸ h))⟩
theorem Keeps.grown {S : Nat → Prop} {w w' : World} {row : Option Nat} (hg : w.grownBy w' row) (h : ∀ k, row = some k → S k) : Keeps S w w' :=
 ⟨hg.os, hg.tape, hg.output, hg.size, fun k hk hs => hg.block k hk (fun e => hs (h k e.symm))⟩
theorem Keeps.below {w w' : World} (S : Nat → Prop) (h : Below w.heap.size w w') : Keeps S w w' := ⟨h.os, h.tape, h.output, h.size, fun k hk _ => h.block k hk⟩
theorem Keeps.toBelow {S : Nat → Prop} {B : Nat} {w w' : World} (h : Keeps S w w') (hB : B ≤ w.heap.size) (hs : ∀ k, k < B → ¬ S k) : Below B w w' :=
 ⟨h.os, h.tape, h.output, h.size, fun k hk => h.block k (by omega) (hs k hk)⟩
theorem Keeps.cell {S : Nat → Prop} {w w' : World} (h : Keeps S w w') {a : Addr} (hb : a.block < w.heap.size) (hs : ¬ S a.block) : w'.cell? a = w.cell? a := World.cell?_of_block (w := w) (h.block a.block hb hs)
theorem Keeps.frozen {S : Nat → Prop} {w w' : World} (h : Keeps S w w') {a : Addr} (hb : a.block < w.heap.size) (hs : ¬ S a.block) : w'.frozen? a = w.frozen? a := World.frozen?_of_block (w := w) (h.block a.block hb hs)
theorem Keeps.rangeAt {S : Nat → Prop} {w w' : World} (h : Keeps S w w') {g o : Nat} {xs : List Value} (hx : w.rangeAt g o xs) (hs : ¬ S g) : w'.rangeAt g o xs := fun j v hv => by
 have hc := hx j v hv
 rw [h.cell (a := ⟨g, o + j, none⟩) (World.block_lt_of_cell? w _ hc) hs]; exact hc
theorem Keeps.there {S : Nat → Prop} {w w' : World} (h : Keeps S w w') {g o n : Nat} (hx : w.there g o n) (hs : ¬ S g) : w'.there g o n := fun j hj => by
 obtain ⟨h1, h2⟩ := hx j hj
 obtain ⟨u, hu⟩ := Option.isSome_iff_exists.1 h1
 have hb := World.block_lt_of_cell? w _ hu
 rw [h.cell (a := ⟨g, o + j, none⟩) hb hs, h.frozen (a := ⟨g, o + j, none⟩) hb hs]; exact ⟨h1, h2⟩
theorem tape_setCells (w : World) (g : Nat) : ∀ (o : Nat) (vs : List Value), (w.setCells g o vs).tape = w.tape := by
 intro o vs
 induction vs generalizing w o with
 | nil => rfl
 | cons v r ih => rw [World.setCells, ih]; rfl
theorem size_setCells (w : World) (g : Nat) : ∀ (o : Nat) (vs : List Value), (w.setCells g o vs).heap.size = w.heap.size := by
 intro o vs
 induction vs generalizing w o with
 | nil => rfl
 | cons v r ih => rw [World.setCells, ih]; simp [World.setCell]
theorem size_setCells_ge (w : World) (g o : Nat) (vs : List Value) : w.heap.size ≤ (w.setCells g o vs).heap.size := by rw [size_setCells]; exact Nat.le_refl _
def Sl (w : World) (base size : Nat) (v : Value) (n : Nat) (xs : List Value) : Prop :=
 xs.length = n * size ∧ ((v = .slice none 0 0 ∧ n = 0) ∨
  ∃ g off cap, v = .slice (some ⟨g, off, none⟩) n cap ∧ base ≤ g ∧ g < w.heap.size ∧ n ≤ cap ∧ cap ≤ maxLen ∧ w.rangeAt g off xs ∧ w.there g off (cap * size))
theorem Sl.nil (w : World) (base size : Nat) : Sl w base size (.slice none 0 0) 0 [] := ⟨by simp, .inl ⟨rfl, rfl⟩⟩
theorem Sl.kept {S : Nat → Prop} {w w' : World} {base size : Nat} {v : Value} {n : Nat} {xs : List Value} (h : Sl w base size v n xs) (hk : Keeps S w w') (hs : ∀ k, v.ownBlock = some k → ¬ S k) : Sl w' base size v n xs := by
 refine ⟨h.1, ?_⟩
 rcases h.2 with h2 | ⟨g, off, cap, rfl, hB, hg, hn, hm, hr, ht⟩
 ·exact .inl h2
 ·have hsg := hs g rfl
  exact .inr ⟨g, off, cap, rfl, hB, Nat.lt_of_lt_of_le hg hk.size, hn, hm, hk.rangeAt hr hsg, hk.there ht hsg⟩
theorem Sl.lt {w : World} {base size : Nat} {v : Value} {n : Nat} {xs : List Value} (h : Sl w base size v n xs) : ∀ k, v.ownBlock = some k → base ≤ k ∧ k < w.heap.size := by
 intro k hk
 rcases h.2 with ⟨rfl, _⟩ | ⟨g, off, cap, rfl, hB, hg, _⟩
 ·simp [Value.ownBlock] at hk
 ·simp [Value.ownBlock] at hk
  subst hk
  exact ⟨hB, hg⟩
theorem Sl.ofOwn {w : World} {base : Nat} {e : TypeId} {size : Nat} {v : Value} {n : Nat} {xs : List Value} (h : w.ownsRow base e size v n xs) : Sl w base size v n xs := by
 refine ⟨h.1, ?_⟩
 have hh := h
 rcases h.2 with h2 | ⟨g, cap, cur, rfl, hB, hg, hn, hm, hs, ht⟩
 ·exact .inl h2
 ·refine .inr ⟨g, 0, cap, rfl, hB, (Array.getElem?_eq_some_iff.1 hg).1, hn, hm, fun j u hu => ?_, fun j hj => ?_⟩
  ·have := hh.cells (g := g) rfl j u hu
   rwa [Addr.add_mid] at this
  ·rw [cell_of_row w g (0 + j) cur e (0, 0) hg]
   refine ⟨by simp; omega, ?_⟩
   simp [World.frozen?, hg]
theorem Sl.form {w : World} {base size : Nat} {v : Value} {n : Nat} {xs : List Value} (h : Sl w base size v n xs) : ∃ a cap, v = .slice a n cap ∧ n ≤ cap ∧ (a = none ∨ ∃ b off, a = some ⟨b, off, none⟩) := by
 rcases h.2 with ⟨rfl, rfl⟩ | ⟨g, off, cap, rfl, hB, hg, hn, hm, hr, ht⟩
 ·exact ⟨none, 0, rfl, Nat.le_refl _, .inl rfl⟩
 ·exact ⟨_, cap, rfl, hn, .inr ⟨g, off, rfl⟩⟩
section
variable {P : Program}
theorem rangeAt_append {w : World} {g o : Nat} {a b : List Value} (ha : w.rangeAt g o a) (hb : w.rangeAt g (o + a.length) b) : w.rangeAt g o (a ++ b) := fun j v hv => by
 by_cases h : j < a.length
 ·rw [List.getElem?_append_left h] at hv; exact ha j v hv
 ·rw [List.getElem?_append_right (by omega)] at hv
  have := hb _ v hv
  rwa [show o + a.length + (j - a.length) = o + j by omega] at this
theorem run_append_sl (w : World) (t ty e : TypeId) (i : TypeInfo) (z : Value) (size bytes : Nat) (ht : P.underlying t = some (.slice e)) (hi : P.info? e = some i) (hz : i.zero = some z)
  (hsize : i.size = size) (hby : i.bytes = bytes) (hzs : z.cells.size = size) (hsz : 0 < size) (base : Nat)
  (v : Value) (n : Nat) (xs : List Value) (hown : Sl w base size v n xs) (sv : Value) (m : Nat) (ys : List Value) (hsrc : SrcIs w size sv m ys) (h1 : ∀ u ∈ ys, u.oneCell' = true)
  (h63 : n + m ≤ maxLen) (hbytes : (n + m) * bytes ≤ 140737488355328) (hbase : base ≤ w.heap.size) :
  ∃ v' w', (Builtin.append_ #[t, t] ty #[v, sv]).run P w = .ok v' w' ∧ Sl w' base size v' (n + m) (xs ++ ys) ∧ w.grownBy w' v.ownBlock ∧ (v'.ownBlock = v.ownBlock ∨ ∀ k, v'.ownBlock = some k → w.heap.size ≤ k) := by
 have hlen : (xs ++ ys).length = (n + m) * size := by
  rw [List.length_append, hown.1, Nat.add_mul]
  rcases hsrc with ⟨_, rfl, rfl⟩ | ⟨ad, c, _, hl, _⟩
  ·simp
  ·rw [hl]
 have hs : Src P size t sv m ys w := by
  rcases hsrc with ⟨rfl, rfl, rfl⟩ | ⟨ad, c, rfl, hl, hc⟩
  ·exact Src.ofNil w ht 0
  ·exact Src.ofSlice w ht ad m c ys hl hc h1
 by_cases hm0 : m = 0
 ·subst hm0
  have hy : ys = [] := List.eq_nil_of_length_eq_zero (by have := hs.newsLen; simpa using this)
  subst hy
  have hr : (Builtin.append_ #[t, t] ty #[v, sv]).run P w = .ok v w := by
   rcases hown.2 with ⟨rfl, rfl⟩ | ⟨g, off, cap, rfl, hB, hg, hn, hmx, hra, hth⟩
   ·have hc := hs.cells
    subst hsize
    simp only [List.toArray] at hc
    simp [Builtin.append_, run_underlying ht, sizeOf, typeInfo, hi, hs.len, hc]
   ·have := run_append_room_src (P := P) w t t ty e i ht hi g off n cap sv 0 [] (by rw [hsize]; exact hs) (by omega) (fun j hj => by simp at hj) (fun j hj => by simp at hj)
    simpa [World.setCells] using this
  exact ⟨v, w, hr, by simpa using hown, ⟨rfl, rfl, rfl, Nat.le_refl _, fun _ _ _ => rfl⟩, .inl rfl⟩
 ·have grown : ∀ (ao : Option Addr) (cap : Nat), (Builtin.firstCells i.size n (.slice ao n cap)).run P w.drew = .ok xs.toArray w.drew → v = .slice ao n cap → cap < n + m →
    ∃ v' w', (Builtin.append_ #[t, t] ty #[v, sv]).run P w = .ok v' w' ∧ Sl w' base size v' (n + m) (xs ++ ys) ∧ w.grownBy w' v.ownBlock ∧ (v'.ownBlock = v.ownBlock ∨ ∀ k, v'.ownBlock = some k → w.heap.size ≤ k) := by
   intro ao cap hold hv hc
   subst hv
   have hr := run_append_grow_src (P := P) w t t ty e i z ht hi hz ao n cap xs hold sv m ys (by rw [hsize]; exact hs) hc (by simp only [maxLen] at h63; omega) (by rw [hby]; exact growslice_fits hc hbytes)
   have hge := grownCap_ge w (n + m) cap e
   have hcm := grownCap_le_maxLen w (n + m) cap e h63
   have how : (w.drew.alloc (.cells ((xs ++ ys).toArray ++ Builtin.zeroCells z.cells (grownCap w (n + m) cap e - (n + m))) e)).ownsRow base e size (.slice (some ⟨w.heap.size, 0, none⟩) (n + m) (grownCap w (n + m) cap e)) (n + m) (xs ++ ys) := by
    refine ⟨hlen, .inr ⟨w.heap.size, _, _, rfl, hbase, heap_alloc_new w.drew _, hge, hcm, ?_, ?_⟩⟩
    ·simp only [Array.size_append, List.size_toArray, size_zeroCells, hzs, hlen, ← Nat.add_mul]
     congr 1
     omega
    ·simp only [Array.toList_append]
     rw [← hlen]
     exact List.take_left
   exact ⟨_, _, hr, Sl.ofOwn how, ⟨rfl, rfl, rfl, by simp, fun k hk _ => Below.heap_alloc w.drew _ k hk⟩, .inr (fun k hk => by simp [Value.ownBlock] at hk; omega)⟩
  rcases hown.2 with ⟨rfl, rfl⟩ | ⟨g, off, cap, rfl, hB, hg, hn, hmx, hra, hth⟩
  ·have hx : xs = [] := List.eq_nil_of_length_eq_zero (by simpa using hown.1)
   subst hx
   exact grown none 0 (run_firstCells_none w.drew i.size 0 0 0) rfl (by omega)
  ·by_cases hroom : n + m ≤ cap
   ·have hyl : ys.length = m * size := hs.newsLen
    have hle : n * size + ys.length ≤ cap * size := by rw [hyl, ← Nat.add_mul]; exact Nat.mul_le_mul_right _ hroom
    have hts : w.there g (off + n * size) ys.length := fun j hj => by
     have := hth (n * size + j) (by omega)
     rwa [← Nat.add_assoc] at this
    have hr := run_append_room_src (P := P) w t t ty e i ht hi g off n cap sv m ys (by rw [hsize]; exact hs) hroom (fun j hj => by rw [hsize]; exact (hts j hj).1) (fun j hj => by rw [hsize]; exact (hts j hj).2)
    rw [hsize] at hr
    refine ⟨_, _, hr, ⟨hlen, .inr ⟨g, off, cap, rfl, hB, ?_, hroom, hmx, rangeAt_append (World.rangeAt_setCells_apart hra _ _ _ (.inr (.inl (by rw [hown.1]; omega)))) ?_, World.there_setCells hth _ _ _⟩⟩, ⟨World.os_setCells .., ?_, World.output_setCells .., ?_, fun k hk hne => World.heap_setCells_other w g _ _ hk (fun e => hne (by simp [Value.ownBlock, e]))⟩, .inl rfl⟩
    ·exact Nat.lt_of_lt_of_le hg (size_setCells_ge w g _ ys)
    ·rw [hown.1]; exact World.rangeAt_setCells_same w g _ ys hts
    ·exact tape_setCells w g _ ys
    ·exact size_setCells_ge w g _ ys
   ·exact grown (some ⟨g, off, none⟩) cap (by rw [hsize]; exact run_firstCells_some w.drew size n ⟨g, off, none⟩ n cap xs hown.1 (fun j u hu => by rw [Addr.add_mid]; simpa using hra j u hu)) rfl (by omega)
end
theorem wpList_append_sl {P : Program} {w : World} {ops : Array Oper} {rest : List Oper} {o : Oper} {a : Act} {Q : Exit → Act → World → Prop} (hgd : o.guard = none) (s x : Operand) (t : TypeId)
  (ho : o.op = .call { callee := .builtin .append, args := #[s, x], argTypes := #[t, t] })
  (e : TypeId) (i : TypeInfo) (z : Value) (size bytes : Nat) (ht : P.underlying t = some (.slice e)) (hi : P.info? e = some i) (hz : i.zero = some z)
  (hsize : i.size = size) (hby : i.bytes = bytes) (hzs : z.cells.size = size) (hsz : 0 < size) (base : Nat)
  (v : Value) (n : Nat) (xs : List Value) (hs : a.eval s = v) (hown : Sl w base size v n xs) (sv : Value) (m : Nat) (ys : List Value) (hx : a.eval x = sv) (hsrc : SrcIs w size sv m ys) (h1 : ∀ u ∈ ys, u.oneCell' = true)
  (h63 : n + m ≤ maxLen) (hbytes : (n + m) * bytes ≤ 140737488355328) (hbase : base ≤ w.heap.size)
  (h : ∀ v' w', Sl w' base size v' (n + m) (xs ++ ys) → w.grownBy w' v.ownBlock → (v'.ownBlock = v.ownBlock ∨ ∀ k, v'.ownBlock = some k → w.heap.size ≤ k) → wpList P ops Q rest (a.put o.dst v') w') : wpList P ops Q (o :: rest) a w := by
 refine wpList_plain hgd fun K hK => ?_
 obtain ⟨v', w', hr, h2, h3, h4⟩ := run_append_sl (P := P) w t o.type e i z size bytes ht hi hz hsize hby hzs hsz base v n xs hown sv m ys hsrc h1 h63 hbytes hbase
 unfold Oper.wp execOp
 simp only [ho, resolve, invoke, builtin, Sem.run_bind, Sem.run_pure, Result.andThen_ok, List.map_toArray, List.map_cons, List.map_nil, hs, hx, hr]
 exact hK _ _ (h v' w' h2 h3 h4)
end Go.Proofs.YtbljbdjmgogknaaGreatDoor
namespace Go.Proofs.YtbljbdjmgogknaaGreatDoor
open Go.ChangeShapes Go.WideShapes Go.ChangeAt Go.RowKit
theorem slice_wide {P : Program} {W : World} {r : Reach} {base : Nat} {t e : TypeId} {v : Value} (hs : P.underlying t = some (.slice e)) (h : Value.okWide P W r base t v) :
  v = .slice none 0 0 ∨ ∃ b off len cap, v = .slice (some ⟨b, off, none⟩) len cap ∧ len ≤ cap ∧ cap ≤ maxLen ∧ b < W.heap.size := by
 simp only [Value.okWide, hs] at h
 cases v <;> simp [Cell.okWide, Cell.ok, hs] at h
 case slice a len cap =>
  cases a with
  | none =>
   left
   revert h
   cases len <;> cases cap <;> simp
  | some a =>
   right
   obtain ⟨h1, h2, h3⟩ := h
   obtain ⟨_, hsp, row, cells, hsh, _⟩ := h3
   obtain ⟨b, off, spot⟩ := a
   simp only at hsp
   subst hsp
   refine ⟨b, off, len, cap, rfl, h1, ?_, ?_⟩
   ·unfold maxLen
    omega
   ·rcases Nat.lt_or_ge b W.heap.size with hlt | hge
    ·exact hlt
    ·simp [World.shape?, Array.getElem?_eq_none hge] at hsh
theorem slice_open {P : Program} {W : World} {r : Reach} {base b0 : Nat} {t e : TypeId} {v : Value} {H : Type} {enc : TypeId × Value → H} {spare : Nat → Bool} {held : Bool} {d : DataW H} {p : List MemPlace}
  (hs : P.underlying t = some (.slice e)) (hv : Value.okWide P W r base t v) (h : DataW.Trod enc P W b0 spare held t v d p) :
  ∃ a len cap, v = .slice a len cap ∧ len ≤ cap ∧ cap ≤ maxLen ∧ (a = none → len = 0 ∧ cap = 0) ∧ (∀ x, a = some x → ∃ b off, x = ⟨b, off, none⟩ ∧ b < W.heap.size) ∧
   ∀ i, i < len → ∃ b off cs n y, a = some ⟨b, off, none⟩ ∧ b < W.heap.size ∧ cs.length = P.cellsOf e ∧ (∀ j, j < P.cellsOf e → W.cell? ⟨b, off + i * P.cellsOf e + j, none⟩ = cs[j]?) ∧
    DataW.trod enc P W b0 spare held n e cs = some y := by
 obtain ⟨fuel, hf⟩ := h
 rcases slice_wide hs hv with rfl | ⟨b, off, len, cap, rfl, hl, hm, hlt⟩
 ·exact ⟨none, 0, 0, rfl, Nat.le_refl _, Nat.zero_le _, fun _ => ⟨rfl, rfl⟩, fun x hx => (by cases hx), fun i hi => by omega⟩
 ·have hf' : DataW.trod enc P W b0 spare held fuel t [.slice (some ⟨b, off, none⟩) len cap] = some (d, p) := by simpa [Value.cells] using hf
  rcases Go.Deep.open_slice hs hf' with ⟨hcs, _⟩ | ⟨a, l, c, m, n, D, Pl, hcs, hb, hl', hm', hmm, hx, hel⟩
  ·simp at hcs
  ·simp at hcs
   obtain ⟨rfl, rfl, rfl⟩ := hcs
   refine ⟨_, len, cap, rfl, hl, hm, fun h0 => (by cases h0), fun x hx' => ⟨b, off, (Option.some.inj hx').symm, hlt⟩, fun i hi => ?_⟩
   obtain ⟨cs, h1, h2⟩ := hel i (by rw [hmm]; split <;> omega)
   obtain ⟨_, hlen, hcell⟩ := World.cells?_some h1
   refine ⟨b, off, cs, n, _, rfl, hlt, hlen, fun j hj => ?_, h2⟩
   have := hcell j hj
   rw [Go.Deep.add_add] at this
   rw [← this]
   unfold Addr.add
   split
   ·simp_all
   ·simp [Nat.add_assoc]
theorem list_of {α : Type} {n : Nat} (dflt : α) (p : Nat → α → Prop) (h : ∀ i, i < n → ∃ x, p i x) : ∃ l : List α, l.length = n ∧ ∀ i, i < n → p i (l.getD i dflt) := by
 induction n with
 | zero => exact ⟨[], rfl, fun i hi => by omega⟩
 | succ n ih =>
  obtain ⟨l, hl, hp⟩ := ih fun i hi => h i (by omega)
  obtain ⟨x, hx⟩ := h n (by omega)
  refine ⟨l ++ [x], by simp [hl], fun i hi => ?_⟩
  by_cases hin : i < n
  ·have := hp i hin
   simpa [List.getD, List.getElem?_append, hl, hin] using this
  ·have : i = n := by omega
   subst this
   simpa [List.getD, hl] using hx
end Go.Proofs.YtbljbdjmgogknaaGreatDoor
namespace Go.Proofs.YtbljbdjmgogknaaGreatDoor
open Go.ChangeShapes Go.WideShapes Go.ChangeAt Go.RowKit
def Ints (w : World) (v : Value) (zs : List Int) : Prop :=
 ∃ a cap, v = .slice a zs.length cap ∧ ∀ i, i < zs.length → ∃ g off, a = some ⟨g, off, none⟩ ∧ g < w.heap.size ∧ w.cell? ⟨g, off + i, none⟩ = some (.int .i64 (zs.getD i 0))
theorem Ints.kept {w w' : World} {v : Value} {zs : List Int} (h : Ints w v zs) (hb : Below w.heap.size w w') : Ints w' v zs := by
 obtain ⟨a, cap, rfl, hc⟩ := h
 refine ⟨a, cap, rfl, fun i hi => ?_⟩
 obtain ⟨g, off, rfl, hg, h1⟩ := hc i hi
 exact ⟨g, off, rfl, Nat.lt_of_lt_of_le hg hb.size, (hb.cell (p := ⟨g, off + i, none⟩) hg).trans h1⟩
set_option maxRecDepth 100000 in
theorem open_intsl {W : World} {r : Reach} {base b0 : Nat} {H : Type} {enc : TypeId × Value → H} {spare : Nat → Bool} {held : Bool} {v : Value} {d : DataW H} {p : List MemPlace} (hv : Value.okWide Tryz.prog W r base 30 v)
  (h : DataW.Trod enc Tryz.prog W b0 spare held 30 v d p) : ∃ zs, Ints W v zs ∧ zs.length ≤ maxLen ∧ ∀ z ∈ zs, -9223372036854775808 ≤ z ∧ z ≤ 9223372036854775807 := by
 obtain ⟨a, len, cap, rfl, hl, hm, h0, h1, hel⟩ := slice_open Tryz.underlying30 hv h
 rw [show Tryz.prog.cellsOf 3 = 1 by kernel_rfl] at hel
 obtain ⟨zs, hz, hzs⟩ := list_of 0 (fun i (q : Int) => (∃ b off, a = some ⟨b, off, none⟩ ∧ b < W.heap.size ∧ W.cell? ⟨b, off + i, none⟩ = some (.int .i64 q)) ∧ -9223372036854775808 ≤ q ∧ q ≤ 9223372036854775807) (n := len) (fun i hi => by
   obtain ⟨b, off, cs, n, y, rfl, hlt, _, hc, ht⟩ := hel i hi
   obtain ⟨q, rfl, _, wq⟩ := DataW.trod_int Tryz.underlying3 ht
   refine ⟨q, ⟨b, off, rfl, hlt, by simpa using hc 0 (by omega)⟩, ?_⟩
   have e1 : IntKind.i64.min = -9223372036854775808 := by decide
   have e2 : IntKind.i64.max = 9223372036854775807 := by decide
   simp [Lit.wf, e1, e2] at wq
   exact wq)
 subst hz
 refine ⟨zs, ⟨a, cap, rfl, fun i hi => (hzs i hi).1⟩, Nat.le_trans hl hm, fun z hz => ?_⟩
 obtain ⟨i, hi, rfl⟩ := List.getElem_of_mem hz
 have := (hzs i hi).2
 simpa [List.getD, hi] using this
def Txts (w : World) (v : Value) (ls : List (List UInt8)) : Prop :=
 ∃ a cap, v = .slice a ls.length cap ∧ ∀ i, i < ls.length → ∃ g off, a = some ⟨g, off, none⟩ ∧ g < w.heap.size ∧ w.cell? ⟨g, off + i, none⟩ = some (.string ⟨(ls.getD i []).toArray⟩)
theorem Txts.kept {w w' : World} {v : Value} {ls : List (List UInt8)} (h : Txts w v ls) (hb : Below w.heap.size w w') : Txts w' v ls := by
 obtain ⟨a, cap, rfl, hc⟩ := h
 refine ⟨a, cap, rfl, fun i hi => ?_⟩
 obtain ⟨g, off, rfl, hg, h1⟩ := hc i hi
 exact ⟨g, off, rfl, Nat.lt_of_lt_of_le hg hb.size, (hb.cell (p := ⟨g, off + i, none⟩) hg).trans h1⟩
end Go.Proofs.YtbljbdjmgogknaaGreatDoor
namespace Go.Proofs.YtbljbdjmgogknaaGreatDoor
open Go.ChangeShapes Go.WideShapes Go.ChangeAt Go.RowKit
def recV (x : Cr.Rec) : Value := .agg #[.int .i64 x.off, .string ⟨x.key.toArray⟩, .string ⟨x.val.toArray⟩, .bool x.gone]
def RecOk (x : Cr.Rec) : Prop := Bd.inR x.off ∧ x.key.length ≤ maxLen ∧ x.val.length ≤ maxLen
def Recs (w : World) (v : Value) (l : List Cr.Rec) : Prop :=
 ∃ a cap, v = .slice a l.length cap ∧ ∀ i x, l[i]? = some x → ∃ g off, a = some ⟨g, off, none⟩ ∧ g < w.heap.size ∧ w.cell? ⟨g, off + i * 4, none⟩ = some (.int .i64 x.off) ∧ w.cell? ⟨g, off + i * 4 + 1, none⟩ = some (.string ⟨x.key.toArray⟩) ∧
  w.cell? ⟨g, off + i * 4 + 2, none⟩ = some (.string ⟨x.val.toArray⟩) ∧ w.cell? ⟨g, off + i * 4 + 3, none⟩ = some (.bool x.gone)
theorem Recs.kept {w w' : World} {v : Value} {l : List Cr.Rec} (h : Recs w v l) (hb : Below w.heap.size w w') : Recs w' v l := by
 obtain ⟨a, cap, rfl, hc⟩ := h
 refine ⟨a, cap, rfl, fun i x hi => ?_⟩
 obtain ⟨g, off, rfl, hg, h1, h2, h3, h4⟩ := hc i x hi
 exact ⟨g, off, rfl, Nat.lt_of_lt_of_le hg hb.size, (hb.cell (p := ⟨g, off + i * 4, none⟩) hg).trans h1, (hb.cell (p := ⟨g, off + i * 4 + 1, none⟩) hg).trans h2, (hb.cell (p := ⟨g, off + i * 4 + 2, none⟩) hg).trans h3, (hb.cell (p := ⟨g, off + i * 4 + 3, none⟩) hg).trans h4⟩
theorem isNum_any (n : Int) (w : World) : Calls Tryz.prog 106 #[.int .i64 n] w fun e w' => e = .returned (.bool (Cr.isNum n)) ∧ w' = w := by
 by_cases h0 : 0 ≤ n
 ·by_cases h1 : n ≤ 1099511627776
  ·have HE : Hid (Cr.isNum n = true) := by simp [Hid, Cr.isNum, h0, h1]
   go_enter Tryz.func106, Tryz.ntmps106
   go_wp2
   go_ret
   refine ⟨?_, rfl⟩
   rw [HE.out]
   first | rfl | exact congrArg (fun b => Ending.returned (.bool b)) (decide_eq_true h1)
  ·have HE : Hid (Cr.isNum n = false) := by simp [Hid, Cr.isNum, h0, h1]
   go_enter Tryz.func106, Tryz.ntmps106
   go_wp2
   go_ret
   refine ⟨?_, rfl⟩
   rw [HE.out]
   first | rfl | exact congrArg (fun b => Ending.returned (.bool b)) (decide_eq_false h1)
 ·have HE : Hid (Cr.isNum n = false) := by simp [Hid, Cr.isNum, h0]
  go_enter Tryz.func106, Tryz.ntmps106
  go_wp2
  go_ret
  exact ⟨by rw [HE.out]; rfl, rfl⟩
theorem flag_any (b : Bool) (w : World) : Calls Tryz.prog 114 #[.bool b] w fun e w' => e = .returned (.int .i64 (Cr.flag b)) ∧ w' = w := by
 cases b <;>
 ·go_enter Tryz.func114, Tryz.ntmps114
  go_wp2
  go_ret
  exact ⟨rfl, rfl⟩
theorem isRec_any (x : Cr.Rec) (hx : RecOk x) (w : World) : Calls Tryz.prog 107 #[recV x] w fun e w' => e = .returned (.bool (Cr.isRec x)) ∧ Below w.heap.size w w' := by
 obtain ⟨o, k, v, g⟩ := x
 obtain ⟨_, hk, hv⟩ := hx
 unfold maxLen at hk hv
 simp only at hk hv
 have HB : Hid (Below w.heap.size w (w.alloc (.cells #[.int .i64 o, .string ⟨k.toArray⟩, .string ⟨v.toArray⟩, .bool g] 67))) := (Below.refl _ _).alloc (Nat.le_refl _) _
 have fin : ∀ (b c : Bool), b = c → Ending.returned (.bool b) = Ending.returned (.bool c) := fun b c h => by rw [h]
 by_cases h1 : k.length ≤ 16
 ·by_cases h2 : v.length ≤ 64
  ·cases g with
   | false =>
    have HE : Hid (Cr.isRec ⟨o, k, v, false⟩ = true) := by simp [Hid, Cr.isRec, h1, h2]
    unfold recV
    go_enter Tryz.func107, Tryz.ntmps107
    go_wp2
    go_ret
    exact ⟨by rw [HE.out]; rfl, HB.out⟩
   | true =>
    cases v with
    | nil =>
     have HE : Hid (Cr.isRec ⟨o, k, [], true⟩ = true) := by simp [Hid, Cr.isRec, h1]
     unfold recV
     go_enter Tryz.func107, Tryz.ntmps107
     go_wp2
     go_ret
     exact ⟨by rw [HE.out]; rfl, HB.out⟩
    | cons c r =>
     have HE : Hid (Cr.isRec ⟨o, k, c :: r, true⟩ = false) := by simp [Hid, Cr.isRec]
     have h2' : r.length ≤ 63 := by simpa using h2
     unfold recV
     go_enter Tryz.func107, Tryz.ntmps107
     go_wp2
     go_ret
     exact ⟨by rw [HE.out]; rfl, HB.out⟩
  ·have HE : Hid (Cr.isRec ⟨o, k, v, g⟩ = false) := by simp [Hid, Cr.isRec, h2]
   unfold recV
   go_enter Tryz.func107, Tryz.ntmps107
   go_wp2
   go_ret
   exact ⟨by rw [HE.out]; rfl, HB.out⟩
 ·have HE : Hid (Cr.isRec ⟨o, k, v, g⟩ = false) := by simp [Hid, Cr.isRec, h1]
  unfold recV
  go_enter Tryz.func107, Tryz.ntmps107
  go_wp2
  go_ret
  exact ⟨by rw [HE.out]; rfl, HB.out⟩
end Go.Proofs.YtbljbdjmgogknaaGreatDoor
namespace Go.Proofs.YtbljbdjmgogknaaGreatDoor
open Go.RowKit
def batV (b : Cr.Batch) (rv : Value) : Value := .agg #[.int .i64 b.base, .int .i64 b.count, .int .i64 b.prod, .int .i64 b.seq, .int .i64 b.time, rv]
def batCells (b : Cr.Batch) (rv : Value) : Array Value := #[.int .i64 b.base, .int .i64 b.count, .int .i64 b.prod, .int .i64 b.seq, .int .i64 b.time, rv]
def BatOk (b : Cr.Batch) : Prop := Bd.inR b.base ∧ Bd.inR b.count ∧ Bd.inR b.prod ∧ Bd.inR b.seq ∧ Bd.inR b.time ∧ b.recs.length ≤ maxLen ∧ ∀ x ∈ b.recs, RecOk x
theorem four_cells (w : World) (a b c d : Int) (k : Nat) (h : k < 4) (W : World) (hb : Below (w.alloc (.cells #[.int .i64 a, .int .i64 b, .int .i64 c, .int .i64 d] 3)).heap.size (w.alloc (.cells #[.int .i64 a, .int .i64 b, .int .i64 c, .int .i64 d] 3)) W) :
  W.cell? ⟨w.heap.size, k, none⟩ = some (.int .i64 ([a, b, c, d].getD k 0)) := by
 have e1 := (hb.block w.heap.size (by simp)).trans (heap_alloc_new w _)
 match k, h with
 | 0, _ => simp [World.cell?, e1]
 | 1, _ => simp [World.cell?, e1]
 | 2, _ => simp [World.cell?, e1]
 | 3, _ => simp [World.cell?, e1]
theorem bat_cells (w : World) (b : Cr.Batch) (rv : Value) (W : World) (hb : Below (w.alloc (.cells (batCells b rv) 36)).heap.size (w.alloc (.cells (batCells b rv) 36)) W) :
  W.cell? ⟨w.heap.size, 0, none⟩ = some (.int .i64 b.base) ∧ W.cell? ⟨w.heap.size, 1, none⟩ = some (.int .i64 b.count) ∧ W.cell? ⟨w.heap.size, 2, none⟩ = some (.int .i64 b.prod) ∧ W.cell? ⟨w.heap.size, 3, none⟩ = some (.int .i64 b.seq) ∧
   W.cell? ⟨w.heap.size, 4, none⟩ = some (.int .i64 b.time) ∧ W.cell? ⟨w.heap.size, 5, none⟩ = some rv := by
 have e1 := (hb.block w.heap.size (by simp)).trans (heap_alloc_new w _)
 simp [World.cell?, e1, batCells]
theorem rec_cells (w : World) (x : Cr.Rec) (W : World) (hb : Below (w.alloc (.cells #[.int .i64 x.off, .string ⟨x.key.toArray⟩, .string ⟨x.val.toArray⟩, .bool x.gone] 67)).heap.size (w.alloc (.cells #[.int .i64 x.off, .string ⟨x.key.toArray⟩, .string ⟨x.val.toArray⟩, .bool x.gone] 67)) W) :
  W.cell? ⟨w.heap.size, 0, none⟩ = some (.int .i64 x.off) ∧ W.cell? ⟨w.heap.size, 1, none⟩ = some (.string ⟨x.key.toArray⟩) ∧ W.cell? ⟨w.heap.size, 2, none⟩ = some (.string ⟨x.val.toArray⟩) ∧ W.cell? ⟨w.heap.size, 3, none⟩ = some (.bool x.gone) := by
 have e1 := (hb.block w.heap.size (by simp)).trans (heap_alloc_new w _)
 simp [World.cell?, e1]
theorem goodRecs_step (hi next : Int) (l : List Cr.Rec) (k : Nat) (x : Cr.Rec) (h : l[k]? = some x) : Cr.goodRecs hi next (l.drop k) = (Cr.isRec x && (decide (next ≤ x.off) && (decide (x.off < hi) && Cr.goodRecs hi (x.off + 1) (l.drop (k + 1))))) := by
 obtain ⟨hk, rfl⟩ := List.getElem?_eq_some_iff.1 h
 rw [List.drop_eq_getElem_cons hk]
 rfl
set_option maxRecDepth 20000 in
set_option maxHeartbeats 6400000 in
theorem good_any (b : Cr.Batch) (hok : BatOk b) (rv : Value) (w : World) (h : Recs w rv b.recs) :
  Calls Tryz.prog 75 #[batV b rv] w fun e w' => e = .returned (.bool (Cr.good b)) ∧ Below w.heap.size w w' := by
 have HB0 : Hid (Below w.heap.size w (w.alloc (.cells (batCells b rv) 36))) := (Below.refl _ _).alloc (Nat.le_refl _) _
 have HZ := Lib.hid h
 have HC := Lib.hid (bat_cells w b rv)
 have hsz : (w.alloc (.cells (batCells b rv) 36)).heap.size = w.heap.size + 1 := World.size_alloc _ _
 have hw0 : w.alloc (.cells #[.int .i64 b.base, .int .i64 b.count, .int .i64 b.prod, .int .i64 b.seq, .int .i64 b.time, rv] 36) = w.alloc (.cells (batCells b rv) 36) := rfl
 have HW0 := Lib.hid hw0
 have HG : Hid (Cr.good b = (Cr.isNum b.base && (Cr.isNum b.prod && (Cr.isNum b.seq && (Cr.isNum b.time && (decide (1 ≤ b.count) && (decide (b.count ≤ 8) && (decide (b.base ≤ 1099511627776 - b.count) &&
  (decide ((b.recs.length : Int) ≤ b.count) && Cr.goodRecs (b.base + b.count) b.base b.recs))))))))) := rfl
 obtain ⟨⟨o1, o2⟩, ⟨o3, o4⟩, ⟨o5, o6⟩, ⟨o7, o8⟩, ⟨o9, o10⟩, o11, o12⟩ := hok
 have HR := Lib.hid o12
 obtain ⟨a, cap, hrv, -⟩ := h
 obtain ⟨base, count, prod, seq, time, recs⟩ := b
 simp only at *
 clear hw0 o12
 unfold maxLen at o11
 unfold batV
 simp only
 subst hrv
 go_enter Tryz.func75, Tryz.ntmps75
 go_wp2_with fail
 rw [HW0.out]
 clear HW0
 generalize w.alloc (.cells (batCells ⟨base, count, prod, seq, time, recs⟩ (.slice a recs.length cap)) 36) = w0 at *
 have HF := Lib.hid (four_cells w0 base prod seq time)
 have B1 : Hid (Below w0.heap.size w0 (w0.alloc (.cells #[.int .i64 base, .int .i64 prod, .int .i64 seq, .int .i64 time] 3))) := (Below.refl _ _).alloc (Nat.le_refl _) _
 generalize w0.alloc (.cells #[.int .i64 base, .int .i64 prod, .int .i64 seq, .int .i64 time] 3) = w1 at *
 go_loopw [18] (fun i wr => ∃ k : Nat, i = .int .i64 k ∧ k ≤ 4 ∧ (∀ j, j < k → Cr.isNum ([base, prod, seq, time].getD j 0) = true) ∧ Below w1.heap.size w1 wr) (fun i _ => 4 - (intOf i).toNat)
 case atStart => exact ⟨0, rfl, by omega, fun j hj => by omega, Below.refl _ _⟩
 case round =>
  obtain ⟨k, rfl, hk, hn, hb⟩ := hrel
  have HN := Lib.hid hn
  have HB := Lib.hid hb
  clear hn hb
  have BW : Hid (Below w.heap.size w wr) := HB0.out.trans ((B1.out.trans (HB.out.mono B1.out.size)).mono HB0.out.size)
  by_cases hlt : k < 4
  ·have hc1 := HF.out k hlt _ HB.out
   rw [hsz] at hc1
   have HNI := Lib.hid (fun w => isNum_any ([base, prod, seq, time].getD k 0) w)
   have HNX : Hid (Cr.isNum ([base, prod, seq, time].getD k 0) = true → ∀ j, j < k + 1 → Cr.isNum ([base, prod, seq, time].getD j 0) = true) := fun h j hj => by
    by_cases e : j = k
    ·rw [e]; exact h
    ·exact HN.out j (by omega)
   have HNG : Hid (Cr.isNum ([base, prod, seq, time].getD k 0) = false → Cr.good ⟨base, count, prod, seq, time, recs⟩ = false) := fun h => by
    rw [HG.out]
    match k, hlt, h with
    | 0, _, h => rw [show Cr.isNum base = false from h]; rfl
    | 1, _, h => rw [show Cr.isNum prod = false from h]; simp
    | 2, _, h => rw [show Cr.isNum seq = false from h]; simp
    | 3, _, h => rw [show Cr.isNum time = false from h]; simp
   generalize [base, prod, seq, time].getD k 0 = n at *
   cases hb : Cr.isNum n with
   | true =>
    rw [hb] at HNI
    have HX := Lib.hid (HNX.out hb)
    clear HNX HNG hb
    go_wp2_with fail
    refine (HNI.out _).mono ?_
    rintro e w5 ⟨rfl, rfl⟩
    go_wp2
    go_roundw
    case rel => exact ⟨k + 1, by go_num, by omega, HX.out, HB.out⟩
    case measure => simp [intOf]; omega
   | false =>
    rw [hb] at HNI
    have HX := Lib.hid (HNG.out hb)
    clear HNX HNG hb
    go_wp2_with fail
    refine (HNI.out _).mono ?_
    rintro e w5 ⟨rfl, rfl⟩
    go_wp2
    go_ret
    exact ⟨by rw [HX.out]; rfl, BW.out⟩
  ·obtain rfl : k = 4 := by omega
   have n0 : Cr.isNum base = true := HN.out 0 (by omega)
   have n1 : Cr.isNum prod = true := HN.out 1 (by omega)
   have n2 : Cr.isNum seq = true := HN.out 2 (by omega)
   have n3 : Cr.isNum time = true := HN.out 3 (by omega)
   have HG2 : Hid (Cr.good ⟨base, count, prod, seq, time, recs⟩ = (decide (1 ≤ count) && (decide (count ≤ 8) && (decide (base ≤ 1099511627776 - count) && (decide ((recs.length : Int) ≤ count) && Cr.goodRecs (base + count) base recs))))) := by
    rw [Hid, HG.out, n0, n1, n2, n3]
    rfl
   simp only [Cr.isNum, Bool.and_eq_true, decide_eq_true_eq] at n0
   obtain ⟨n0, n00⟩ := n0
   clear n1 n2 n3 HG HN
   have HBB : Hid (Below w0.heap.size w0 wr) := B1.out.trans (HB.out.mono B1.out.size)
   obtain ⟨c0, c1, c2, c3, c4, c5⟩ := HC.out _ HBB.out
   by_cases hc : 1 ≤ count ∧ count ≤ 8 ∧ base ≤ 1099511627776 - count ∧ (recs.length : Int) ≤ count
   ·obtain ⟨d1, d2, d3, d4⟩ := hc
    have HH : Hid (Cr.good ⟨base, count, prod, seq, time, recs⟩ = Cr.goodRecs (base + count) base recs) := by
     rw [Hid, HG2.out, decide_eq_true d1, decide_eq_true d2, decide_eq_true d3, decide_eq_true d4]
     rfl
    have HZr : Hid (Recs wr (.slice a recs.length cap) recs) := HZ.out.kept BW.out
    clear HG2 HZ HB B1 HF
    generalize wr = w3 at *
    go_wp2_with fail
    go_loopw [55, 5] (fun i nx w4 => ∃ (k : Nat) (n : Int), i = .int .i64 k ∧ nx = .int .i64 n ∧ k ≤ recs.length ∧ Cr.goodRecs (base + count) base recs = Cr.goodRecs (base + count) n (recs.drop k) ∧ Below w3.heap.size w3 w4) (fun i _ _ => recs.length - (intOf i).toNat)
    case atStart => exact ⟨0, base, rfl, rfl, by omega, rfl, Below.refl _ _⟩
    case round =>
     obtain ⟨k, n, rfl, rfl, hk2, hr, hb2⟩ := hrel
     have HR2 := Lib.hid hr
     have B2 := Lib.hid hb2
     have BW2 : Hid (Below w.heap.size w wr) := bt BW.out B2.out
     clear hr hb2
     by_cases hlt : k < recs.length
     ·obtain ⟨x, hx⟩ : ∃ x, recs[k]? = some x := ⟨recs[k], by simp [hlt]⟩
      have hxo := HR.out x (List.mem_of_getElem? hx)
      have HS := Lib.hid (goodRecs_step (base + count) n recs k x hx)
      obtain ⟨a', cap', he, hcells⟩ := HZr.out
      injection he with he1 he2 he3
      subst he1 he3
      obtain ⟨g, off, rfl, hg, q0, q1, q2, q3⟩ := hcells k x hx
      have p0 := (B2.out.cell (p := ⟨g, off + k * 4, none⟩) hg).trans q0
      have p1 := (B2.out.cell (p := ⟨g, off + k * 4 + 1, none⟩) hg).trans q1
      have p2 := (B2.out.cell (p := ⟨g, off + k * 4 + 2, none⟩) hg).trans q2
      have p3 := (B2.out.cell (p := ⟨g, off + k * 4 + 3, none⟩) hg).trans q3
      obtain ⟨x0, xk, xv, xg⟩ := x
      obtain ⟨⟨xo1, xo2⟩, xkl, xvl⟩ := hxo
      simp only at p0 p1 p2 p3 xo1 xo2 xkl xvl
      clear q0 q1 q2 q3 hcells he2
      have BA : Hid (Below w.heap.size w (wr.alloc (.cells #[.int .i64 x0, .string ⟨xk.toArray⟩, .string ⟨xv.toArray⟩, .bool xg] 67))) := BW2.out.alloc BW2.out.size _
      have B2A : Hid (Below w3.heap.size w3 (wr.alloc (.cells #[.int .i64 x0, .string ⟨xk.toArray⟩, .string ⟨xv.toArray⟩, .bool xg] 67))) := B2.out.alloc B2.out.size _
      have HCX := Lib.hid (rec_cells wr ⟨x0, xk, xv, xg⟩)
      have HN := Lib.hid (fun w => isRec_any ⟨x0, xk, xv, xg⟩ ⟨⟨xo1, xo2⟩, xkl, xvl⟩ w)
      have hHS : Cr.goodRecs (base + count) n (recs.drop k) = (Cr.isRec ⟨x0, xk, xv, xg⟩ && (decide (n ≤ x0) && (decide (x0 < base + count) && Cr.goodRecs (base + count) (x0 + 1) (recs.drop (k + 1))))) := HS.out
      by_cases hok : Cr.isRec ⟨x0, xk, xv, xg⟩ = true ∧ n ≤ x0 ∧ x0 < base + count
      ·obtain ⟨k1, k2, k3⟩ := hok
       have HX : Hid (Cr.goodRecs (base + count) base recs = Cr.goodRecs (base + count) (x0 + 1) (recs.drop (k + 1))) := by
        rw [Hid, HR2.out, hHS, k1, decide_eq_true k2, decide_eq_true k3]
        rfl
       rw [k1] at HN
       clear hHS HS k1
       go_wp2_with fail
       refine (HN.out _).mono ?_
       rintro e w6 ⟨rfl, hb6⟩
       have B6 : Hid (Below w3.heap.size w3 w6) := bt B2A.out hb6
       obtain ⟨t0, t1, t2, t3⟩ := HCX.out _ hb6
       obtain ⟨e0, e1, _, _, _, e5⟩ := HC.out _ (bt HBB.out B6.out)
       try dsimp only at t0 e0 e1
       clear hb6
       go_wp2
       go_roundw
       case rel => exact ⟨k + 1, x0 + 1, by go_num, by go_num, by omega, HX.out, B6.out⟩
       case measure => simp [intOf]; omega
      ·have HX : Hid (Cr.good ⟨base, count, prod, seq, time, recs⟩ = false) := by
        rw [Hid, HH.out, HR2.out, hHS]
        cases h : (Cr.isRec ⟨x0, xk, xv, xg⟩ && (decide (n ≤ x0) && (decide (x0 < base + count) && Cr.goodRecs (base + count) (x0 + 1) (recs.drop (k + 1))))) with
        | false => rfl
        | true =>
         simp only [Bool.and_eq_true, decide_eq_true_eq] at h
         exact absurd ⟨h.1, h.2.1, h.2.2.1⟩ hok
       clear hHS HS
       cases hb : Cr.isRec ⟨x0, xk, xv, xg⟩ with
       | false =>
        rw [hb] at HN
        clear hb hok
        go_wp2_with fail
        refine (HN.out _).mono ?_
        rintro e w6 ⟨rfl, hb6⟩
        have B6 : Hid (Below w.heap.size w w6) := bt BA.out hb6
        obtain ⟨t0, t1, t2, t3⟩ := HCX.out _ hb6
        obtain ⟨e0, e1, _, _, _, e5⟩ := HC.out _ (bt HBB.out (bt B2A.out hb6))
        try dsimp only at t0 e0 e1
        clear hb6
        go_wp2
        go_ret
        exact ⟨by rw [HX.out]; rfl, B6.out⟩
       | true =>
        rw [hb] at HN
        by_cases hn : n ≤ x0
        ·have hn2 : ¬ x0 < base + count := fun h => hok ⟨hb, hn, h⟩
         clear hb hok
         go_wp2_with fail
         refine (HN.out _).mono ?_
         rintro e w6 ⟨rfl, hb6⟩
         have B6 : Hid (Below w.heap.size w w6) := bt BA.out hb6
         obtain ⟨t0, t1, t2, t3⟩ := HCX.out _ hb6
         obtain ⟨e0, e1, _, _, _, e5⟩ := HC.out _ (bt HBB.out (bt B2A.out hb6))
         try dsimp only at t0 e0 e1
         clear hb6
         go_wp2
         go_ret
         exact ⟨by rw [HX.out]; rfl, B6.out⟩
        ·clear hb hok
         go_wp2_with fail
         refine (HN.out _).mono ?_
         rintro e w6 ⟨rfl, hb6⟩
         have B6 : Hid (Below w.heap.size w w6) := bt BA.out hb6
         obtain ⟨t0, t1, t2, t3⟩ := HCX.out _ hb6
         obtain ⟨e0, e1, _, _, _, e5⟩ := HC.out _ (bt HBB.out (bt B2A.out hb6))
         try dsimp only at t0 e0 e1
         clear hb6
         go_wp2
         go_ret
         exact ⟨by rw [HX.out]; rfl, B6.out⟩
     ·obtain rfl : k = recs.length := by omega
      have HX : Hid (Cr.good ⟨base, count, prod, seq, time, recs⟩ = true) := by
       rw [Hid, HH.out, HR2.out, List.drop_length]
       rfl
      go_wp2
      go_ret
      exact ⟨by rw [HX.out]; rfl, BW2.out⟩
   ·have HX : Hid (Cr.good ⟨base, count, prod, seq, time, recs⟩ = false) := by
     rw [Hid, HG2.out]
     by_cases e1 : 1 ≤ count
     ·by_cases e2 : count ≤ 8
      ·by_cases e3 : base ≤ 1099511627776 - count
       ·rw [decide_eq_false (p := (recs.length : Int) ≤ count) (fun e4 => hc ⟨e1, e2, e3, e4⟩)]; simp
       ·rw [decide_eq_false e3]; simp
      ·rw [decide_eq_false e2]; simp
     ·rw [decide_eq_false e1]; rfl
    go_wp2
    all_goals first
     | (exfalso; omega)
     | (go_ret; exact ⟨by rw [HX.out]; rfl, BW.out⟩)
end Go.Proofs.YtbljbdjmgogknaaGreatDoor
