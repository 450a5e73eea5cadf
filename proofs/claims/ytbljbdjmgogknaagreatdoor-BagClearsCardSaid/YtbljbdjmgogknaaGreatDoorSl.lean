/-
  A slice of the call's own, told by its cells, wherever in its block it begins: appended to, stored into, cut. No program in sight.
  Conditions: the model's bounds on lengths and bytes.
-/
import Derived.Test.YtbljbdjmgogknaaGreatDoorApp
import Derived.Deep.MidRow
import Derived.Deep.AppendSrc
import Derived.Deep.Upon
set_option linter.unusedVariables false
set_option linter.unusedSimpArgs false
namespace Go.Proofs.YtbljbdjmgogknaaGreatDoor
open Go.RowKit

/-- All blocks but those of S are as they were. -/
structure Keeps (S : Nat → Prop) (w w' : World) : Prop where
  os : w'.os = w.os
  tape : w'.tape = w.tape
  output : w'.output = w.output
  size : w.heap.size ≤ w'.heap.size
  block : ∀ k, k < w.heap.size → ¬ S k → w'.heap[k]? = w.heap[k]?
theorem Keeps.refl (S : Nat → Prop) (w : World) : Keeps S w w := ⟨rfl, rfl, rfl, Nat.le_refl _, fun _ _ _ => rfl⟩
theorem Keeps.trans {S : Nat → Prop} {a b c : World} (h : Keeps S a b) (k : Keeps S b c) : Keeps S a c :=
  ⟨k.os.trans h.os, k.tape.trans h.tape, k.output.trans h.output, Nat.le_trans h.size k.size, fun i hi hs => (k.block i (Nat.lt_of_lt_of_le hi h.size) hs).trans (h.block i hi hs)⟩
theorem Keeps.mono {S T : Nat → Prop} {a b : World} (h : Keeps S a b) (hs : ∀ k, k < a.heap.size → S k → T k) : Keeps T a b :=
  ⟨h.os, h.tape, h.output, h.size, fun k hk ht => h.block k hk (fun s => ht (hs k hk s))⟩
theorem Keeps.drewN (S : Nat → Prop) (w : World) (n : Nat) : Keeps S w (w.drewN n) := ⟨rfl, rfl, rfl, Nat.le_refl _, fun _ _ _ => rfl⟩
theorem Keeps.drew (S : Nat → Prop) (w : World) : Keeps S w w.drew := ⟨rfl, rfl, rfl, Nat.le_refl _, fun _ _ _ => rfl⟩
theorem Keeps.alloc (S : Nat → Prop) (w : World) (o : Obj) : Keeps S w (w.alloc o) := ⟨rfl, rfl, rfl, by simp, fun k hk _ => Below.heap_alloc w o k hk⟩
theorem Keeps.setCell (S : Nat → Prop) (w : World) (a : Addr) (u : Value) (h : S a.block) : Keeps S w (w.setCell a u) :=
  ⟨rfl, rfl, rfl, by simp [World.setCell], fun k hk hs => Below.heap_setCell _ _ _ _ (fun e => hs (e ▸ h))⟩
theorem Keeps.grown {S : Nat → Prop} {w w' : World} {row : Option Nat} (hg : w.grownBy w' row) (h : ∀ k, row = some k → S k) : Keeps S w w' :=
  ⟨hg.os, hg.tape, hg.output, hg.size, fun k hk hs => hg.block k hk (fun e => hs (h k e.symm))⟩
theorem Keeps.below {w w' : World} (S : Nat → Prop) (h : Below w.heap.size w w') : Keeps S w w' := ⟨h.os, h.tape, h.output, h.size, fun k hk _ => h.block k hk⟩
theorem Keeps.toBelow {S : Nat → Prop} {B : Nat} {w w' : World} (h : Keeps S w w') (hB : B ≤ w.heap.size) (hs : ∀ k, k < B → ¬ S k) : Below B w w' :=
  ⟨h.os, h.tape, h.output, h.size, fun k hk => h.block k (by omega) (hs k hk)⟩
theorem Keeps.cell {S : Nat → Prop} {w w' : World} (h : Keeps S w w') {a : Addr} (hb : a.block < w.heap.size) (hs : ¬ S a.block) : w'.cell? a = w.cell? a := World.cell?_of_block (w := w) (h.block a.block hb hs)
theorem Keeps.frozen {S : Nat → Prop} {w w' : World} (h : Keeps S w w') {a : Addr} (hb : a.block < w.heap.size) (hs : ¬ S a.block) : w'.frozen? a = w.frozen? a := World.frozen?_of_block (w := w) (h.block a.block hb hs)
theorem Keeps.rangeAt {S : Nat → Prop} {w w' : World} (h : Keeps S w w') {g o : Nat} {xs : List Value} (hx : w.rangeAt g o xs) (hs : ¬ S g) : w'.rangeAt g o xs := fun j v hv => by
  have hc := hx j v hv
  rw [h.cell (a := ⟨g, o + j, none⟩) (World.block_lt_of_cell? w _ hc) hs]; exact hc
theorem Keeps.there {S : Nat → Prop} {w w' : World} (h : Keeps S w w') {g o n : Nat} (hx : w.there g o n) (hs : ¬ S g) : w'.there g o n := fun j hj => by
  obtain ⟨h1, h2⟩ := hx j hj
  obtain ⟨u, hu⟩ := Option.isSome_iff_exists.1 h1
  have hb := World.block_lt_of_cell? w _ hu
  rw [h.cell (a := ⟨g, o + j, none⟩) hb hs, h.frozen (a := ⟨g, o + j, none⟩) hb hs]; exact ⟨h1, h2⟩

theorem tape_setCells (w : World) (g : Nat) : ∀ (o : Nat) (vs : List Value), (w.setCells g o vs).tape = w.tape := by
  intro o vs
  induction vs generalizing w o with
  | nil => rfl
  | cons v r ih => rw [World.setCells, ih]; rfl
theorem size_setCells (w : World) (g : Nat) : ∀ (o : Nat) (vs : List Value), (w.setCells g o vs).heap.size = w.heap.size := by
  intro o vs
  induction vs generalizing w o with
  | nil => rfl
  | cons v r ih => rw [World.setCells, ih]; simp [World.setCell]
theorem size_setCells_ge (w : World) (g o : Nat) (vs : List Value) : w.heap.size ≤ (w.setCells g o vs).heap.size := by rw [size_setCells]; exact Nat.le_refl _

/-- A slice of the call's own (its block from 'base' on), its n elements' cells xs. -/
def Sl (w : World) (base size : Nat) (v : Value) (n : Nat) (xs : List Value) : Prop :=
  xs.length = n * size ∧ ((v = .slice none 0 0 ∧ n = 0) ∨
    ∃ g off cap, v = .slice (some ⟨g, off, none⟩) n cap ∧ base ≤ g ∧ g < w.heap.size ∧ n ≤ cap ∧ cap ≤ maxLen ∧ w.rangeAt g off xs ∧ w.there g off (cap * size))
theorem Sl.nil (w : World) (base size : Nat) : Sl w base size (.slice none 0 0) 0 [] := ⟨by simp, .inl ⟨rfl, rfl⟩⟩
theorem Sl.kept {S : Nat → Prop} {w w' : World} {base size : Nat} {v : Value} {n : Nat} {xs : List Value} (h : Sl w base size v n xs) (hk : Keeps S w w') (hs : ∀ k, v.ownBlock = some k → ¬ S k) : Sl w' base size v n xs := by
  refine ⟨h.1, ?_⟩
  rcases h.2 with h2 | ⟨g, off, cap, rfl, hB, hg, hn, hm, hr, ht⟩
  · exact .inl h2
  · have hsg := hs g rfl
    exact .inr ⟨g, off, cap, rfl, hB, Nat.lt_of_lt_of_le hg hk.size, hn, hm, hk.rangeAt hr hsg, hk.there ht hsg⟩
theorem Sl.lt {w : World} {base size : Nat} {v : Value} {n : Nat} {xs : List Value} (h : Sl w base size v n xs) : ∀ k, v.ownBlock = some k → base ≤ k ∧ k < w.heap.size := by
  intro k hk
  rcases h.2 with ⟨rfl, _⟩ | ⟨g, off, cap, rfl, hB, hg, _⟩
  · simp [Value.ownBlock] at hk
  · simp [Value.ownBlock] at hk
    subst hk
    exact ⟨hB, hg⟩
theorem Sl.ofOwn {w : World} {base : Nat} {e : TypeId} {size : Nat} {v : Value} {n : Nat} {xs : List Value} (h : w.ownsRow base e size v n xs) : Sl w base size v n xs := by
  refine ⟨h.1, ?_⟩
  have hh := h
  rcases h.2 with h2 | ⟨g, cap, cur, rfl, hB, hg, hn, hm, hs, ht⟩
  · exact .inl h2
  · refine .inr ⟨g, 0, cap, rfl, hB, (Array.getElem?_eq_some_iff.1 hg).1, hn, hm, fun j u hu => ?_, fun j hj => ?_⟩
    · have := hh.cells (g := g) rfl j u hu
      rwa [Addr.add_mid] at this
    · rw [cell_of_row w g (0 + j) cur e (0, 0) hg]
      refine ⟨by simp; omega, ?_⟩
      simp [World.frozen?, hg]
theorem Sl.form {w : World} {base size : Nat} {v : Value} {n : Nat} {xs : List Value} (h : Sl w base size v n xs) : ∃ a cap, v = .slice a n cap ∧ n ≤ cap ∧ (a = none ∨ ∃ b off, a = some ⟨b, off, none⟩) := by
  rcases h.2 with ⟨rfl, rfl⟩ | ⟨g, off, cap, rfl, hB, hg, hn, hm, hr, ht⟩
  · exact ⟨none, 0, rfl, Nat.le_refl _, .inl rfl⟩
  · exact ⟨_, cap, rfl, hn, .inr ⟨g, off, rfl⟩⟩
section
variable {P : Program}
theorem rangeAt_append {w : World} {g o : Nat} {a b : List Value} (ha : w.rangeAt g o a) (hb : w.rangeAt g (o + a.length) b) : w.rangeAt g o (a ++ b) := fun j v hv => by
  by_cases h : j < a.length
  · rw [List.getElem?_append_left h] at hv; exact ha j v hv
  · rw [List.getElem?_append_right (by omega)] at hv
    have := hb _ v hv
    rwa [show o + a.length + (j - a.length) = o + j by omega] at this
/-- append: some slice that holds both, in some world in which the old block alone may have turned. -/
theorem run_append_sl (w : World) (t ty e : TypeId) (i : TypeInfo) (z : Value) (size bytes : Nat) (ht : P.underlying t = some (.slice e)) (hi : P.info? e = some i) (hz : i.zero = some z)
    (hsize : i.size = size) (hby : i.bytes = bytes) (hzs : z.cells.size = size) (hsz : 0 < size) (base : Nat)
    (v : Value) (n : Nat) (xs : List Value) (hown : Sl w base size v n xs) (sv : Value) (m : Nat) (ys : List Value) (hsrc : SrcIs w size sv m ys) (h1 : ∀ u ∈ ys, u.oneCell' = true)
    (h63 : n + m ≤ maxLen) (hbytes : (n + m) * bytes ≤ 140737488355328) (hbase : base ≤ w.heap.size) :
    ∃ v' w', (Builtin.append_ #[t, t] ty #[v, sv]).run P w = .ok v' w' ∧ Sl w' base size v' (n + m) (xs ++ ys) ∧ w.grownBy w' v.ownBlock ∧ (v'.ownBlock = v.ownBlock ∨ ∀ k, v'.ownBlock = some k → w.heap.size ≤ k) := by
  have hlen : (xs ++ ys).length = (n + m) * size := by
    rw [List.length_append, hown.1, Nat.add_mul]
    rcases hsrc with ⟨_, rfl, rfl⟩ | ⟨ad, c, _, hl, _⟩
    · simp
    · rw [hl]
  have hs : Src P size t sv m ys w := by
    rcases hsrc with ⟨rfl, rfl, rfl⟩ | ⟨ad, c, rfl, hl, hc⟩
    · exact Src.ofNil w ht 0
    · exact Src.ofSlice w ht ad m c ys hl hc h1
  by_cases hm0 : m = 0
  · subst hm0
    have hy : ys = [] := List.eq_nil_of_length_eq_zero (by have := hs.newsLen; simpa using this)
    subst hy
    have hr : (Builtin.append_ #[t, t] ty #[v, sv]).run P w = .ok v w := by
      rcases hown.2 with ⟨rfl, rfl⟩ | ⟨g, off, cap, rfl, hB, hg, hn, hmx, hra, hth⟩
      · have hc := hs.cells
        subst hsize
        simp only [List.toArray] at hc
        simp [Builtin.append_, run_underlying ht, sizeOf, typeInfo, hi, hs.len, hc]
      · have := run_append_room_src (P := P) w t t ty e i ht hi g off n cap sv 0 [] (by rw [hsize]; exact hs) (by omega) (fun j hj => by simp at hj) (fun j hj => by simp at hj)
        simpa [World.setCells] using this
    exact ⟨v, w, hr, by simpa using hown, ⟨rfl, rfl, rfl, Nat.le_refl _, fun _ _ _ => rfl⟩, .inl rfl⟩
  · have grown : ∀ (ao : Option Addr) (cap : Nat), (Builtin.firstCells i.size n (.slice ao n cap)).run P w.drew = .ok xs.toArray w.drew → v = .slice ao n cap → cap < n + m →
        ∃ v' w', (Builtin.append_ #[t, t] ty #[v, sv]).run P w = .ok v' w' ∧ Sl w' base size v' (n + m) (xs ++ ys) ∧ w.grownBy w' v.ownBlock ∧ (v'.ownBlock = v.ownBlock ∨ ∀ k, v'.ownBlock = some k → w.heap.size ≤ k) := by
      intro ao cap hold hv hc
      subst hv
      have hr := run_append_grow_src (P := P) w t t ty e i z ht hi hz ao n cap xs hold sv m ys (by rw [hsize]; exact hs) hc (by simp only [maxLen] at h63; omega) (by rw [hby]; exact growslice_fits hc hbytes)
      have hge := grownCap_ge w (n + m) cap e
      have hcm := grownCap_le_maxLen w (n + m) cap e h63
      have how : (w.drew.alloc (.cells ((xs ++ ys).toArray ++ Builtin.zeroCells z.cells (grownCap w (n + m) cap e - (n + m))) e)).ownsRow base e size (.slice (some ⟨w.heap.size, 0, none⟩) (n + m) (grownCap w (n + m) cap e)) (n + m) (xs ++ ys) := by
        refine ⟨hlen, .inr ⟨w.heap.size, _, _, rfl, hbase, heap_alloc_new w.drew _, hge, hcm, ?_, ?_⟩⟩
        · simp only [Array.size_append, List.size_toArray, size_zeroCells, hzs, hlen, ← Nat.add_mul]
          congr 1
          omega
        · simp only [Array.toList_append]
          rw [← hlen]
          exact List.take_left
      exact ⟨_, _, hr, Sl.ofOwn how, ⟨rfl, rfl, rfl, by simp, fun k hk _ => Below.heap_alloc w.drew _ k hk⟩, .inr (fun k hk => by simp [Value.ownBlock] at hk; omega)⟩
    rcases hown.2 with ⟨rfl, rfl⟩ | ⟨g, off, cap, rfl, hB, hg, hn, hmx, hra, hth⟩
    · have hx : xs = [] := List.eq_nil_of_length_eq_zero (by simpa using hown.1)
      subst hx
      exact grown none 0 (run_firstCells_none w.drew i.size 0 0 0) rfl (by omega)
    · by_cases hroom : n + m ≤ cap
      · have hyl : ys.length = m * size := hs.newsLen
        have hle : n * size + ys.length ≤ cap * size := by rw [hyl, ← Nat.add_mul]; exact Nat.mul_le_mul_right _ hroom
        have hts : w.there g (off + n * size) ys.length := fun j hj => by
          have := hth (n * size + j) (by omega)
          rwa [← Nat.add_assoc] at this
        have hr := run_append_room_src (P := P) w t t ty e i ht hi g off n cap sv m ys (by rw [hsize]; exact hs) hroom (fun j hj => by rw [hsize]; exact (hts j hj).1) (fun j hj => by rw [hsize]; exact (hts j hj).2)
        rw [hsize] at hr
        refine ⟨_, _, hr, ⟨hlen, .inr ⟨g, off, cap, rfl, hB, ?_, hroom, hmx, rangeAt_append (World.rangeAt_setCells_apart hra _ _ _ (.inr (.inl (by rw [hown.1]; omega)))) ?_, World.there_setCells hth _ _ _⟩⟩, ⟨World.os_setCells .., ?_, World.output_setCells .., ?_, fun k hk hne => World.heap_setCells_other w g _ _ hk (fun e => hne (by simp [Value.ownBlock, e]))⟩, .inl rfl⟩
        · exact Nat.lt_of_lt_of_le hg (size_setCells_ge w g _ ys)
        · rw [hown.1]; exact World.rangeAt_setCells_same w g _ ys hts
        · exact tape_setCells w g _ ys
        · exact size_setCells_ge w g _ ys
      · exact grown (some ⟨g, off, none⟩) cap (by rw [hsize]; exact run_firstCells_some w.drew size n ⟨g, off, none⟩ n cap xs hown.1 (fun j u hu => by rw [Addr.add_mid]; simpa using hra j u hu)) rfl (by omega)
end
/-- The law for the walk. -/
theorem wpList_append_sl {P : Program} {w : World} {ops : Array Oper} {rest : List Oper} {o : Oper} {a : Act} {Q : Exit → Act → World → Prop} (hgd : o.guard = none) (s x : Operand) (t : TypeId)
    (ho : o.op = .call { callee := .builtin .append, args := #[s, x], argTypes := #[t, t] })
    (e : TypeId) (i : TypeInfo) (z : Value) (size bytes : Nat) (ht : P.underlying t = some (.slice e)) (hi : P.info? e = some i) (hz : i.zero = some z)
    (hsize : i.size = size) (hby : i.bytes = bytes) (hzs : z.cells.size = size) (hsz : 0 < size) (base : Nat)
    (v : Value) (n : Nat) (xs : List Value) (hs : a.eval s = v) (hown : Sl w base size v n xs) (sv : Value) (m : Nat) (ys : List Value) (hx : a.eval x = sv) (hsrc : SrcIs w size sv m ys) (h1 : ∀ u ∈ ys, u.oneCell' = true)
    (h63 : n + m ≤ maxLen) (hbytes : (n + m) * bytes ≤ 140737488355328) (hbase : base ≤ w.heap.size)
    (h : ∀ v' w', Sl w' base size v' (n + m) (xs ++ ys) → w.grownBy w' v.ownBlock → (v'.ownBlock = v.ownBlock ∨ ∀ k, v'.ownBlock = some k → w.heap.size ≤ k) → wpList P ops Q rest (a.put o.dst v') w') : wpList P ops Q (o :: rest) a w := by
  refine wpList_plain hgd fun K hK => ?_
  obtain ⟨v', w', hr, h2, h3, h4⟩ := run_append_sl (P := P) w t o.type e i z size bytes ht hi hz hsize hby hzs hsz base v n xs hown sv m ys hsrc h1 h63 hbytes hbase
  unfold Oper.wp execOp
  simp only [ho, resolve, invoke, builtin, Sem.run_bind, Sem.run_pure, Result.andThen_ok, List.map_toArray, List.map_cons, List.map_nil, hs, hx, hr]
  exact hK _ _ (h v' w' h2 h3 h4)

end Go.Proofs.YtbljbdjmgogknaaGreatDoor
