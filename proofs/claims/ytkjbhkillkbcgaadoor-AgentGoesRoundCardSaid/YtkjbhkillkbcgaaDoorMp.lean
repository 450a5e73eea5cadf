/-
  A map of the call's own, keyed by texts, told by its entries: looked up, written, struck from, ranged over. No program in sight.
  Conditions: none.
-/
import Derived.Test.YtkjbhkillkbcgaaDoorCl
import Derived.Maps.RangeRun
import Derived.Maps.Own
import Derived.Maps.Range
set_option linter.unusedVariables false
set_option linter.unusedSimpArgs false
namespace Go.Proofs.YtkjbhkillkbcgaaDoor
open Go.RowKit
open Go.ChangeMaps (setBlock)
open Go.MapKept (Stamped)

/-! ### Lists of entries -/
abbrev MapL := List (List UInt8 × Value)
def look : MapL → List UInt8 → Option Value
  | [], _ => none
  | q :: r, k => if q.1 = k then some q.2 else look r k
def upd : MapL → List UInt8 → Value → MapL
  | [], k, v => [(k, v)]
  | q :: r, k, v => if q.1 = k then (k, v) :: r else q :: upd r k v
def del : MapL → List UInt8 → MapL
  | [], _ => []
  | q :: r, k => if q.1 = k then r else q :: del r k
def keysL (l : MapL) : List (List UInt8) := l.map (·.1)
def posn (k : List UInt8) : MapL → Nat → Option (Nat × Value)
  | [], _ => none
  | q :: r, i => if q.1 = k then some (i, q.2) else posn k r (i + 1)
theorem look_posn (k : List UInt8) : ∀ (l : MapL) (i : Nat), look l k = (posn k l i).map (·.2)
  | [], _ => rfl
  | q :: r, i => by
    rw [look, posn]
    split
    · rfl
    · exact look_posn k r (i + 1)
theorem posn_shift (k : List UInt8) : ∀ (l : MapL) (i j : Nat), posn k l (i + j) = (posn k l i).map (fun p => (p.1 + j, p.2))
  | [], _, _ => rfl
  | q :: r, i, j => by
    rw [posn, posn]
    split
    · rfl
    · rw [show i + j + 1 = (i + 1) + j by omega]
      exact posn_shift k r (i + 1) j
theorem posn_none (k : List UInt8) : ∀ (l : MapL) (i : Nat), posn k l i = none ↔ k ∉ keysL l
  | [], _ => by simp [posn, keysL]
  | q :: r, i => by
    rw [posn]
    have ih := posn_none k r (i + 1)
    simp only [keysL, List.map_cons, List.mem_cons, not_or] at ih ⊢
    split
    · rename_i h
      simp [h]
    · rename_i h
      rw [ih]
      constructor
      · exact fun hh => ⟨fun e => h e.symm, hh⟩
      · exact fun hh => hh.2
theorem look_none {l : MapL} {k : List UInt8} : look l k = none ↔ k ∉ keysL l := by
  rw [look_posn k l 0, Option.map_eq_none_iff, posn_none]
theorem upd_none {l : MapL} {k : List UInt8} (v : Value) (h : k ∉ keysL l) : upd l k v = l ++ [(k, v)] := by
  induction l with
  | nil => rfl
  | cons q r ih =>
    simp only [keysL, List.map_cons, List.mem_cons, not_or] at h
    rw [upd, if_neg (fun e => h.1 e.symm), ih h.2]
    rfl
theorem upd_some (k : List UInt8) (v : Value) : ∀ (l : MapL) (j : Nat) (u : Value), posn k l 0 = some (j, u) → upd l k v = l.set j (k, v) ∧ j < l.length ∧ (l[j]?).map (·.1) = some k
  | [], _, _, h => by simp [posn] at h
  | q :: r, j, u, h => by
    rw [posn] at h
    rw [upd]
    split at h
    · rename_i e
      injection h with h
      injection h with h1 h2
      subst h1
      rw [if_pos e]
      exact ⟨rfl, by simp, by simp [e]⟩
    · rename_i e
      rw [if_neg e]
      have hs := posn_shift k r 0 1
      rw [show (0 : Nat) + 1 = 1 from rfl] at hs h
      rw [hs] at h
      cases hp : posn k r 0 with
      | none => rw [hp] at h; cases h
      | some p =>
        rw [hp] at h
        simp only [Option.map_some] at h
        injection h with h
        injection h with h1 h2
        obtain ⟨a, b, c⟩ := upd_some k v r p.1 p.2 hp
        subst h1
        exact ⟨by rw [a]; rfl, by simp; omega, by simpa using c⟩
theorem del_some (k : List UInt8) : ∀ (l : MapL) (j : Nat) (u : Value), posn k l 0 = some (j, u) → del l k = l.eraseIdx j ∧ j < l.length
  | [], _, _, h => by simp [posn] at h
  | q :: r, j, u, h => by
    rw [posn] at h
    rw [del]
    split at h
    · rename_i e
      injection h with h
      injection h with h1 h2
      subst h1
      rw [if_pos e]
      exact ⟨rfl, by simp⟩
    · rename_i e
      rw [if_neg e]
      have hs := posn_shift k r 0 1
      rw [show (0 : Nat) + 1 = 1 from rfl] at hs h
      rw [hs] at h
      cases hp : posn k r 0 with
      | none => rw [hp] at h; cases h
      | some p =>
        rw [hp] at h
        simp only [Option.map_some] at h
        injection h with h
        injection h with h1 h2
        obtain ⟨a, b⟩ := del_some k r p.1 p.2 hp
        subst h1
        exact ⟨by rw [a]; rfl, by simp; omega⟩
theorem del_none {l : MapL} {k : List UInt8} (h : k ∉ keysL l) : del l k = l := by
  induction l with
  | nil => rfl
  | cons q r ih =>
    simp only [keysL, List.map_cons, List.mem_cons, not_or] at h
    rw [del, if_neg (fun e => h.1 e.symm), ih h.2]
theorem keysL_upd_in {l : MapL} {k : List UInt8} (v : Value) (h : k ∈ keysL l) : keysL (upd l k v) = keysL l := by
  induction l with
  | nil => simp [keysL] at h
  | cons q r ih =>
    rw [upd]
    by_cases e : q.1 = k
    · rw [if_pos e]
      simp [keysL, e]
    · rw [if_neg e]
      simp only [keysL, List.map_cons, List.mem_cons] at h
      have h2 : k ∈ keysL r := h.resolve_left (fun h => e h.symm)
      have := ih h2
      simp only [keysL, List.map_cons] at this ⊢
      rw [this]
theorem keysL_upd_out {l : MapL} {k : List UInt8} (v : Value) (h : k ∉ keysL l) : keysL (upd l k v) = keysL l ++ [k] := by
  rw [upd_none v h]
  simp [keysL]
theorem nodup_upd {l : MapL} (h : (keysL l).Nodup) (k : List UInt8) (v : Value) : (keysL (upd l k v)).Nodup := by
  by_cases hk : k ∈ keysL l
  · rw [keysL_upd_in v hk]; exact h
  · rw [keysL_upd_out v hk, List.nodup_append]
    exact ⟨h, by simp, fun a ha b hb e => hk (by simp at hb; rw [← hb, ← e]; exact ha)⟩
theorem del_sub (l : MapL) (k : List UInt8) : (del l k).Sublist l := by
  induction l with
  | nil => exact List.Sublist.refl _
  | cons q r ih =>
    rw [del]
    split
    · exact List.sublist_cons_self _ _
    · exact ih.cons_cons _
theorem nodup_del {l : MapL} (h : (keysL l).Nodup) (k : List UInt8) : (keysL (del l k)).Nodup := h.sublist ((del_sub l k).map _)
theorem look_upd_same (l : MapL) (k : List UInt8) (v : Value) : look (upd l k v) k = some v := by
  induction l with
  | nil => simp [upd, look]
  | cons q r ih =>
    rw [upd]
    split
    · simp [look]
    · rename_i e
      rw [look, if_neg e, ih]
theorem look_upd_other (l : MapL) {k k' : List UInt8} (v : Value) (h : k' ≠ k) : look (upd l k v) k' = look l k' := by
  induction l with
  | nil => simp [upd, look, Ne.symm h]
  | cons q r ih =>
    rw [upd]
    split
    · rename_i e
      rw [look, look, if_neg (fun e2 => h e2.symm), if_neg (fun e2 => h (by rw [← e2, e]))]
    · rw [look, look, ih]
theorem look_del_same {l : MapL} (hn : (keysL l).Nodup) (k : List UInt8) : look (del l k) k = none := by
  induction l with
  | nil => rfl
  | cons q r ih =>
    simp only [keysL, List.map_cons, List.nodup_cons] at hn
    rw [del]
    split
    · rename_i e
      rw [look_none]
      rw [← e]; exact hn.1
    · rename_i e
      rw [look, if_neg e, ih hn.2]
theorem look_del_other (l : MapL) {k k' : List UInt8} (h : k' ≠ k) : look (del l k) k' = look l k' := by
  induction l with
  | nil => rfl
  | cons q r ih =>
    rw [del]
    split
    · rename_i e
      rw [look, if_neg (fun e2 => h (by rw [← e2, e]))]
    · rw [look, look, ih]
theorem look_mem {l : MapL} {k : List UInt8} {v : Value} (h : look l k = some v) : (k, v) ∈ l := by
  induction l with
  | nil => simp [look] at h
  | cons q r ih =>
    rw [look] at h
    split at h
    · rename_i e
      injection h with h
      have : q = (k, v) := by rw [← e, ← h]
      rw [this]; exact List.mem_cons_self
    · exact List.mem_cons_of_mem _ (ih h)
theorem look_of_mem {l : MapL} (hn : (keysL l).Nodup) {k : List UInt8} {v : Value} (h : (k, v) ∈ l) : look l k = some v := by
  induction l with
  | nil => cases h
  | cons q r ih =>
    simp only [keysL, List.map_cons, List.nodup_cons] at hn
    rw [look]
    rcases List.mem_cons.1 h with e | h
    · subst e; rw [if_pos rfl]
    · have hne : q.1 ≠ k := fun e => hn.1 (by rw [e]; exact List.mem_map_of_mem (f := (·.1)) h)
      rw [if_neg hne, ih hn.2 h]

/-! ### In memory -/
def entL (es : List MapEntry) : List (Value × Value) := es.map fun e => (e.key, e.val)
def strL (l : MapL) : List (Value × Value) := l.map fun q => (Value.string ⟨q.1.toArray⟩, q.2)
/-- Block m is a map with these entries. -/
def Mp (w : World) (m : Nat) (l : MapL) : Prop :=
  ∃ (es : Array MapEntry) (clock : Nat), w.heap[m]? = some (.map es clock) ∧ entL es.toList = strL l ∧ (es.toList.map (·.born)).Pairwise (· < ·) ∧ (∀ b ∈ es.toList.map (·.born), b < clock) ∧ (keysL l).Nodup
theorem Mp.lt {w : World} {m : Nat} {l : MapL} (h : Mp w m l) : m < w.heap.size := by
  obtain ⟨es, clock, hb, _⟩ := h
  exact (Array.getElem?_eq_some_iff.1 hb).1
theorem Mp.nodup {w : World} {m : Nat} {l : MapL} (h : Mp w m l) : (keysL l).Nodup := by
  obtain ⟨es, clock, hb, h1, h2, h3, h4⟩ := h
  exact h4
theorem Mp.kept {S : Nat → Prop} {w w' : World} {m : Nat} {l : MapL} (h : Mp w m l) (hk : Keeps S w w') (hs : ¬ S m) : Mp w' m l := by
  have hlt := h.lt
  obtain ⟨es, clock, hb, hr⟩ := h
  exact ⟨es, clock, (hk.block m hlt hs).trans hb, hr⟩
theorem Mp.below {w w' : World} {m : Nat} {l : MapL} (h : Mp w m l) (hb : Below w.heap.size w w') : Mp w' m l := h.kept (Keeps.below (fun _ => False) hb) id
theorem Mp.new (w : World) : Mp (w.alloc (.map #[] 0)) w.heap.size [] := ⟨#[], 0, heap_alloc_new w _, rfl, List.Pairwise.nil, fun e he => (by simp at he), List.nodup_nil⟩
theorem entL_len {es : List MapEntry} {l : MapL} (h : entL es = strL l) : es.length = l.length := by
  have := congrArg List.length h
  simpa [entL, strL] using this
theorem bytes_inj {a b : List UInt8} (h : (⟨a.toArray⟩ : ByteArray) = ⟨b.toArray⟩) : a = b := by
  injection h with h
  simpa using congrArg Array.toList h
theorem str_beq (a b : List UInt8) : ((⟨a.toArray⟩ : ByteArray) == ⟨b.toArray⟩) = decide (a = b) := by
  rw [Bool.eq_iff_iff, Go.MapKept.bytes_beq, decide_eq_true_eq]
  exact ⟨bytes_inj, fun h => by rw [h]⟩
theorem findNow_str (k : List UInt8) : ∀ (es : List MapEntry) (l : MapL) (i : Nat), entL es = strL l → Instr.findNow .string (.string ⟨k.toArray⟩) es i = some (posn k l i) := by
  intro es
  induction es with
  | nil =>
    intro l i h
    cases l with
    | nil => rfl
    | cons q r => cases h
  | cons e es ih =>
    intro l i h
    cases l with
    | nil => cases h
    | cons q r =>
      simp only [entL, strL, List.map_cons, List.cons.injEq, Prod.mk.injEq] at h
      obtain ⟨⟨h1, h2⟩, h3⟩ := h
      unfold Instr.findNow
      rw [h1]
      simp only [Instr.sameNow, str_beq]
      rw [posn]
      by_cases e1 : q.1 = k
      · rw [if_pos e1, decide_eq_true e1.symm, h2]
      · rw [if_neg e1, decide_eq_false (fun x => e1 x.symm)]
        exact ih r (i + 1) h3
section
variable {P : Program} {T K E : TypeId}
theorem run_checkKey (hK : P.underlying K = some .string) (b : Bool) (k : List UInt8) (w : World) : (Instr.checkKey b 10000 K (.string ⟨k.toArray⟩)).run P w = .ok () w := by
  unfold Instr.checkKey
  simp only [Sem.run_bind, run_underlying hK, Result.andThen]
  rfl
theorem run_findKey (hK : P.underlying K = some .string) {es : Array MapEntry} {l : MapL} (h : entL es.toList = strL l) (k : List UInt8) (w : World) : (Instr.findKey K (.string ⟨k.toArray⟩) es.toList).run P w = .ok (posn k l 0) w := by
  simp only [Instr.findKey, Sem.run_bind, run_underlying hK, Result.andThen, findNow_str k es.toList l 0 h]
  rfl
/-- 'm[k]'. -/
theorem Mp.lookup {w : World} {m : Nat} {l : MapL} (h : Mp w m l) (hT : P.underlying T = some (.map K E)) (hK : P.underlying K = some .string) (k : List UInt8) {z : Value} (hz : ∀ w, (zeroValue E).run P w = .ok z w) :
    (Instr.lookup T (.map (some m)) (.string ⟨k.toArray⟩) false).run P w = .ok ((look l k).getD z) w := by
  obtain ⟨es, clock, hb, he, _⟩ := h
  simp only [Instr.lookup, Sem.run_bind, Sem.run_pure, run_underlying hT, Result.andThen, getObj, Sem.run, hb, run_checkKey hK, run_findKey hK he]
  rw [look_posn k l 0]
  cases posn k l 0 with
  | none => simp [hz, Result.andThen]
  | some p => simp [Result.andThen]
/-- 'v, ok := m[k]'. -/
theorem Mp.lookup_ok {w : World} {m : Nat} {l : MapL} (h : Mp w m l) (hT : P.underlying T = some (.map K E)) (hK : P.underlying K = some .string) (k : List UInt8) {z : Value} (hz : ∀ w, (zeroValue E).run P w = .ok z w) :
    (Instr.lookup T (.map (some m)) (.string ⟨k.toArray⟩) true).run P w = .ok (.tuple #[(look l k).getD z, .bool (look l k).isSome]) w := by
  obtain ⟨es, clock, hb, he, _⟩ := h
  simp only [Instr.lookup, Sem.run_bind, Sem.run_pure, run_underlying hT, Result.andThen, getObj, Sem.run, hb, run_checkKey hK, run_findKey hK he]
  rw [look_posn k l 0]
  cases posn k l 0 with
  | none => simp [hz, Result.andThen]
  | some p => simp [Result.andThen]
/-- 'len(m)'. -/
theorem Mp.len {w : World} {m : Nat} {l : MapL} (h : Mp w m l) (hT : P.underlying T = some (.map K E)) (ty : TypeId) : (Builtin.len_ #[T] ty #[.map (some m)]).run P w = .ok (.int .i64 l.length) w := by
  obtain ⟨es, clock, hb, he, _⟩ := h
  have hl := entL_len he
  simp only [Array.length_toList] at hl
  simp [Builtin.len_, run_underlying hT, getObj, Sem.run, hb, Result.andThen, hl, goInt]
theorem keeps_setBlock (w : World) (m : Nat) (o : Obj) : Keeps (fun j => j = m) w (setBlock w m o) :=
  ⟨rfl, rfl, rfl, by simp [setBlock], fun k hk hs => by simp [setBlock, Ne.symm (show k ≠ m from hs)]⟩
theorem size_setBlock (w : World) (m : Nat) (o : Obj) : (setBlock w m o).heap.size = w.heap.size := by simp [setBlock]
theorem at_setBlock {w : World} {m : Nat} (h : m < w.heap.size) (o : Obj) : (setBlock w m o).heap[m]? = some o := by simp [setBlock, h]
theorem entL_set {es : List MapEntry} {l : MapL} (h : entL es = strL l) (j : Nat) (k : List UInt8) (v : Value) (e : MapEntry) (he : e.key = .string ⟨k.toArray⟩) (hv : e.val = v) : entL (es.set j e) = strL (l.set j (k, v)) := by
  unfold entL strL at *
  rw [List.map_set, List.map_set, h, he, hv]
/-- 'm[k] = v'. -/
theorem Mp.update {w : World} {m : Nat} {l : MapL} (h : Mp w m l) (hT : P.underlying T = some (.map K E)) (hK : P.underlying K = some .string) (k : List UInt8) (v : Value) :
    ∃ w', (Instr.mapUpdate T (.map (some m)) (.string ⟨k.toArray⟩) v).run P w = .ok () w' ∧ Mp w' m (upd l k v) ∧ Keeps (fun j => j = m) w w' ∧ w'.heap.size = w.heap.size := by
  have hlt := h.lt
  obtain ⟨es, clock, hb, he, h2, h3, h4⟩ := h
  cases hp : posn k l 0 with
  | none =>
    refine ⟨setBlock w m (.map (es.push { key := .string ⟨k.toArray⟩, val := v, born := clock }) (clock + 1)), ?_, ⟨_, _, at_setBlock hlt _, ?_, ?_, ?_, nodup_upd h4 k v⟩, keeps_setBlock _ _ _, size_setBlock _ _ _⟩
    · simp only [Instr.mapUpdate, Sem.run_bind, Sem.run_pure, run_underlying hT, Result.andThen, getObj, setObj, Sem.run, hb, run_checkKey hK, run_findKey hK he, hp]
      rfl
    · rw [upd_none v ((posn_none k l 0).1 hp)]
      simp only [entL, strL, Array.toList_push, List.map_append, List.map_cons, List.map_nil] at he ⊢
      rw [he]
    · simp only [Array.toList_push, List.map_append, List.map_cons, List.map_nil]
      rw [List.pairwise_append]
      exact ⟨h2, List.pairwise_singleton _ _, fun a ha b hb => by simp at hb; subst hb; exact h3 a ha⟩
    · intro b hb
      simp only [Array.toList_push, List.map_append, List.map_cons, List.map_nil, List.mem_append, List.mem_singleton] at hb
      rcases hb with hb | rfl
      · have := h3 b hb; omega
      · omega
  | some p =>
    obtain ⟨j, u⟩ := p
    obtain ⟨hu, hj, hkj⟩ := upd_some k v l j u hp
    have hlen := entL_len he
    simp only [Array.length_toList] at hlen
    have hje : j < es.size := by omega
    have hkey : es[j].key = .string ⟨k.toArray⟩ := by
      have h5 : (entL es.toList)[j]? = (strL l)[j]? := by rw [he]
      simp only [entL, strL, List.getElem?_map] at h5
      rw [show es.toList[j]? = some es[j] by simp [hje]] at h5
      cases hl : l[j]? with
      | none => rw [hl] at h5; simp at h5
      | some q =>
        rw [hl] at h5 hkj
        simp only [Option.map_some, Option.some.injEq, Prod.mk.injEq] at h5 hkj
        rw [h5.1, hkj]
    have hmod : (es.modify j fun e => { e with key := .string ⟨k.toArray⟩, val := v }).toList = es.toList.set j { es[j] with key := .string ⟨k.toArray⟩, val := v } := by
      rw [Array.toList_modify]
      apply List.ext_getElem?
      intro i
      rw [List.getElem?_modify, List.getElem?_set]
      by_cases e : j = i
      · subst e
        simp [hje]
      · simp [e]
    refine ⟨setBlock w m (.map (es.modify j fun e => { e with key := .string ⟨k.toArray⟩, val := v }) clock), ?_, ⟨_, _, at_setBlock hlt _, ?_, ?_, ?_, nodup_upd h4 k v⟩, keeps_setBlock _ _ _, size_setBlock _ _ _⟩
    · have hks : ∀ w, (Instr.keyThatStays (((es[j]?).map (·.key)).getD (.string ⟨k.toArray⟩)) (.string ⟨k.toArray⟩)).run P w = .ok (.string ⟨k.toArray⟩) w := by
        intro w
        have e1 : ((es[j]?).map (·.key)).getD (.string ⟨k.toArray⟩) = .string ⟨k.toArray⟩ := by simp [hje, hkey]
        rw [e1]
        unfold Instr.keyThatStays
        have e2 : Instr.sameBits 10000 (.string ⟨k.toArray⟩) (.string ⟨k.toArray⟩) = true := by
          unfold Instr.sameBits
          rw [str_beq]; simp
        rw [if_pos e2]
        rfl
      simp only [Instr.mapUpdate, Sem.run_bind, Sem.run_pure, run_underlying hT, Result.andThen, getObj, setObj, Sem.run, hb, run_checkKey hK, run_findKey hK he, hp, hks]
      rfl
    · rw [hmod, hu]
      exact entL_set he j k v _ rfl rfl
    · rw [hmod, List.map_set]
      have : (es.toList.map (·.born)).set j es[j].born = es.toList.map (·.born) := by
        apply List.ext_getElem?
        intro i
        rw [List.getElem?_set]
        split
        · subst_vars
          simp [hje]
        · rfl
      rw [this]; exact h2
    · intro b hb
      rw [hmod, List.map_set] at hb
      rcases List.mem_or_eq_of_mem_set hb with hb | rfl
      · exact h3 b hb
      · exact h3 _ (List.mem_map.2 ⟨es[j], by simp, rfl⟩)
/-- 'delete(m, k)'. -/
theorem Mp.delete {w : World} {m : Nat} {l : MapL} (h : Mp w m l) (hT : P.underlying T = some (.map K E)) (hK : P.underlying K = some .string) (k : List UInt8) (K' ty : TypeId) :
    ∃ w', (Builtin.delete_ #[T, K'] ty #[.map (some m), .string ⟨k.toArray⟩]).run P w = .ok (.tuple #[]) w' ∧ Mp w' m (del l k) ∧ Keeps (fun j => j = m) w w' ∧ w'.heap.size = w.heap.size := by
  have hlt := h.lt
  obtain ⟨es, clock, hb, he, h2, h3, h4⟩ := h
  cases hp : posn k l 0 with
  | none =>
    refine ⟨setBlock w m (.map es clock), ?_, ⟨_, _, at_setBlock hlt _, ?_, h2, h3, nodup_del h4 k⟩, keeps_setBlock _ _ _, size_setBlock _ _ _⟩
    · simp [Builtin.delete_, Sem.run_bind, Sem.run_pure, run_underlying hT, Result.andThen, getObj, setObj, Sem.run, hb, run_checkKey hK, run_findKey hK he, hp]
      rfl
    · rw [del_none ((posn_none k l 0).1 hp)]; exact he
  | some p =>
    obtain ⟨j, u⟩ := p
    obtain ⟨hd, hj⟩ := del_some k l j u hp
    have hlen := entL_len he
    simp only [Array.length_toList] at hlen
    have hje : j < es.size := by omega
    have herase : (es.eraseIdxIfInBounds j).toList = es.toList.eraseIdx j := by
      simp [Array.eraseIdxIfInBounds, hje]
    refine ⟨setBlock w m (.map (es.eraseIdxIfInBounds j) clock), ?_, ⟨_, _, at_setBlock hlt _, ?_, ?_, ?_, nodup_del h4 k⟩, keeps_setBlock _ _ _, size_setBlock _ _ _⟩
    · simp [Builtin.delete_, Sem.run_bind, Sem.run_pure, run_underlying hT, Result.andThen, getObj, setObj, Sem.run, hb, run_checkKey hK, run_findKey hK he, hp]
      rfl
    · rw [herase, hd]
      simp only [entL, strL] at he ⊢
      rw [Go.ChangeMaps.map_eraseIdx, Go.ChangeMaps.map_eraseIdx, he]
    · rw [herase]
      exact h2.sublist ((List.eraseIdx_sublist _ _).map _)
    · intro b hb
      rw [herase] at hb
      exact h3 b (((List.eraseIdx_sublist _ _).map _).subset hb)
/-! ### Ranging -/
/-- Block r goes over the map m; 'left' is still to come. -/
def Rg (w : World) (m r : Nat) (l left : MapL) : Prop :=
  ∃ (es : Array MapEntry) (clock since : Nat) (seen : Array Nat) (c0 : Nat), w.heap[m]? = some (.map es clock) ∧ entL es.toList = strL l ∧ (es.toList.map (·.born)).Pairwise (· < ·) ∧ (∀ b ∈ es.toList.map (·.born), b < clock) ∧ (keysL l).Nodup ∧
    w.heap[r]? = some (.mapIter (some m) since seen c0) ∧ (∀ e ∈ es.toList, e.born < since) ∧ (since ≤ c0 ∧ since ≤ clock) ∧ (entL (leftOf es seen).toList).Perm (strL left)
theorem Rg.mp {w : World} {m r : Nat} {l left : MapL} (h : Rg w m r l left) : Mp w m l := by
  obtain ⟨es, clock, since, seen, c0, h1, h2, h3, h4, h5, _⟩ := h
  exact ⟨es, clock, h1, h2, h3, h4, h5⟩
theorem Rg.lt {w : World} {m r : Nat} {l left : MapL} (h : Rg w m r l left) : r < w.heap.size := by
  obtain ⟨es, clock, since, seen, c0, h1, h2, h3, h4, h5, h6, _⟩ := h
  exact (Array.getElem?_eq_some_iff.1 h6).1
theorem Rg.kept {S : Nat → Prop} {w w' : World} {m r : Nat} {l left : MapL} (h : Rg w m r l left) (hk : Keeps S w w') (hm : ¬ S m) (hr : ¬ S r) : Rg w' m r l left := by
  have h1 := h.mp.lt
  have h2 := h.lt
  obtain ⟨es, clock, since, seen, c0, a1, a2, a3, a4, a5, a6, a7⟩ := h
  exact ⟨es, clock, since, seen, c0, (hk.block m h1 hm).trans a1, a2, a3, a4, a5, (hk.block r h2 hr).trans a6, a7⟩
theorem Rg.perm {w : World} {m r : Nat} {l left left' : MapL} (h : Rg w m r l left) (hp : left.Perm left') : Rg w m r l left' := by
  obtain ⟨es, clock, since, seen, c0, a1, a2, a3, a4, a5, a6, a7, a8, a9⟩ := h
  exact ⟨es, clock, since, seen, c0, a1, a2, a3, a4, a5, a6, a7, a8, a9.trans (hp.map _)⟩
/-- 'range m'. -/
theorem Mp.range {w : World} {m : Nat} {l : MapL} (h : Mp w m l) (hT : P.underlying T = some (.map K E)) :
    ∃ w', (Instr.range T (.map (some m))).run P w = .ok (.pointer (some ⟨w.heap.size, 0, none⟩)) w' ∧ Rg w' m w.heap.size l l ∧ Below w.heap.size w w' ∧ w'.heap.size = w.heap.size + 1 := by
  have hlt := h.lt
  obtain ⟨es, clock, hb, he, h2, h3, h4⟩ := h
  refine ⟨w.alloc (.mapIter (some m) clock #[] clock), ?_, ⟨es, clock, clock, #[], clock, (Below.heap_alloc w _ m hlt).trans hb, he, h2, h3, h4, heap_alloc_new w _, fun e hh => h3 _ (List.mem_map_of_mem hh), ⟨Nat.le_refl _, Nat.le_refl _⟩, ?_⟩, (Below.refl _ _).alloc (Nat.le_refl _) _, by simp⟩
  · simp only [Instr.range, Sem.run_bind, Sem.run_pure, run_underlying hT, Result.andThen, getObj, newObj, Sem.run, hb]
    rfl
  · have : leftOf es #[] = es := by simp [leftOf]
    rw [this, he]
theorem filter_perm_erase : ∀ (L : List MapEntry) (e : MapEntry), (L.map (·.born)).Nodup → e ∈ L → L.Perm (e :: L.filter (fun x => x.born != e.born))
  | [], _, _, h => by cases h
  | a :: L, e, hn, h => by
    simp only [List.map_cons, List.nodup_cons] at hn
    rcases List.mem_cons.1 h with h | h
    · subst h
      have : (e :: L).filter (fun x => x.born != e.born) = L := by
        rw [List.filter_cons]
        simp only [bne_self_eq_false, Bool.false_eq_true, if_false]
        rw [List.filter_eq_self]
        intro x hx
        simp only [bne_iff_ne]
        exact fun hh => hn.1 (hh ▸ List.mem_map_of_mem (f := (·.born)) hx)
      rw [this]
    · have hne : a.born ≠ e.born := fun hh => hn.1 (hh ▸ List.mem_map_of_mem (f := (·.born)) h)
      rw [List.filter_cons]
      simp only [bne_iff_ne, ne_eq, hne, not_false_eq_true, if_true]
      exact ((filter_perm_erase L e hn.2 h).cons a).trans (List.Perm.swap e a _)
theorem leftOf_push (es : Array MapEntry) (seen : Array Nat) (b : Nat) : (leftOf es (seen.push b)).toList = (leftOf es seen).toList.filter (fun x => x.born != b) := by
  simp only [leftOf, Array.toList_filter, List.filter_filter]
  apply List.filter_congr
  intro x hx
  simp only [Array.contains_push]
  cases hs : seen.contains x.born <;> cases hb : x.born == b <;> simp [bne, hb]
/-- The step: nothing is left, or one entry that is left comes. -/
theorem Rg.next {w : World} {m r : Nat} {l left : MapL} (h : Rg w m r l left) (ty : TypeId) :
    (left = [] ∧ (Instr.next (.pointer (some ⟨r, 0, none⟩)) false ty).run P w = .ok (.tuple #[.bool false]) w) ∨
    ∃ (k : List UInt8) (v : Value) (left' : MapL) (w' : World), left.Perm ((k, v) :: left') ∧ (Instr.next (.pointer (some ⟨r, 0, none⟩)) false ty).run P w = .ok (.tuple #[.bool true, .string ⟨k.toArray⟩, v]) w' ∧ Rg w' m r l left' ∧
      Keeps (fun j => j = r) w w' ∧ w'.heap.size = w.heap.size ∧ (k, v) ∈ l ∧ (Instr.entry (.pointer (some ⟨r, 0, none⟩))).run P w' = .ok (.tuple #[.string ⟨k.toArray⟩, v]) w' := by
  have hrm : m ≠ r := by
    obtain ⟨es, clock, since, seen, c0, a1, a2, a3, a4, a5, a6, _⟩ := h
    intro e
    rw [e, a6] at a1
    cases a1
  have hlt := h.lt
  obtain ⟨es, clock, since, seen, c0, a1, a2, a3, a4, a5, a6, a7, a8, a9⟩ := h
  rcases run_next_at (P := P) w ty r m since c0 seen es clock a6 a1 a7 a8.1 with ⟨h0, hrun⟩ | ⟨e, he, w1, hw1, hrun⟩
  · left
    refine ⟨?_, hrun⟩
    have h1 : (leftOf es seen).toList = [] := List.eq_nil_of_length_eq_zero (by simpa using h0)
    rw [h1] at a9
    have h2 := a9.length_eq
    simp only [entL, strL, List.map_nil, List.length_nil, List.length_map] at h2
    exact List.eq_nil_of_length_eq_zero h2.symm
  · right
    have hnd : (es.toList.map (·.born)).Nodup := a3.imp (fun hh => Nat.ne_of_lt hh)
    have hes : e ∈ es.toList := by
      simp only [leftOf, Array.toList_filter] at he
      exact (List.mem_filter.1 he).1
    have hmem : (e.key, e.val) ∈ strL l := by
      rw [← a2]
      exact List.mem_map.2 ⟨e, hes, rfl⟩
    obtain ⟨q, hq, hqe⟩ := List.mem_map.1 hmem
    obtain ⟨k, v⟩ := q
    simp only [Prod.mk.injEq] at hqe
    have hndl : ((leftOf es seen).toList.map (·.born)).Nodup := by
      simp only [leftOf, Array.toList_filter]
      exact hnd.sublist (List.filter_sublist.map _)
    have hpe := filter_perm_erase _ e hndl he
    have hperm : (strL left).Perm ((e.key, e.val) :: entL (leftOf es (seen.push e.born)).toList) := by
      rw [leftOf_push]
      exact a9.symm.trans (hpe.map (fun e : MapEntry => (e.key, e.val)))
    have hin : (Value.string ⟨k.toArray⟩, v) ∈ strL left := by
      rw [hqe.1, hqe.2]
      exact hperm.symm.subset List.mem_cons_self
    obtain ⟨q2, hq2, hqe2⟩ := List.mem_map.1 hin
    obtain ⟨k2, v2⟩ := q2
    simp only [Prod.mk.injEq, Value.string.injEq] at hqe2
    obtain ⟨e3, rfl⟩ := hqe2
    obtain rfl : k2 = k := bytes_inj e3
    obtain ⟨ls, lt, hls⟩ := List.append_of_mem hq2
    have hbe : left.Perm ((k2, v2) :: (ls ++ lt)) := by rw [hls]; exact List.perm_middle
    have hsz1 : w1.heap = w.heap := by rcases hw1 with rfl | rfl <;> rfl
    have hk1 : Keeps (fun j => j = r) w w1 := by
      rcases hw1 with rfl | rfl
      · exact Keeps.refl _ _
      · exact Keeps.drew _ _
    have hlt1 : r < w1.heap.size := by rw [hsz1]; exact hlt
    have hrat : (setBlock w1 r (.mapIter (some m) since (seen.push e.born) clock)).heap[r]? = some (.mapIter (some m) since (seen.push e.born) clock) := at_setBlock hlt1 _
    have hmat : (setBlock w1 r (.mapIter (some m) since (seen.push e.born) clock)).heap[m]? = some (.map es clock) := by
      have := (keeps_setBlock w1 r (.mapIter (some m) since (seen.push e.born) clock)).block m (by rw [hsz1]; exact (Array.getElem?_eq_some_iff.1 a1).1) hrm
      rw [this, hsz1]; exact a1
    refine ⟨k2, v2, (ls ++ lt), setBlock w1 r (.mapIter (some m) since (seen.push e.born) clock), hbe, ?_, ⟨es, clock, since, seen.push e.born, clock, hmat, a2, a3, a4, a5, hrat, a7, ?_, ?_⟩, hk1.trans (keeps_setBlock _ _ _), ?_, hq, ?_⟩
    · rw [hrun, ← hqe.1, ← hqe.2]
    · exact ⟨a8.2, a8.2⟩
    · have h9 := (hbe.map (fun q : List UInt8 × Value => (Value.string ⟨q.1.toArray⟩, q.2))).symm.trans hperm
      simp only [List.map_cons] at h9
      rw [hqe.1, hqe.2] at h9
      exact (List.Perm.cons_inv h9).symm
    · rw [size_setBlock, hsz1]
    · have := run_entry_at (P := P) _ r m since seen es clock e hrat hmat hes hnd
      rw [this, hqe.1, hqe.2]
/-- How many are still to come, read off the world: for a loop's measure. -/
theorem Rg.left_eq {w : World} {m r : Nat} {l left : MapL} (h : Rg w m r l left) : w.rangeLeft m r = left.length := by
  obtain ⟨es, clock, since, seen, c0, a1, a2, a3, a4, a5, a6, a7, a8, a9⟩ := h
  have := a9.length_eq
  simp only [entL, strL, List.length_map, Array.length_toList] at this
  simp [World.rangeLeft, a1, a6, this]
end

end Go.Proofs.YtkjbhkillkbcgaaDoor
