/-
  The useless records taken out of a slice of the call's own: slices.IndexFunc, slices.DeleteFunc at records, walked.
  Conditions: what the closure holds; the model's longest length.
-/
import Derived.Test.YtccndbifnbmddaaWc
import Derived.Test.YtccndbifnbmddaaWr
set_option linter.unusedVariables false
set_option linter.unusedSimpArgs false
namespace Go.Proofs.Ytccndbifnbmddaa
open Go.RowKit

/-- The place of the first element that p names. -/
def idxP (p : Cr.Rec → Bool) : Nat → List Cr.Rec → Int
  | _, [] => -1
  | k, x :: r => if p x then k else idxP p (k + 1) r
theorem idxP_step (p : Cr.Rec → Bool) (l : List Cr.Rec) (k : Nat) (x : Cr.Rec) (h : l[k]? = some x) : idxP p k (l.drop k) = if p x then (k : Int) else idxP p (k + 1) (l.drop (k + 1)) := by
  obtain ⟨hk, rfl⟩ := List.getElem?_eq_some_iff.1 h
  rw [List.drop_eq_getElem_cons hk]
  rfl
theorem idxP_spec (p : Cr.Rec → Bool) (l : List Cr.Rec) : ∀ k, (idxP p k l = -1 ∧ ∀ x ∈ l, p x = false) ∨ ∃ j, j < l.length ∧ idxP p k l = ((k + j : Nat) : Int) ∧ (∀ x ∈ l.take j, p x = false) ∧ ∃ x, l[j]? = some x ∧ p x = true := by
  induction l with
  | nil => intro k; exact .inl ⟨rfl, fun x hx => (by simp at hx)⟩
  | cons y r ih =>
    intro k
    cases hy : p y with
    | true => exact .inr ⟨0, by simp, by simp [idxP, hy], fun x hx => (by simp at hx), y, rfl, hy⟩
    | false =>
      rcases ih (k + 1) with ⟨h1, h2⟩ | ⟨j, h1, h2, h3, x, h4, h5⟩
      · exact .inl ⟨by simp [idxP, hy, h1], fun x hx => by
          rcases List.mem_cons.1 hx with rfl | hx
          · exact hy
          · exact h2 x hx⟩
      · refine .inr ⟨j + 1, by simp; omega, by simp only [idxP, hy]; rw [if_neg (by simp), h2]; congr 1; omega, fun z hz => ?_, x, by simpa using h4, h5⟩
        rw [List.take_succ_cons] at hz
        rcases List.mem_cons.1 hz with rfl | hz
        · exact hy
        · exact h3 z hz
set_option maxHeartbeats 800000 in
theorem idxus_any (u : Us) (l : List Cr.Rec) (hok : ∀ x ∈ l, x.key.length ≤ maxLen) (hl : l.length ≤ maxLen) (po ph pl pb pn pz m : Nat) (rv : Value) (w : World) (h : Recs w rv l) (hu : UsW w po ph pl pb pn pz m u) :
    Calls Try.prog 42 #[rv, usF po ph pl pb pn pz] w fun e w' => e = .returned (.int .i64 (idxP (useless u) 0 l)) ∧ Below w.heap.size w w' := by
  have HZ := Lib.hid h
  have HU := Lib.hid hu
  have HR := Lib.hid hok
  obtain ⟨a, cap, rfl⟩ := h.form
  unfold maxLen at hl
  clear h hok hu
  unfold usF
  go_enter Try.func42, Try.ntmps42
  go_wp2
  go_loopw [8] (fun i wr => ∃ k : Nat, i = .int .i64 k ∧ k ≤ l.length ∧ idxP (useless u) 0 l = idxP (useless u) k (l.drop k) ∧ Below w.heap.size w wr) (fun i _ => l.length - (intOf i).toNat)
  case atStart => exact ⟨0, rfl, by omega, rfl, Below.refl _ _⟩
  case round =>
    obtain ⟨k, rfl, hk, hr, hb⟩ := hrel
    have HR2 := Lib.hid hr
    have HB := Lib.hid hb
    clear hr hb
    by_cases hlt : k < l.length
    · obtain ⟨x, hx⟩ : ∃ x, l[k]? = some x := ⟨l[k], by simp [hlt]⟩
      have HN := Lib.hid (useless_any u x po ph pl pb pn pz m wr (HU.out.below HB.out) (HR.out x (List.mem_of_getElem? hx)))
      have HS := Lib.hid (idxP_step (useless u) l k x hx)
      obtain ⟨g, off, cap', he, hg, p0, p1, p2, p3⟩ := HZ.out.get HB.out hx
      injection he with he1 he2 he3
      subst he1 he3
      obtain ⟨x0, xk, xv, xg⟩ := x
      unfold recV at HN
      dsimp only at *
      clear he2
      cases hb : useless u ⟨x0, xk, xv, xg⟩ with
      | false =>
        have HX : Hid (idxP (useless u) 0 l = idxP (useless u) (k + 1) (l.drop (k + 1))) := by rw [Hid, HR2.out, HS.out, hb]; rfl
        rw [hb] at HN
        clear HS hb
        go_wp2_with fail
        refine HN.out.mono ?_
        rintro e w5 ⟨rfl, hb5⟩
        have B5 := Lib.hid (bt HB.out hb5)
        clear hb5
        go_wp2
        go_roundw
        case rel => exact ⟨k + 1, by go_num, by omega, HX.out, B5.out⟩
        case measure => simp [intOf]; omega
      | true =>
        have HX : Hid (idxP (useless u) 0 l = k) := by rw [Hid, HR2.out, HS.out, hb]; rfl
        rw [hb] at HN
        clear HS hb
        go_wp2_with fail
        refine HN.out.mono ?_
        rintro e w5 ⟨rfl, hb5⟩
        have B5 := Lib.hid (bt HB.out hb5)
        clear hb5
        go_wp2
        go_ret
        exact ⟨by rw [HX.out]; rfl, B5.out⟩
    · obtain rfl : k = l.length := by omega
      have HX : Hid (idxP (useless u) 0 l = -1) := by rw [Hid, HR2.out, List.drop_length]; rfl
      go_wp2
      go_ret
      exact ⟨by rw [HX.out]; rfl, HB.out⟩

theorem recCells_put : ∀ (l : List Cr.Rec) (k : Nat) (x : Cr.Rec), k < l.length → ((((recCells l).set (k * 4) (.int .i64 x.off)).set (k * 4 + 1) (.string ⟨x.key.toArray⟩)).set (k * 4 + 2) (.string ⟨x.val.toArray⟩)).set (k * 4 + 3) (.bool x.gone) = recCells (l.set k x) := by
  intro l
  induction l with
  | nil => intro k x h; simp at h
  | cons y l ih =>
    intro k x h
    cases k with
    | zero => rfl
    | succ k =>
      have e : recCells (y :: l) = [.int .i64 y.off, .string ⟨y.key.toArray⟩, .string ⟨y.val.toArray⟩, .bool y.gone] ++ recCells l := rfl
      have hk := ih k x (by simpa using h)
      rw [e, show (k + 1) * 4 = 4 + k * 4 by omega]
      simp only [List.cons_append, List.nil_append, Nat.add_assoc, Nat.add_comm 4, List.set_cons_succ]
      rw [hk]
      rfl
theorem recCells_append (a b : List Cr.Rec) : recCells (a ++ b) = recCells a ++ recCells b := by simp [recCells]
theorem recCells_take (l : List Cr.Rec) (k : Nat) : recCells (l.take k) = (recCells l).take (k * 4) := by
  induction l generalizing k with
  | nil => simp [recCells]
  | cons x l ih =>
    cases k with
    | zero => simp [recCells]
    | succ k =>
      have e : recCells (x :: l) = [.int .i64 x.off, .string ⟨x.key.toArray⟩, .string ⟨x.val.toArray⟩, .bool x.gone] ++ recCells l := rfl
      have e2 : recCells (x :: l.take k) = [.int .i64 x.off, .string ⟨x.key.toArray⟩, .string ⟨x.val.toArray⟩, .bool x.gone] ++ recCells (l.take k) := rfl
      rw [List.take_succ_cons, e2, e, ih, show (k + 1) * 4 = 4 + k * 4 by omega]
      simp [List.take_append, Nat.add_comm 4]
/-- A record stored at a place of a row. -/
theorem Sl.set4 {w : World} {B : Nat} {v : Value} {l : List Cr.Rec} {n : Nat} (h : Sl w B 4 v n (recCells l)) (hn : l.length = n) (k : Nat) (hk : k < n) (x : Cr.Rec) :
    ∃ g off cap u0 u1 u2 u3, v = .slice (some ⟨g, off, none⟩) n cap ∧ B ≤ g ∧ w.cell? ⟨g, off + k * 4, none⟩ = some u0 ∧ w.cell? ⟨g, off + k * 4 + 1, none⟩ = some u1 ∧ w.cell? ⟨g, off + k * 4 + 2, none⟩ = some u2 ∧ w.cell? ⟨g, off + k * 4 + 3, none⟩ = some u3 ∧
      w.frozen? ⟨g, off + k * 4, none⟩ = false ∧ w.frozen? ⟨g, off + k * 4 + 1, none⟩ = false ∧ w.frozen? ⟨g, off + k * 4 + 2, none⟩ = false ∧ w.frozen? ⟨g, off + k * 4 + 3, none⟩ = false ∧
      Sl ((((w.setCell ⟨g, off + k * 4, none⟩ (.int .i64 x.off)).setCell ⟨g, off + k * 4 + 1, none⟩ (.string ⟨x.key.toArray⟩)).setCell ⟨g, off + k * 4 + 2, none⟩ (.string ⟨x.val.toArray⟩)).setCell ⟨g, off + k * 4 + 3, none⟩ (.bool x.gone)) B 4 v n (recCells (l.set k x)) := by
  subst hn
  obtain ⟨g, off, cap, u0, hv, hB, c0, f0, h0⟩ := h.setc (k * 4) (by omega) (.int .i64 x.off)
  obtain ⟨g1, off1, cap1, u1, hv1, hB1, c1, f1, _⟩ := h.setc (k * 4 + 1) (by omega) (.int .i64 x.off)
  obtain ⟨g2, off2, cap2, u2, hv2, hB2, c2, f2, _⟩ := h.setc (k * 4 + 2) (by omega) (.int .i64 x.off)
  obtain ⟨g3, off3, cap3, u3, hv3, hB3, c3, f3, _⟩ := h.setc (k * 4 + 3) (by omega) (.int .i64 x.off)
  obtain ⟨g4, off4, cap4, u4, hv4, hB4, c4, f4, h1⟩ := h0.setc (k * 4 + 1) (by omega) (.string ⟨x.key.toArray⟩)
  obtain ⟨g5, off5, cap5, u5, hv5, hB5, c5, f5, h2⟩ := h1.setc (k * 4 + 2) (by omega) (.string ⟨x.val.toArray⟩)
  obtain ⟨g6, off6, cap6, u6, hv6, hB6, c6, f6, h3⟩ := h2.setc (k * 4 + 3) (by omega) (.bool x.gone)
  rw [hv] at hv1 hv2 hv3 hv4 hv5 hv6
  cases hv1; cases hv2; cases hv3; cases hv4; cases hv5; cases hv6
  rw [recCells_put l k x hk] at h3
  exact ⟨g, off, cap, u0, u1, u2, u3, hv, hB, c0, c1, c2, c3, f0, f1, f2, f3, h3⟩
/-- The slice cut to its first k records. -/
theorem Sl.cut4 {w : World} {B g off cap n : Nat} {l : List Cr.Rec} (h : Sl w B 4 (.slice (some ⟨g, off, none⟩) n cap) n (recCells l)) (hn : l.length = n) (k : Nat) (hk : k ≤ n) :
    Sl w B 4 (.slice (some ⟨g, off, none⟩) k cap) k (recCells (l.take k)) := by
  subst hn
  obtain ⟨hlen, h2⟩ := h
  rcases h2 with ⟨h2, _⟩ | ⟨g', off', cap', he, hB, hg, hc, hm, hr, ht⟩
  · cases h2
  · cases he
    refine ⟨by rw [recCells_len, List.length_take]; omega, .inr ⟨g, off, cap, rfl, hB, hg, by omega, hm, ?_, ht⟩⟩
    intro j u hu
    rw [recCells_take, List.getElem?_take] at hu
    split at hu
    · exact hr j u hu
    · cases hu
def zeroRecs (n : Nat) : List Value := (Builtin.zeroCells #[.int .i64 0, .string ⟨#[]⟩, .string ⟨#[]⟩, .bool false] n).toList
theorem zeroRecs_len (n : Nat) : (zeroRecs n).length = n * 4 := by simp [zeroRecs, Builtin.zeroCells]
theorem zeroRecs_one (n : Nat) : ∀ u ∈ zeroRecs n, u.oneCell' = true := by
  intro u hu
  simp only [zeroRecs, Builtin.zeroCells, Array.toList_map, List.mem_map] at hu
  obtain ⟨i, _, rfl⟩ := hu
  have : i % 4 = 0 ∨ i % 4 = 1 ∨ i % 4 = 2 ∨ i % 4 = 3 := by omega
  show (Value.oneCell' #[Value.int .i64 0, .string ⟨#[]⟩, .string ⟨#[]⟩, .bool false][i % 4]!) = true
  rcases this with e | e | e | e <;> rw [e] <;> rfl
theorem zeroRec (w : World) : (zeroValue 44).run Try.prog w = .ok (.agg #[.int .i64 0, .string ⟨#[]⟩, .string ⟨#[]⟩, .bool false]) w := by kernel_rfl
theorem run_clear_recs (w : World) (ty : TypeId) (g o n c : Nat) (hn : 0 < n) (ht : w.there g o (n * 4)) :
    (Builtin.clear_ #[30] ty #[.slice (some ⟨g, o, none⟩) n c]).run Try.prog w = .ok (.tuple #[]) (w.setCells g o (zeroRecs n)) := by
  have hst := run_storeCells_cells (P := Try.prog) g o (zeroRecs n) 0 w (by rw [zeroRecs_len]; intro j hj; exact (ht j hj).1) (by rw [zeroRecs_len]; intro j hj; exact (ht j hj).2) (zeroRecs_one n)
  simp only [Nat.add_zero, zeroRecs] at hst
  obtain ⟨m, rfl⟩ : ∃ m, n = m + 1 := ⟨n - 1, by omega⟩
  simp [Builtin.clear_, run_underlying Try.underlying30, zeroRec, Value.cells, hst, zeroRecs]
theorem Sl.cleared {w : World} {B g off cap n : Nat} {l : List Cr.Rec} (h : Sl w B 4 (.slice (some ⟨g, off, none⟩) n cap) n (recCells l)) (hn : l.length = n) (k : Nat) (hk : k < n) (ty : TypeId) :
    (Builtin.clear_ #[30] ty #[.slice (some ⟨g, off + k * 4, none⟩) (n - k) (cap - k)]).run Try.prog w = .ok (.tuple #[]) (w.setCells g (off + k * 4) (zeroRecs (n - k))) ∧
    Sl (w.setCells g (off + k * 4) (zeroRecs (n - k))) B 4 (.slice (some ⟨g, off, none⟩) k cap) k (recCells (l.take k)) ∧ Keeps (fun j => j = g) w (w.setCells g (off + k * 4) (zeroRecs (n - k))) := by
  have hc := h.cut4 hn k (by omega)
  obtain ⟨hlen, h2⟩ := h
  rcases h2 with ⟨h2, _⟩ | ⟨g', off', cap', he, hB, hg, hcp, hm, hr, ht⟩
  · cases h2
  · cases he
    refine ⟨run_clear_recs w ty g _ _ _ (by omega) (fun j hj => by have := ht (k * 4 + j) (by omega); rwa [← Nat.add_assoc] at this), ⟨hc.1, .inr ⟨g, off, cap, rfl, hB, ?_, by omega, hm, ?_, World.there_setCells ht _ _ _⟩⟩, ?_⟩
    · exact Nat.lt_of_lt_of_le hg (size_setCells_ge w g _ _)
    · obtain ⟨hl3, h3⟩ := hc
      rcases h3 with ⟨h3, _⟩ | ⟨g', off', cap', he, hB', hg', hcp', hm', hr', ht'⟩
      · cases h3
      · cases he
        exact World.rangeAt_setCells_apart hr' _ _ _ (.inr (.inl (by rw [hl3]; exact Nat.le_refl _)))
    · exact ⟨World.os_setCells .., tape_setCells .., World.output_setCells .., size_setCells_ge .., fun j hj hs => World.heap_setCells_other w g _ _ hj hs⟩
/-- Where a step of the way stands: i kept among the first j. -/
structure Dl (p : Cr.Rec → Bool) (l L : List Cr.Rec) (i j : Nat) : Prop where
  len : L.length = l.length
  lt : i < j
  le : j ≤ l.length
  low : L.take i = (l.take j).filter (fun x => !p x)
  high : L.drop j = l.drop j
theorem filter_take (p : Cr.Rec → Bool) (l : List Cr.Rec) (j : Nat) (x : Cr.Rec) (h : l[j]? = some x) : (l.take (j + 1)).filter p = (l.take j).filter p ++ [x].filter p := by
  obtain ⟨hj, rfl⟩ := List.getElem?_eq_some_iff.1 h
  rw [List.take_succ_eq_append_getElem hj, List.filter_append]
theorem filter_all (p : Cr.Rec → Bool) (l : List Cr.Rec) (h : ∀ x ∈ l, p x = false) : l.filter (fun x => !p x) = l := List.filter_eq_self.2 (fun x hx => by rw [h x hx]; rfl)
theorem Dl.start {p : Cr.Rec → Bool} {l : List Cr.Rec} {k : Nat} {x : Cr.Rec} (h1 : ∀ x ∈ l.take k, p x = false) (h2 : l[k]? = some x) (h3 : p x = true) : Dl p l l k (k + 1) :=
  ⟨rfl, by omega, (List.getElem?_eq_some_iff.1 h2).1, by rw [filter_take _ l k x h2, filter_all p _ h1]; simp [h3], rfl⟩
theorem Dl.get {p : Cr.Rec → Bool} {l L : List Cr.Rec} {i j : Nat} (h : Dl p l L i j) : L[j]? = l[j]? := by
  have := congrArg (fun m => m[0]?) h.high
  simpa [List.getElem?_drop] using this
theorem Dl.skip {p : Cr.Rec → Bool} {l L : List Cr.Rec} {i j : Nat} {x : Cr.Rec} (h : Dl p l L i j) (hx : l[j]? = some x) (hp : p x = true) : Dl p l L i (j + 1) :=
  ⟨h.len, by have := h.lt; omega, (List.getElem?_eq_some_iff.1 hx).1, by rw [h.low, filter_take _ l j x hx]; simp [hp], by rw [← List.drop_drop, ← List.drop_drop, h.high]⟩
theorem Dl.keep {p : Cr.Rec → Bool} {l L : List Cr.Rec} {i j : Nat} {x : Cr.Rec} (h : Dl p l L i j) (hx : l[j]? = some x) (hp : p x = false) : Dl p l (L.set i x) (i + 1) (j + 1) := by
  have hj := (List.getElem?_eq_some_iff.1 hx).1
  have hlt := h.lt
  have hlen := h.len
  refine ⟨by rw [List.length_set, h.len], by omega, hj, ?_, ?_⟩
  · have hi : i < (L.set i x).length := by rw [List.length_set]; omega
    rw [List.take_succ_eq_append_getElem hi, List.getElem_set_self, List.take_set_of_le (Nat.le_refl _), h.low, filter_take _ l j x hx]
    simp [hp]
  · rw [List.drop_set_of_lt (by omega), ← List.drop_drop, ← List.drop_drop, h.high]

def DlPost (w : World) (B : Nat) (v : Value) (l : List Cr.Rec) (e : Ending) (w' : World) : Prop :=
  ∃ v', e = .returned v' ∧ v'.ownBlock = v.ownBlock ∧ Sl w' B 4 v' l.length (recCells l) ∧ Keeps (fun k => v.ownBlock = some k) w w'
set_option maxRecDepth 20000 in
set_option maxHeartbeats 3200000 in
theorem deluse_any (u : Us) (l : List Cr.Rec) (hok : ∀ x ∈ l, x.key.length ≤ maxLen) (hl : l.length ≤ maxLen) (po ph pl pb pn pz m B : Nat) (v : Value) (w : World) (h : Sl w B 4 v l.length (recCells l)) (hu : UsW w po ph pl pb pn pz m u)
    (hap : ∀ k, v.ownBlock = some k → ¬ (k = po ∨ k = ph ∨ k = pl ∨ k = pb ∨ k = pn ∨ k = pz ∨ k = m)) :
    Calls Try.prog 27 #[v, usF po ph pl pb pn pz] w (DlPost w B v (l.filter (fun x => !useless u x))) := by
  have HI := Lib.hid (idxus_any u l hok hl po ph pl pb pn pz m v w h.recs hu)
  have HS := Lib.hid h
  have HU := Lib.hid hu
  have HA := Lib.hid hap
  have HR := Lib.hid hok
  obtain ⟨av, cap, rfl, hcap, hav⟩ := h.form
  unfold maxLen at hl
  clear h hok hu hap
  unfold usF at *
  rcases idxP_spec (useless u) l 0 with ⟨h1, h2⟩ | ⟨k0, h1, h2, h3, x0, h4, h5⟩
  · have HF : Hid (l.filter (fun x => !useless u x) = l) := filter_all _ _ h2
    rw [h1] at HI
    clear h1 h2
    go_enter Try.func27, Try.ntmps27
    go_wp2_with fail
    refine HI.out.mono ?_
    rintro e w1 ⟨rfl, hb⟩
    have HB := Lib.hid hb
    clear hb
    go_wp2
    go_ret
    exact ⟨_, rfl, rfl, by rw [HF.out]; exact HS.out.kept (Keeps.below (fun _ => False) HB.out) (fun _ _ => id), Keeps.below _ HB.out⟩
  · rw [h2] at HI
    simp only [Nat.zero_add] at HI
    have D0 := Lib.hid (Dl.start h3 h4 h5)
    clear h2 h3 h4 h5
    rcases hav with rfl | ⟨g, off, rfl⟩
    · exfalso
      rcases HS.out.2 with ⟨he, h0⟩ | ⟨g, off, cap', he, _⟩
      · omega
      · cases he
    have HA2 : Hid (¬ (g = po ∨ g = ph ∨ g = pl ∨ g = pb ∨ g = pn ∨ g = pz ∨ g = m)) := HA.out g rfl
    have hne1 : ((k0 : Int) == -1) = false := beq_eq_false_iff_ne.2 (by omega)
    clear HA
    go_enter Try.func27, Try.ntmps27
    go_wp2_with fail
    refine HI.out.mono ?_
    rintro e w1 ⟨rfl, hb⟩
    have S1 : Hid (Sl w1 B 4 (.slice (some ⟨g, off, none⟩) l.length cap) l.length (recCells l)) := HS.out.kept (Keeps.below (fun _ => False) hb) (fun _ _ => id)
    have K1 : Hid (Keeps (fun j => j = g) w w1) := Keeps.below _ hb
    clear hb HI HS
    go_wp2
    go_loopw [5, 6] (fun ti tj wr => ∃ (i j : Nat) (L : List Cr.Rec), ti = .int .i64 i ∧ tj = .int .i64 j ∧ j ≤ l.length ∧ i < j ∧ Dl (useless u) l L i j ∧ Sl wr B 4 (.slice (some ⟨g, off, none⟩) l.length cap) l.length (recCells L) ∧ Keeps (fun j => j = g) w wr) (fun _ tj _ => l.length - (intOf tj).toNat)
    case atStart => exact ⟨k0, k0 + 1, l, rfl, by go_num, by omega, by omega, D0.out, S1.out, K1.out⟩
    case round =>
      obtain ⟨i, j, L, rfl, rfl, hj, hij, hD, hS, hK⟩ := hrel
      have DL := Lib.hid hD
      have SL := Lib.hid hS
      have KL := Lib.hid hK
      have hlen := hD.len
      clear hD hS hK S1 K1 D0
      by_cases hlt : j < l.length
      · obtain ⟨x, hx⟩ : ∃ x, l[j]? = some x := ⟨l[j], by simp [hlt]⟩
        have hxL : L[j]? = some x := DL.out.get.trans hx
        obtain ⟨q0, q1, q2, q3⟩ := recCells_get L j x hxL
        have hrng : wr.rangeAt g off (recCells L) := by
          rcases SL.out.2 with ⟨he, _⟩ | ⟨g', off', cap', he, _, _, _, _, hr, _⟩
          · cases he
          · cases he; exact hr
        have p0 : wr.cell? ⟨g, off + j * 4, none⟩ = some (.int .i64 x.off) := hrng _ _ q0
        have p1 : wr.cell? ⟨g, off + j * 4 + 1, none⟩ = some (.string ⟨x.key.toArray⟩) := by rw [Nat.add_assoc]; exact hrng _ _ q1
        have p2 : wr.cell? ⟨g, off + j * 4 + 2, none⟩ = some (.string ⟨x.val.toArray⟩) := by rw [Nat.add_assoc]; exact hrng _ _ q2
        have p3 : wr.cell? ⟨g, off + j * 4 + 3, none⟩ = some (.bool x.gone) := by rw [Nat.add_assoc]; exact hrng _ _ q3
        have HU1 : Hid (UsW wr po ph pl pb pn pz m u) := HU.out.keep KL.out (fun q hq hc e => HA2.out (by subst e; exact hc))
        have B1 : Hid (Below wr.heap.size wr (wr.alloc (.cells #[.int .i64 x.off, .string ⟨x.key.toArray⟩, .string ⟨x.val.toArray⟩, .bool x.gone] 44))) := (Below.refl _ _).alloc (Nat.le_refl _) _
        have C1 : Hid (Cl (wr.alloc (.cells #[.int .i64 x.off, .string ⟨x.key.toArray⟩, .string ⟨x.val.toArray⟩, .bool x.gone] 44)) wr.heap.size [.int .i64 x.off, .string ⟨x.key.toArray⟩, .string ⟨x.val.toArray⟩, .bool x.gone] 44) := Cl.new wr _ _
        have SL1 : Hid (Sl (wr.alloc (.cells #[.int .i64 x.off, .string ⟨x.key.toArray⟩, .string ⟨x.val.toArray⟩, .bool x.gone] 44)) B 4 (.slice (some ⟨g, off, none⟩) l.length cap) l.length (recCells L)) := SL.out.kept (Keeps.below (fun _ => False) B1.out) (fun _ _ => id)
        have KL1 : Hid (Keeps (fun j => j = g) w (wr.alloc (.cells #[.int .i64 x.off, .string ⟨x.key.toArray⟩, .string ⟨x.val.toArray⟩, .bool x.gone] 44))) := KL.out.trans (Keeps.below _ B1.out)
        have HU2 := Lib.hid (HU1.out.below B1.out)
        have HN := Lib.hid (useless_any u x po ph pl pb pn pz m _ HU2.out (HR.out x (List.mem_of_getElem? hx)))
        have HX := Lib.hid hx
        have hq : wr.heap.size ≠ g := by
          rcases SL.out.2 with ⟨he, _⟩ | ⟨g', off', cap', he, _, hg, _⟩
          · cases he
          · cases he; omega
        clear hrng q0 q1 q2 q3 hx hxL
        go_upto_region 8 with (fail)
        generalize wr.alloc (.cells #[.int .i64 x.off, .string ⟨x.key.toArray⟩, .string ⟨x.val.toArray⟩, .bool x.gone] 44) = w2 at *
        clear p0 p1 p2 p3 HU1 B1
        generalize wr.heap.size = q at *
        have d0 := C1.out.cell 0
        have d1 := C1.out.cell 1
        have d2 := C1.out.cell 2
        have d3 := C1.out.cell 3
        simp only [List.getElem?_cons_zero, List.getElem?_cons_succ] at d0 d1 d2 d3
        unfold recV at HN
        cases hb : useless u x with
        | true =>
          rw [hb] at HN
          have DL2 := Lib.hid (DL.out.skip HX.out hb)
          clear hb
          go_wp2_with fail
          refine HN.out.mono ?_
          rintro e w3 ⟨rfl, hb3⟩
          have SL3 : Hid (Sl w3 B 4 (.slice (some ⟨g, off, none⟩) l.length cap) l.length (recCells L)) := SL1.out.kept (Keeps.below (fun _ => False) hb3) (fun _ _ => id)
          have KL3 : Hid (Keeps (fun j => j = g) w w3) := KL1.out.trans (Keeps.below _ hb3)
          clear hb3
          go_wp2
          go_roundw
          case rel => exact ⟨i, j + 1, L, rfl, by go_num, by omega, by omega, DL2.out, SL3.out, KL3.out⟩
          case measure => simp [intOf]; omega
        | false =>
          rw [hb] at HN
          have DL2 := Lib.hid (DL.out.keep HX.out hb)
          clear hb
          go_wp2_with fail
          refine HN.out.mono ?_
          rintro e w3 ⟨rfl, hb3⟩
          have C3 := Lib.hid (C1.out.below hb3)
          have SL3 : Hid (Sl w3 B 4 (.slice (some ⟨g, off, none⟩) l.length cap) l.length (recCells L)) := SL1.out.kept (Keeps.below (fun _ => False) hb3) (fun _ _ => id)
          have KL3 : Hid (Keeps (fun j => j = g) w w3) := KL1.out.trans (Keeps.below _ hb3)
          clear hb3 d0 d1 d2 d3
          have d0 := C3.out.cell 0
          have d1 := C3.out.cell 1
          have d2 := C3.out.cell 2
          have d3 := C3.out.cell 3
          simp only [List.getElem?_cons_zero, List.getElem?_cons_succ] at d0 d1 d2 d3
          obtain ⟨g1, off1, cap1, u0, u1, u2, u3, hv1, hB1, e0, e1, e2, e3, f0, f1, f2, f3, hset⟩ := SL3.out.set4 hlen i (by omega) x
          cases hv1
          have SL4 := Lib.hid hset
          have KL4 : Hid (Keeps (fun j => j = g) w ((((w3.setCell ⟨g, off + i * 4, none⟩ (.int .i64 x.off)).setCell ⟨g, off + i * 4 + 1, none⟩ (.string ⟨x.key.toArray⟩)).setCell ⟨g, off + i * 4 + 2, none⟩ (.string ⟨x.val.toArray⟩)).setCell ⟨g, off + i * 4 + 3, none⟩ (.bool x.gone))) := (((KL3.out.trans (Keeps.setCell _ _ _ _ rfl)).trans (Keeps.setCell _ _ _ _ rfl)).trans (Keeps.setCell _ _ _ _ rfl)).trans (Keeps.setCell _ _ _ _ rfl)
          clear hset
          go_wp2
          go_roundw
          case rel => exact ⟨i + 1, j + 1, L.set i x, by go_num, by go_num, by omega, by omega, DL2.out, SL4.out, KL4.out⟩
          case measure => simp [intOf]; omega
      · obtain rfl : j = l.length := by omega
        obtain ⟨i0, hi, hz0, hz1, hz2⟩ := info_parts recInfo
        have he : Try.prog.elem 30 = 44 := by simp [Program.elem, Try.underlying30]
        have hs1 : ∀ w, (Instr.slice 30 (.slice (some ⟨g, off, none⟩) l.length cap) (some (.int .i64 i)) none none).run Try.prog w = .ok (.slice (some ⟨g, off + i * 4, none⟩) (l.length - i) (cap - i)) w := by
          intro w
          rw [run_slice_l (P := Try.prog) w 30 _ _ cap (by rw [he]; exact Try.underlying30) .i64 i (by omega) (by omega), he]
          have hcc : ¬ (cap = Int.toNat i) := by omega
          have hcc2 : ¬ (cap = i) := by omega
          simp [sizeOf, typeInfo, hi, hz1, sliced, Addr.add, hcc, hcc2]
        have hs2 : ∀ w, (Instr.slice 30 (.slice (some ⟨g, off, none⟩) l.length cap) none (some (.int .i64 i)) none).run Try.prog w = .ok (.slice (some ⟨g, off, none⟩) i cap) w := by
          intro w
          rw [run_slice_h (P := Try.prog) w 30 _ _ cap (by rw [he]; exact Try.underlying30) .i64 i (by omega) (by omega), he]
          have hcc : ¬ (cap = 0) := by omega
          simp [sizeOf, typeInfo, hi, hz1, sliced, Addr.add, hcc]
        obtain ⟨hcl, hS9, hK9⟩ := SL.out.cleared hlen i hij 0
        have hcl2 : ∀ ty, (Builtin.clear_ #[30] ty #[.slice (some ⟨g, off + i * 4, none⟩) (l.length - i) (cap - i)]).run Try.prog wr = .ok (.tuple #[]) (wr.setCells g (off + i * 4) (zeroRecs (l.length - i))) := fun ty => (SL.out.cleared hlen i hij ty).1
        have HL : Hid (L.take i = l.filter (fun x => !useless u x)) := by rw [Hid, DL.out.low, List.take_length]
        have HLn : Hid (i = (l.filter (fun x => !useless u x)).length) := by rw [Hid, ← HL.out, List.length_take]; omega
        rw [HL.out] at hS9
        have S9 := Lib.hid hS9
        have K9 := Lib.hid hK9
        clear hcl hS9 hK9 he hi hz0 hz1 hz2
        go_wp2
        go_ret
        refine ⟨_, rfl, rfl, by rw [← HLn.out]; exact S9.out, (KL.out.trans K9.out).mono (fun k _ e => by rw [e]; rfl)⟩

end Go.Proofs.Ytccndbifnbmddaa
