/-
  Bag: Clear (slices.IndexFunc, slices.DeleteFunc at items, walked).
  Conditions: none.
-/
import Derived.Test.YtbljbdjmgogknaaGreatDoorGb
set_option linter.unusedVariables false
set_option linter.unusedSimpArgs false
namespace Go.Proofs.YtbljbdjmgogknaaGreatDoor
open Go.RowKit

/-- Is it to that unit? -/
def toU (u : Int) (x : Item) : Bool := x.2 == u
/-- The place of the first element that p names. -/
def idxI (p : Item → Bool) : Nat → List Item → Int
  | _, [] => -1
  | k, x :: r => if p x then k else idxI p (k + 1) r
theorem idxI_step (p : Item → Bool) (l : List Item) (k : Nat) (x : Item) (h : l[k]? = some x) : idxI p k (l.drop k) = if p x then (k : Int) else idxI p (k + 1) (l.drop (k + 1)) := by
  obtain ⟨hk, rfl⟩ := List.getElem?_eq_some_iff.1 h
  rw [List.drop_eq_getElem_cons hk]
  rfl
theorem idxI_spec (p : Item → Bool) (l : List Item) : ∀ k, (idxI p k l = -1 ∧ ∀ x ∈ l, p x = false) ∨ ∃ j, j < l.length ∧ idxI p k l = ((k + j : Nat) : Int) ∧ (∀ x ∈ l.take j, p x = false) ∧ ∃ x, l[j]? = some x ∧ p x = true := by
  induction l with
  | nil => intro k; exact .inl ⟨rfl, fun x hx => (by simp at hx)⟩
  | cons y r ih =>
    intro k
    cases hy : p y with
    | true => exact .inr ⟨0, by simp, by simp [idxI, hy], fun x hx => (by simp at hx), y, rfl, hy⟩
    | false =>
      rcases ih (k + 1) with ⟨h1, h2⟩ | ⟨j, h1, h2, h3, x, h4, h5⟩
      · exact .inl ⟨by simp [idxI, hy, h1], fun x hx => by
          rcases List.mem_cons.1 hx with rfl | hx
          · exact hy
          · exact h2 x hx⟩
      · refine .inr ⟨j + 1, by simp; omega, by simp only [idxI, hy]; rw [if_neg (by simp), h2]; congr 1; omega, fun z hz => ?_, x, by simpa using h4, h5⟩
        rw [List.take_succ_cons] at hz
        rcases List.mem_cons.1 hz with rfl | hz
        · exact hy
        · exact h3 z hz
def clF (pu : Nat) : Value := .func (.func 35) #[] #[.pointer (some ⟨pu, 0, none⟩)]
set_option maxHeartbeats 800000 in
theorem isto_any (u : Int) (x : Item) (pu : Nat) (w : World) (h : Cl w pu [.int .i64 u] 3) :
    Calls Tryz.prog 35 #[.agg #[.string ⟨x.1.toArray⟩, .int .i64 x.2], .pointer (some ⟨pu, 0, none⟩)] w fun e w' => e = .returned (.bool (toU u x)) ∧ Below w.heap.size w w' := by
  have BA : Hid (Below w.heap.size w (w.alloc (.cells #[.string ⟨x.1.toArray⟩, .int .i64 x.2] 74))) := (Below.refl _ _).alloc (Nat.le_refl _) _
  have CX : Hid (Cl (w.alloc (.cells #[.string ⟨x.1.toArray⟩, .int .i64 x.2] 74)) w.heap.size [.string ⟨x.1.toArray⟩, .int .i64 x.2] 74) := Cl.new w _ _
  have HU := Lib.hid (h.below BA.out)
  have HV : Hid ((x.2 == u) = toU u x) := rfl
  clear h
  go_enter Tryz.func35, Tryz.ntmps35
  go_upto_region 1 with (fail)
  generalize w.alloc (.cells #[.string ⟨x.1.toArray⟩, .int .i64 x.2] 74) = w1 at *
  generalize w.heap.size = px at CX ⊢
  have x1 := CX.out.cell 1
  have u0 := HU.out.cell 0
  simp only [List.getElem?_cons_zero, List.getElem?_cons_succ] at x1 u0
  go_wp2
  go_ret
  exact ⟨by rw [← HV.out]; rfl, BA.out⟩
theorem Sl.get2 {w w' : World} {B : Nat} {v : Value} {n : Nat} {l : List Item} (h : Sl w B 2 v n (itC l)) (k : Nat) (x : Item) (hx : l[k]? = some x) (hk : k < n) :
    ∃ g off cap, v = .slice (some ⟨g, off, none⟩) n cap ∧ B ≤ g ∧ g < w.heap.size ∧ w.cell? ⟨g, off + k * 2, none⟩ = some (.string ⟨x.1.toArray⟩) ∧ w.cell? ⟨g, off + k * 2 + 1, none⟩ = some (.int .i64 x.2) := by
  rcases h.2 with ⟨_, h0⟩ | ⟨g, off, cap, rfl, hB, hg, hn, hm, hr, ht⟩
  · omega
  · exact ⟨g, off, cap, rfl, hB, hg, hr _ _ (itC_at hx).1, by rw [Nat.add_assoc]; exact hr _ _ (itC_at hx).2⟩
set_option maxHeartbeats 800000 in
theorem idxto_any (u : Int) (l : List Item) (hl : l.length ≤ 256) (pu B : Nat) (rv : Value) (w : World) (h : Sl w B 2 rv l.length (itC l)) (hu : Cl w pu [.int .i64 u] 3) :
    Calls Tryz.prog 63 #[rv, clF pu] w fun e w' => e = .returned (.int .i64 (idxI (toU u) 0 l)) ∧ Below w.heap.size w w' := by
  have HZ := Lib.hid h
  have HU := Lib.hid hu
  obtain ⟨a, cap, rfl, _⟩ := h.form
  clear h hu
  unfold clF
  go_enter Tryz.func63, Tryz.ntmps63
  go_wp2
  go_loopw [8] (fun i wr => ∃ k : Nat, i = .int .i64 k ∧ k ≤ l.length ∧ idxI (toU u) 0 l = idxI (toU u) k (l.drop k) ∧ Below w.heap.size w wr) (fun i _ => l.length - (intOf i).toNat)
  case atStart => exact ⟨0, rfl, by omega, rfl, Below.refl _ _⟩
  case round =>
    obtain ⟨k, rfl, hk, hr, hb⟩ := hrel
    have HR2 := Lib.hid hr
    have HB := Lib.hid hb
    clear hr hb
    by_cases hlt : k < l.length
    · obtain ⟨x, hx⟩ : ∃ x, l[k]? = some x := ⟨l[k], by simp [hlt]⟩
      have HN := Lib.hid (isto_any u x pu wr (HU.out.below HB.out))
      have HS := Lib.hid (idxI_step (toU u) l k x hx)
      obtain ⟨g, off, cap', he, hgB, hg, p0, p1⟩ := Sl.get2 (w' := wr) (HZ.out.kept (Keeps.below (fun _ => False) HB.out) (fun _ _ => id)) k x hx hlt
      injection he with he1 he2 he3
      subst he1 he3
      have hki : (k : Int) < (l.length : Int) := by omega
      clear he2 hx
      cases hb : toU u x with
      | false =>
        have HX : Hid (idxI (toU u) 0 l = idxI (toU u) (k + 1) (l.drop (k + 1))) := by rw [Hid, HR2.out, HS.out, hb]; rfl
        rw [hb] at HN
        clear HS hb
        go_wp2_with fail
        refine HN.out.mono ?_
        rintro e w5 ⟨rfl, hb5⟩
        have B5 := Lib.hid (bt HB.out hb5)
        clear hb5
        go_wp2
        go_roundw
        case rel => exact ⟨k + 1, by go_num, by omega, HX.out, B5.out⟩
        case measure => simp [intOf]; omega
      | true =>
        have HX : Hid (idxI (toU u) 0 l = k) := by rw [Hid, HR2.out, HS.out, hb]; rfl
        rw [hb] at HN
        clear HS hb
        go_wp2_with fail
        refine HN.out.mono ?_
        rintro e w5 ⟨rfl, hb5⟩
        have B5 := Lib.hid (bt HB.out hb5)
        clear hb5
        go_wp2
        go_ret
        exact ⟨by rw [HX.out]; rfl, B5.out⟩
    · obtain rfl : k = l.length := by omega
      have HX : Hid (idxI (toU u) 0 l = -1) := by rw [Hid, HR2.out, List.drop_length]; rfl
      go_wp2
      go_ret
      exact ⟨by rw [HX.out]; rfl, HB.out⟩

theorem itC_put : ∀ (l : List Item) (k : Nat) (x : Item), k < l.length → ((itC l).set (k * 2) (.string ⟨x.1.toArray⟩)).set (k * 2 + 1) (.int .i64 x.2) = itC (l.set k x) := by
  intro l
  induction l with
  | nil => intro k x h; simp at h
  | cons y l ih =>
    intro k x h
    cases k with
    | zero => rfl
    | succ k =>
      have e : itC (y :: l) = [.string ⟨y.1.toArray⟩, .int .i64 y.2] ++ itC l := rfl
      have hk := ih k x (by simpa using h)
      rw [e, show (k + 1) * 2 = 2 + k * 2 by omega]
      simp only [List.cons_append, List.nil_append, Nat.add_assoc, Nat.add_comm 2, List.set_cons_succ]
      rw [hk]
      rfl
/-- An item stored at a place of a row. -/
theorem Sl.set2 {w : World} {B : Nat} {v : Value} {l : List Item} {n : Nat} (h : Sl w B 2 v n (itC l)) (hn : l.length = n) (k : Nat) (hk : k < n) (x : Item) :
    ∃ g off cap u0 u1, v = .slice (some ⟨g, off, none⟩) n cap ∧ B ≤ g ∧ w.cell? ⟨g, off + k * 2, none⟩ = some u0 ∧ w.cell? ⟨g, off + k * 2 + 1, none⟩ = some u1 ∧
      w.frozen? ⟨g, off + k * 2, none⟩ = false ∧ w.frozen? ⟨g, off + k * 2 + 1, none⟩ = false ∧
      Sl ((w.setCell ⟨g, off + k * 2, none⟩ (.string ⟨x.1.toArray⟩)).setCell ⟨g, off + k * 2 + 1, none⟩ (.int .i64 x.2)) B 2 v n (itC (l.set k x)) := by
  subst hn
  obtain ⟨g, off, cap, u0, hv, hB, c0, f0, h0⟩ := h.setc (k * 2) (by omega) (.string ⟨x.1.toArray⟩)
  obtain ⟨g1, off1, cap1, u1, hv1, hB1, c1, f1, _⟩ := h.setc (k * 2 + 1) (by omega) (.int .i64 x.2)
  obtain ⟨g4, off4, cap4, u4, hv4, hB4, c4, f4, h1⟩ := h0.setc (k * 2 + 1) (by omega) (.int .i64 x.2)
  rw [hv] at hv1 hv4
  cases hv1; cases hv4
  rw [itC_put l k x hk] at h1
  exact ⟨g, off, cap, u0, u1, hv, hB, c0, c1, f0, f1, h1⟩
/-- The slice cut to its first k items. -/
theorem Sl.cut2 {w : World} {B g off cap n : Nat} {l : List Item} (h : Sl w B 2 (.slice (some ⟨g, off, none⟩) n cap) n (itC l)) (hn : l.length = n) (k : Nat) (hk : k ≤ n) :
    Sl w B 2 (.slice (some ⟨g, off, none⟩) k cap) k (itC (l.take k)) := by
  subst hn
  obtain ⟨hlen, h2⟩ := h
  rcases h2 with ⟨h2, _⟩ | ⟨g', off', cap', he, hB, hg, hc, hm, hr, ht⟩
  · cases h2
  · cases he
    refine ⟨by rw [itC_len, List.length_take]; omega, .inr ⟨g, off, cap, rfl, hB, hg, by omega, hm, ?_, ht⟩⟩
    intro j u hu
    rw [itC_take, List.getElem?_take] at hu
    split at hu
    · exact hr j u hu
    · cases hu
def zeroIts (n : Nat) : List Value := (Builtin.zeroCells (Value.agg #[.string ⟨#[]⟩, .int .i64 0]).cells n).toList
theorem zeroIts_len (n : Nat) : (zeroIts n).length = n * 2 := by simp [zeroIts, Builtin.zeroCells, Value.cells]
theorem zeroIts_one (n : Nat) : ∀ u ∈ zeroIts n, u.oneCell' = true := by
  intro u hu
  simp only [zeroIts, Builtin.zeroCells, Array.toList_map, List.mem_map, Value.cells] at hu
  obtain ⟨i, _, rfl⟩ := hu
  have : i % 2 = 0 ∨ i % 2 = 1 := by omega
  show (Value.oneCell' #[Value.string ⟨#[]⟩, .int .i64 0][i % 2]!) = true
  rcases this with e | e <;> rw [e] <;> rfl
theorem Sl.cleared2 {w : World} {B g off cap n : Nat} {l : List Item} (h : Sl w B 2 (.slice (some ⟨g, off, none⟩) n cap) n (itC l)) (hn : l.length = n) (k : Nat) (hk : k < n) :
    (∀ ty, (Builtin.clear_ #[63] ty #[.slice (some ⟨g, off + k * 2, none⟩) (n - k) (cap - k)]).run Tryz.prog w = .ok (.tuple #[]) (w.setCells g (off + k * 2) (zeroIts (n - k)))) ∧
    Sl (w.setCells g (off + k * 2) (zeroIts (n - k))) B 2 (.slice (some ⟨g, off, none⟩) k cap) k (itC (l.take k)) ∧ Keeps (fun j => j = g) w (w.setCells g (off + k * 2) (zeroIts (n - k))) := by
  have hc := h.cut2 hn k (by omega)
  obtain ⟨hlen, h2⟩ := h
  rcases h2 with ⟨h2, _⟩ | ⟨g', off', cap', he, hB, hg, hcp, hm, hr, ht⟩
  · cases h2
  · cases he
    have K := Keeps.cells (S := fun j => j = g) w g (off + k * 2) (zeroIts (n - k)) rfl
    refine ⟨fun ty => run_clear_rows w 63 74 ty _ Tryz.underlying63 Tryz.zeroValue74 g _ _ _ (by omega) (zeroIts_one _) (fun j hj => ?_) (fun j hj => ?_), ⟨hc.1, .inr ⟨g, off, cap, rfl, hB, Nat.lt_of_lt_of_le hg K.size, by omega, hm, ?_, World.there_setCells ht _ _ _⟩⟩, K⟩
    · have hj2 : j < (n - k) * 2 := by rw [← zeroIts_len]; exact hj
      have := (ht (k * 2 + j) (by omega)).1
      rwa [← Nat.add_assoc] at this
    · have hj2 : j < (n - k) * 2 := by rw [← zeroIts_len]; exact hj
      have := (ht (k * 2 + j) (by omega)).2
      rwa [← Nat.add_assoc] at this
    · obtain ⟨hl3, h3⟩ := hc
      rcases h3 with ⟨h3, _⟩ | ⟨g', off', cap', he, hB', hg', hcp', hm', hr', ht'⟩
      · cases h3
      · cases he
        exact World.rangeAt_setCells_apart hr' _ _ _ (.inr (.inl (by rw [hl3]; exact Nat.le_refl _)))
/-- Where a step of the way stands: i kept among the first j. -/
structure Dl (p : Item → Bool) (l L : List Item) (i j : Nat) : Prop where
  len : L.length = l.length
  lt : i < j
  le : j ≤ l.length
  low : L.take i = (l.take j).filter (fun x => !p x)
  high : L.drop j = l.drop j
theorem filter_take (p : Item → Bool) (l : List Item) (j : Nat) (x : Item) (h : l[j]? = some x) : (l.take (j + 1)).filter p = (l.take j).filter p ++ [x].filter p := by
  obtain ⟨hj, rfl⟩ := List.getElem?_eq_some_iff.1 h
  rw [List.take_succ_eq_append_getElem hj, List.filter_append]
theorem filter_all (p : Item → Bool) (l : List Item) (h : ∀ x ∈ l, p x = false) : l.filter (fun x => !p x) = l := List.filter_eq_self.2 (fun x hx => by rw [h x hx]; rfl)
theorem Dl.start {p : Item → Bool} {l : List Item} {k : Nat} {x : Item} (h1 : ∀ x ∈ l.take k, p x = false) (h2 : l[k]? = some x) (h3 : p x = true) : Dl p l l k (k + 1) :=
  ⟨rfl, by omega, (List.getElem?_eq_some_iff.1 h2).1, by rw [filter_take _ l k x h2, filter_all p _ h1]; simp [h3], rfl⟩
theorem Dl.get {p : Item → Bool} {l L : List Item} {i j : Nat} (h : Dl p l L i j) : L[j]? = l[j]? := by
  have := congrArg (fun m => m[0]?) h.high
  simpa [List.getElem?_drop] using this
theorem Dl.skip {p : Item → Bool} {l L : List Item} {i j : Nat} {x : Item} (h : Dl p l L i j) (hx : l[j]? = some x) (hp : p x = true) : Dl p l L i (j + 1) :=
  ⟨h.len, by have := h.lt; omega, (List.getElem?_eq_some_iff.1 hx).1, by rw [h.low, filter_take _ l j x hx]; simp [hp], by rw [← List.drop_drop, ← List.drop_drop, h.high]⟩
theorem Dl.keep {p : Item → Bool} {l L : List Item} {i j : Nat} {x : Item} (h : Dl p l L i j) (hx : l[j]? = some x) (hp : p x = false) : Dl p l (L.set i x) (i + 1) (j + 1) := by
  have hj := (List.getElem?_eq_some_iff.1 hx).1
  have hlt := h.lt
  have hlen := h.len
  refine ⟨by rw [List.length_set, h.len], by omega, hj, ?_, ?_⟩
  · have hi : i < (L.set i x).length := by rw [List.length_set]; omega
    rw [List.take_succ_eq_append_getElem hi, List.getElem_set_self, List.take_set_of_le (Nat.le_refl _), h.low, filter_take _ l j x hx]
    simp [hp]
  · rw [List.drop_set_of_lt (by omega), ← List.drop_drop, ← List.drop_drop, h.high]
def DlPost (w : World) (B : Nat) (v : Value) (l : List Item) (e : Ending) (w' : World) : Prop :=
  ∃ v', e = .returned v' ∧ v'.ownBlock = v.ownBlock ∧ Sl w' B 2 v' l.length (itC l) ∧ Keeps (fun k => v.ownBlock = some k) w w'
set_option maxRecDepth 20000 in
set_option maxHeartbeats 3200000 in
theorem delto_any (u : Int) (l : List Item) (hl : l.length ≤ 256) (pu B : Nat) (v : Value) (w : World) (h : Sl w B 2 v l.length (itC l)) (hu : Cl w pu [.int .i64 u] 3)
    (hap : ∀ k, v.ownBlock = some k → k ≠ pu) :
    Calls Tryz.prog 34 #[v, clF pu] w (DlPost w B v (l.filter (fun x => !toU u x))) := by
  have HI := Lib.hid (idxto_any u l hl pu B v w h hu)
  have HS := Lib.hid h
  have HU := Lib.hid hu
  have HA := Lib.hid hap
  obtain ⟨av, cap, rfl, hcap, hav⟩ := h.form
  clear h hu hap
  unfold clF at *
  rcases idxI_spec (toU u) l 0 with ⟨h1, h2⟩ | ⟨k0, h1, h2, h3, x0, h4, h5⟩
  · have HF : Hid (l.filter (fun x => !toU u x) = l) := filter_all _ _ h2
    rw [h1] at HI
    clear h1 h2
    go_enter Tryz.func34, Tryz.ntmps34
    go_wp2_with fail
    refine HI.out.mono ?_
    rintro e w1 ⟨rfl, hb⟩
    have HB := Lib.hid hb
    clear hb
    go_wp2
    go_ret
    exact ⟨_, rfl, rfl, by rw [HF.out]; exact HS.out.kept (Keeps.below (fun _ => False) HB.out) (fun _ _ => id), Keeps.below _ HB.out⟩
  · rw [h2] at HI
    simp only [Nat.zero_add] at HI
    have D0 := Lib.hid (Dl.start h3 h4 h5)
    clear h2 h3 h4 h5
    rcases hav with rfl | ⟨g, off, rfl⟩
    · exfalso
      rcases HS.out.2 with ⟨he, h0⟩ | ⟨g, off, cap', he, _⟩
      · omega
      · cases he
    have HA2 : Hid (g ≠ pu) := HA.out g rfl
    have hne1 : ((k0 : Int) == -1) = false := beq_eq_false_iff_ne.2 (by omega)
    clear HA
    go_enter Tryz.func34, Tryz.ntmps34
    go_wp2_with fail
    refine HI.out.mono ?_
    rintro e w1 ⟨rfl, hb⟩
    have S1 : Hid (Sl w1 B 2 (.slice (some ⟨g, off, none⟩) l.length cap) l.length (itC l)) := HS.out.kept (Keeps.below (fun _ => False) hb) (fun _ _ => id)
    have K1 : Hid (Keeps (fun j => j = g) w w1) := Keeps.below _ hb
    clear hb HI HS
    go_wp2
    go_loopw [5, 6] (fun ti tj wr => ∃ (i j : Nat) (L : List Item), ti = .int .i64 i ∧ tj = .int .i64 j ∧ j ≤ l.length ∧ i < j ∧ Dl (toU u) l L i j ∧ Sl wr B 2 (.slice (some ⟨g, off, none⟩) l.length cap) l.length (itC L) ∧ Keeps (fun j => j = g) w wr) (fun _ tj _ => l.length - (intOf tj).toNat)
    case atStart => exact ⟨k0, k0 + 1, l, rfl, by go_num, by omega, by omega, D0.out, S1.out, K1.out⟩
    case round =>
      obtain ⟨i, j, L, rfl, rfl, hj, hij, hD, hS, hK⟩ := hrel
      have DL := Lib.hid hD
      have SL := Lib.hid hS
      have KL := Lib.hid hK
      have hlen := hD.len
      clear hD hS hK S1 K1 D0
      by_cases hlt : j < l.length
      · obtain ⟨x, hx⟩ : ∃ x, l[j]? = some x := ⟨l[j], by simp [hlt]⟩
        have hxL : L[j]? = some x := DL.out.get.trans hx
        obtain ⟨g', off', cap', he, hgB, hgw, p0, p1⟩ := Sl.get2 (w' := wr) SL.out j x hxL hlt
        cases he
        have HU1 : Hid (Cl wr pu [.int .i64 u] 3) := Cl.keep HU.out KL.out (fun e => HA2.out e.symm)
        have B1 : Hid (Below wr.heap.size wr (wr.alloc (.cells #[.string ⟨x.1.toArray⟩, .int .i64 x.2] 74))) := (Below.refl _ _).alloc (Nat.le_refl _) _
        have C1 : Hid (Cl (wr.alloc (.cells #[.string ⟨x.1.toArray⟩, .int .i64 x.2] 74)) wr.heap.size [.string ⟨x.1.toArray⟩, .int .i64 x.2] 74) := Cl.new wr _ _
        have SL1 : Hid (Sl (wr.alloc (.cells #[.string ⟨x.1.toArray⟩, .int .i64 x.2] 74)) B 2 (.slice (some ⟨g, off, none⟩) l.length cap) l.length (itC L)) := SL.out.kept (Keeps.below (fun _ => False) B1.out) (fun _ _ => id)
        have KL1 : Hid (Keeps (fun j => j = g) w (wr.alloc (.cells #[.string ⟨x.1.toArray⟩, .int .i64 x.2] 74))) := KL.out.trans (Keeps.below _ B1.out)
        have HU2 := Lib.hid (HU1.out.below B1.out)
        have HN := Lib.hid (isto_any u x pu _ HU2.out)
        have HX := Lib.hid hx
        have hq : wr.heap.size ≠ g := by omega
        have hji : (j : Int) < (l.length : Int) := by omega
        clear hx hxL
        go_upto_region 8 with (fail)
        generalize wr.alloc (.cells #[.string ⟨x.1.toArray⟩, .int .i64 x.2] 74) = w2 at *
        clear p0 p1 HU1 B1 hgw
        generalize wr.heap.size = q at *
        have d0 := C1.out.cell 0
        have d1 := C1.out.cell 1
        simp only [List.getElem?_cons_zero, List.getElem?_cons_succ] at d0 d1
        cases hb : toU u x with
        | true =>
          rw [hb] at HN
          have DL2 := Lib.hid (DL.out.skip HX.out hb)
          clear hb
          go_wp2_with fail
          refine HN.out.mono ?_
          rintro e w3 ⟨rfl, hb3⟩
          have SL3 : Hid (Sl w3 B 2 (.slice (some ⟨g, off, none⟩) l.length cap) l.length (itC L)) := SL1.out.kept (Keeps.below (fun _ => False) hb3) (fun _ _ => id)
          have KL3 : Hid (Keeps (fun j => j = g) w w3) := KL1.out.trans (Keeps.below _ hb3)
          clear hb3
          go_wp2
          go_roundw
          case rel => exact ⟨i, j + 1, L, rfl, by go_num, by omega, by omega, DL2.out, SL3.out, KL3.out⟩
          case measure => simp [intOf]; omega
        | false =>
          rw [hb] at HN
          have DL2 := Lib.hid (DL.out.keep HX.out hb)
          clear hb
          go_wp2_with fail
          refine HN.out.mono ?_
          rintro e w3 ⟨rfl, hb3⟩
          have C3 := Lib.hid (C1.out.below hb3)
          have SL3 : Hid (Sl w3 B 2 (.slice (some ⟨g, off, none⟩) l.length cap) l.length (itC L)) := SL1.out.kept (Keeps.below (fun _ => False) hb3) (fun _ _ => id)
          have KL3 : Hid (Keeps (fun j => j = g) w w3) := KL1.out.trans (Keeps.below _ hb3)
          clear hb3 d0 d1
          have d0 := C3.out.cell 0
          have d1 := C3.out.cell 1
          simp only [List.getElem?_cons_zero, List.getElem?_cons_succ] at d0 d1
          obtain ⟨g1, off1, cap1, u0, u1, hv1, hB1, e0, e1, f0, f1, hset⟩ := SL3.out.set2 hlen i (by omega) x
          cases hv1
          have SL4 := Lib.hid hset
          have KL4 : Hid (Keeps (fun j => j = g) w ((w3.setCell ⟨g, off + i * 2, none⟩ (.string ⟨x.1.toArray⟩)).setCell ⟨g, off + i * 2 + 1, none⟩ (.int .i64 x.2))) := (KL3.out.trans (Keeps.setCell _ _ _ _ rfl)).trans (Keeps.setCell _ _ _ _ rfl)
          have hii : (i : Int) < (l.length : Int) := by omega
          clear hset
          go_wp2
          go_roundw
          case rel => exact ⟨i + 1, j + 1, L.set i x, by go_num, by go_num, by omega, by omega, DL2.out, SL4.out, KL4.out⟩
          case measure => simp [intOf]; omega
      · obtain rfl : j = l.length := by omega
        obtain ⟨i0, hi, hz0, hz1, hz2⟩ := info_parts infoItem
        have he : Tryz.prog.elem 63 = 74 := by simp [Program.elem, Tryz.underlying63]
        have hs1 : ∀ w, (Instr.slice 63 (.slice (some ⟨g, off, none⟩) l.length cap) (some (.int .i64 i)) none none).run Tryz.prog w = .ok (.slice (some ⟨g, off + i * 2, none⟩) (l.length - i) (cap - i)) w := by
          intro w
          rw [run_slice_l (P := Tryz.prog) w 63 _ _ cap (by rw [he]; exact Tryz.underlying63) .i64 i (by omega) (by omega), he]
          have hcc : ¬ (cap = Int.toNat i) := by omega
          have hcc2 : ¬ (cap = i) := by omega
          simp [sizeOf, typeInfo, hi, hz1, sliced, Addr.add, hcc, hcc2]
        have hs2 : ∀ w, (Instr.slice 63 (.slice (some ⟨g, off, none⟩) l.length cap) none (some (.int .i64 i)) none).run Tryz.prog w = .ok (.slice (some ⟨g, off, none⟩) i cap) w := by
          intro w
          rw [run_slice_h (P := Tryz.prog) w 63 _ _ cap (by rw [he]; exact Tryz.underlying63) .i64 i (by omega) (by omega), he]
          have hcc : ¬ (cap = 0) := by omega
          simp [sizeOf, typeInfo, hi, hz1, sliced, Addr.add, hcc]
        obtain ⟨hcl, hS9, hK9⟩ := SL.out.cleared2 hlen i hij
        have HCL := Lib.hid hcl
        have HL : Hid (L.take i = l.filter (fun x => !toU u x)) := by rw [Hid, DL.out.low, List.take_length]
        have HLn : Hid (i = (l.filter (fun x => !toU u x)).length) := by rw [Hid, ← HL.out, List.length_take]; omega
        rw [HL.out] at hS9
        have S9 := Lib.hid hS9
        have K9 := Lib.hid hK9
        clear hcl hS9 hK9 he hi hz0 hz1 hz2
        go_wp2_with (first
          | (refine wpList_clear rfl _ _ rfl _ rfl _ HCL.out ?_))
        go_ret
        refine ⟨_, rfl, rfl, by rw [← HLn.out]; exact S9.out, (KL.out.trans K9.out).mono (fun k _ e => by rw [e]; rfl)⟩
def ClearPost (B pb : Nat) (lv : Value) (n : Nat) (l : List Item) (w : World) (e : Ending) (w' : World) : Prop :=
  e = .returned (.int .i64 ((n : Int) - l.length)) ∧ ∃ lv', BagW w' B pb lv' l ∧ BagK pb lv lv' w w'
set_option maxRecDepth 20000 in
set_option maxHeartbeats 3200000 in
theorem bagClear_any (B pb : Nat) (lv : Value) (l : List Item) (u : Int) (w : World) (h : BagW w B pb lv l) (hB : B ≤ w.heap.size) :
    Calls Tryz.prog 17 #[.pointer (some ⟨pb, 0, none⟩), .int .i64 u] w (ClearPost B pb lv l.length (l.filter (fun x => !toU u x)) w) := by
  have H0 := Lib.hid h
  have hm := h.m
  clear h
  have BA : Hid (Below w.heap.size w (w.alloc (.cells #[.int .i64 u] 3))) := (Below.refl _ _).alloc (Nat.le_refl _) _
  have CU : Hid (Cl (w.alloc (.cells #[.int .i64 u] 3)) w.heap.size [.int .i64 u] 3) := Cl.new w _ _
  have H1 := Lib.hid (H0.out.below BA.out)
  have HLE : Hid ((l.filter (fun x => !toU u x)).length ≤ l.length) := List.length_filter_le _ _
  go_enter Tryz.func17, Tryz.ntmps17
  go_upto_region 1 with (fail)
  have hlt := H0.out.c.lt
  have hol : Hid (∀ j, lv.ownBlock = some j → j < w.heap.size) := fun j hj => (H0.out.s.lt j hj).2
  have hpu : Hid (∀ j, lv.ownBlock = some j → j ≠ w.heap.size) := fun j hj e => by have := hol.out j hj; omega
  generalize w.alloc (.cells #[.int .i64 u] 3) = w1 at *
  have HL1 := Lib.hid (bagLen_any B pb lv l w1 H1.out)
  have HPU : Hid (pb ≠ w.heap.size) := by rw [Hid]; omega
  have b1 := BA.out.size
  have c1 := H1.out.c.cell 0
  simp only [List.getElem?_cons_zero] at c1
  have HD := Lib.hid (delto_any u l hm w.heap.size B lv w1 H1.out.s CU.out hpu.out)
  unfold clF at HD
  have f1 := H1.out.c.free 0
  generalize w.heap.size = pu at CU HD ⊢
  go_wp2_with fail
  refine HL1.out.mono ?_
  rintro e w2 ⟨rfl, rfl⟩
  by_cases hz : 0 < l.length
  · have hzi : (0 : Int) < (l.length : Int) := by omega
    go_wp2_with fail
    refine HD.out.mono ?_
    rintro e w3 ⟨v', rfl, hown, hs3, hk3⟩
    obtain ⟨a', cap', hv', _⟩ := hs3.form
    subst hv'
    have S3 := Lib.hid hs3
    have K3 := Lib.hid hk3
    have HOWN := Lib.hid hown
    have P3 := Lib.hid (Cl.keep H1.out.c K3.out (fun e => H1.out.n _ e rfl))
    clear hown hs3 hk3 HD c1
    have c3 := P3.out.cell 0
    have f3 := P3.out.free 0
    simp only [List.getElem?_cons_zero] at c3
    have K4 : Hid (Keeps (fun j => j = pb) w3 (w3.setCell ⟨pb, 0, none⟩ (.slice a' (l.filter (fun x => !toU u x)).length cap'))) := Keeps.setCell _ _ _ _ rfl
    have P4 : Hid (Cl (w3.setCell ⟨pb, 0, none⟩ (.slice a' (l.filter (fun x => !toU u x)).length cap')) pb [.slice a' (l.filter (fun x => !toU u x)).length cap'] 65) := Cl.set P3.out 0 _
    have hn4 : Hid (∀ j, (Value.slice a' (l.filter (fun x => !toU u x)).length cap').ownBlock = some j → j ≠ pb) := fun j hj => by rw [HOWN.out] at hj; exact H1.out.n j hj
    have H4 : Hid (BagW (w3.setCell ⟨pb, 0, none⟩ (.slice a' (l.filter (fun x => !toU u x)).length cap')) B pb (.slice a' (l.filter (fun x => !toU u x)).length cap') (l.filter (fun x => !toU u x))) :=
      ⟨P4.out, S3.out.kept K4.out (fun j hj e => hn4.out j hj e), hn4.out, H1.out.b, Nat.le_trans HLE.out hm⟩
    have B4 : Hid (BagK pb lv (.slice a' (l.filter (fun x => !toU u x)).length cap') w (w3.setCell ⟨pb, 0, none⟩ (.slice a' (l.filter (fun x => !toU u x)).length cap'))) := by
      refine (BagK.of BA.out).trans ⟨(K3.out.mono (fun j _ e => .inr e)).trans (K4.out.mono (fun j _ e => .inl e)), fun j hj => .inl (by rw [HOWN.out] at hj; exact hj)⟩
    go_upto_region 4 with (fail)
    generalize w3.setCell ⟨pb, 0, none⟩ (.slice a' (l.filter (fun x => !toU u x)).length cap') = w4 at *
    have HL4 := Lib.hid (bagLen_any B pb _ _ w4 H4.out)
    clear c3 f3
    have hle := HLE.out
    generalize hfl : l.filter (fun x => !toU u x) = fl at *
    have hw4 : IntKind.i64.wrap ((l.length : Int) - (fl.length : Int)) = (l.length : Int) - (fl.length : Int) := by rw [IntKind.wrap_i64]; omega
    go_wp2_with fail
    refine HL4.out.mono ?_
    rintro e w5 ⟨rfl, rfl⟩
    go_wp2
    go_ret
    subst hfl
    exact ⟨rfl, _, H4.out, B4.out⟩
  · have hnil : l = [] := List.length_eq_zero_iff.1 (by omega)
    subst hnil
    go_upto_region 4 with (fail)
    go_wp2_with fail
    refine HL1.out.mono ?_
    rintro e w5 ⟨rfl, rfl⟩
    go_wp2
    go_ret
    exact ⟨rfl, _, H1.out, BagK.of BA.out⟩

end Go.Proofs.YtbljbdjmgogknaaGreatDoor
