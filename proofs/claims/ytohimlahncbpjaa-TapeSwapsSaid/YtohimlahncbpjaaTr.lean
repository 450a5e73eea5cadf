/-
  Rows of texts that came in; what an append leaves, said plainly.
  Conditions: none.
-/
import Derived.Test.YtohimlahncbpjaaTq
import Derived.Test.YtohimlahncbpjaaOpn
import Derived.Deep.Strs
set_option linter.unusedVariables false
set_option linter.unusedSimpArgs false
set_option linter.unnecessarySimpa false
namespace Go.Proofs.Ytohimlahncbpjaa
open Go.ChangeShapes Go.WideShapes Go.ChangeAt Go.RowKit

structure Pt where
  n : Int
  s : List UInt8
  sync : Bool
def Parts (w : World) (v : Value) (l : List Pt) : Prop :=
  ∃ a cap, v = .slice a l.length cap ∧ ∀ i x, l[i]? = some x → ∃ g off, a = some ⟨g, off, none⟩ ∧ g < w.heap.size ∧ w.cell? ⟨g, off + i * 3, none⟩ = some (.int .i64 x.n) ∧ w.cell? ⟨g, off + i * 3 + 1, none⟩ = some (.string ⟨x.s.toArray⟩) ∧ w.cell? ⟨g, off + i * 3 + 2, none⟩ = some (.bool x.sync)
theorem Parts.get {w w' : World} {v : Value} {l : List Pt} (h : Parts w v l) (hb : Below w.heap.size w w') {k : Nat} {x : Pt} (hx : l[k]? = some x) :
    ∃ g off cap, v = .slice (some ⟨g, off, none⟩) l.length cap ∧ g < w.heap.size ∧ w'.cell? ⟨g, off + k * 3, none⟩ = some (.int .i64 x.n) ∧ w'.cell? ⟨g, off + k * 3 + 1, none⟩ = some (.string ⟨x.s.toArray⟩) ∧ w'.cell? ⟨g, off + k * 3 + 2, none⟩ = some (.bool x.sync) := by
  obtain ⟨a, cap, rfl, hc⟩ := h
  obtain ⟨g, off, rfl, hg, h0, h1, h2⟩ := hc k x hx
  exact ⟨g, off, cap, rfl, hg, (hb.cell hg).trans h0, (hb.cell hg).trans h1, (hb.cell hg).trans h2⟩
theorem pInt : Try.prog.cellsOf 3 = 1 := by kernel_rfl
theorem pStr : Try.prog.cellsOf 9 = 1 := by kernel_rfl
theorem pBool : Try.prog.cellsOf 4 = 1 := by kernel_rfl
theorem pPart : Try.prog.cellsOf 28 = 3 := by kernel_rfl
set_option maxRecDepth 100000 in
theorem open_part {W : World} {b0 : Nat} {H : Type} {enc : TypeId × Value → H} {spare : Nat → Bool} {held : Bool} {fuel : Nat} {cs : List Value} {y : DataW H × List MemPlace}
    (h : DataW.trod enc Try.prog W b0 spare held fuel 28 cs = some y) : ∃ x : Pt, x.s.length ≤ maxLen ∧ cs = [.int .i64 x.n, .string ⟨x.s.toArray⟩, .bool x.sync] := by
  obtain ⟨y0, y1, y2, m, _, hcl, h0, h1, h2⟩ := Go.Deep.trod_struct3 Try.underlying28 h
  rw [pPart] at hcl
  obtain ⟨n0, e0, _, w0⟩ := DataW.trod_int Try.underlying3 h0
  obtain ⟨s1, e1, _, w1⟩ := DataW.trod_string Try.underlying9 h1
  obtain ⟨b2, e2, _⟩ := DataW.trod_bool Try.underlying4 h2
  match cs, hcl with
  | [c0, c1, c2], _ =>
    simp [pInt, pStr, pBool] at e0 e1 e2
    subst e0 e1 e2
    exact ⟨⟨n0, s1.data.toList, b2⟩, w1, rfl⟩
set_option maxRecDepth 100000 in
theorem open_parts {W : World} {r : Reach} {base b0 : Nat} {H : Type} {enc : TypeId × Value → H} {spare : Nat → Bool} {held : Bool} {v : Value} {d : DataW H} {p : List MemPlace} (hv : Value.okWide Try.prog W r base 22 v)
    (h : DataW.Trod enc Try.prog W b0 spare held 22 v d p) : ∃ l, Parts W v l ∧ l.length ≤ maxLen ∧ ∀ x ∈ l, x.s.length ≤ maxLen := by
  obtain ⟨a, len, cap, rfl, hl, hm, h0, h1, hel⟩ := slice_open Try.underlying22 hv h
  rw [pPart] at hel
  obtain ⟨zs, hz, hzs⟩ := list_of (⟨0, [], false⟩ : Pt) (fun i (x : Pt) => (∃ g off, a = some ⟨g, off, none⟩ ∧ g < W.heap.size ∧ W.cell? ⟨g, off + i * 3, none⟩ = some (.int .i64 x.n) ∧ W.cell? ⟨g, off + i * 3 + 1, none⟩ = some (.string ⟨x.s.toArray⟩) ∧
    W.cell? ⟨g, off + i * 3 + 2, none⟩ = some (.bool x.sync)) ∧ x.s.length ≤ maxLen) (n := len) (fun i hi => by
      obtain ⟨b, off, cs, n, y, rfl, hlt, _, hc, ht⟩ := hel i hi
      obtain ⟨x, hx, rfl⟩ := open_part ht
      exact ⟨x, ⟨b, off, rfl, hlt, by simpa using hc 0 (by omega), by simpa using hc 1 (by omega), by simpa using hc 2 (by omega)⟩, hx⟩)
  subst hz
  have hat : ∀ i x, zs[i]? = some x → i < zs.length ∧ zs.getD i ⟨0, [], false⟩ = x := fun i x h => by
    obtain ⟨hi, rfl⟩ := List.getElem?_eq_some_iff.1 h
    exact ⟨hi, by simp [List.getD, hi]⟩
  refine ⟨zs, ⟨a, cap, rfl, fun i x hx => ?_⟩, Nat.le_trans hl hm, fun x hx => ?_⟩
  · obtain ⟨hi, rfl⟩ := hat i x hx
    exact (hzs i hi).1
  · obtain ⟨i, hi⟩ := List.getElem?_of_mem hx
    obtain ⟨hi2, rfl⟩ := hat i x hi
    exact (hzs i hi2).2

theorem actT_ok {t : Tp} (h : TapeOk t) (ha : t.acts < 1000000000) (hl : t.life < 1000000000) : TapeOk (actT t) := by
  obtain ⟨h1, h2, h3, h4, h5, h6, h7, h8, h9, h10, h11, h12⟩ := h
  unfold actT
  split
  · exact ⟨h1, h2, h3, h4, by show (0 : Int) ≤ t.acts + 1; omega, by show t.acts + 1 ≤ 1000000000; omega, h7, h8, h9, h10, h11, h12⟩
  · split
    · exact ⟨h1, h2, h3, h4, by show (0 : Int) ≤ t.acts + 1; omega, by show t.acts + 1 ≤ 1000000000; omega, by show (0 : Int) ≤ t.armed - 1; omega, by show t.armed - 1 ≤ 9223372036854775807; omega, h9, h10, h11, h12⟩
    · exact ⟨h1, h2, h3, h4, by show (0 : Int) ≤ t.acts + 1; omega, by show t.acts + 1 ≤ 1000000000; omega, by show (0 : Int) ≤ 0; omega, by show (0 : Int) ≤ 9223372036854775807; omega, by show (0 : Int) ≤ t.life + 1; omega, by show t.life + 1 ≤ 1000000000; omega, h11, h12⟩
theorem actT_more (t : Tp) : (actT t).acts = t.acts + 1 ∧ (t.armed = 0 → (actT t).armed = 0 ∧ (actT t).down = t.down ∧ (actT t).life = t.life) ∧ (1 < t.armed → (actT t).armed = t.armed - 1 ∧ (actT t).down = t.down ∧ (actT t).life = t.life) ∧ (t.armed = 1 → (actT t).down = true ∧ (actT t).life = t.life + 1 ∧ (actT t).armed = 0) := by
  unfold actT
  split
  · rename_i h
    exact ⟨rfl, fun _ => ⟨h, rfl, rfl⟩, fun h2 => by omega, fun h2 => by omega⟩
  · split
    · exact ⟨rfl, fun h2 => by omega, fun _ => ⟨rfl, rfl, rfl⟩, fun h2 => by omega⟩
    · exact ⟨rfl, fun h2 => by omega, fun h2 => by omega, fun _ => ⟨rfl, rfl, rfl⟩⟩
theorem appT_total (t : Tp) (n s : List UInt8) (b : Nat) : total (appT t n s b).files = total t.files + s.length := by
  unfold appT
  cases hg : getF t.files n with
  | some f =>
    have := total_modF (g := addD s) hg
    simp only [addD, List.length_append] at this ⊢
    omega
  | none => simp [total_append, total]
/-- What the file of a name is behind an append. -/
theorem appT_get (t : Tp) (n s : List UInt8) (b : Nat) (n' : List UInt8) : (getF (appT t n s b).files n').map (fun f => (f.data, f.safe)) = if n' = n then some (((getF t.files n).map (fun f => (f.data ++ s, f.safe))).getD (s, 0)) else (getF t.files n').map (fun f => (f.data, f.safe)) := by
  unfold appT
  cases hg : getF t.files n with
  | some f =>
    by_cases e : n' = n
    · subst e
      rw [if_pos rfl]
      show (getF (modF t.files n' (addD s)) n').map _ = _
      rw [getF_modF_same (addD_same s) hg]; rfl
    · rw [if_neg e]
      show (getF (modF t.files n (addD s)) n').map _ = _
      rw [getF_modF_other (addD_same s) e]
  | none =>
    show (getF (t.files ++ [⟨n, s, 0, b⟩]) n').map _ = _
    rw [getF_append]
    by_cases e : n' = n
    · subst e
      rw [if_pos rfl, hg]; simp [getF]
    · rw [if_neg e]
      simp [getF, Ne.symm e]
theorem appT_len (t : Tp) (n s : List UInt8) (b : Nat) : (appT t n s b).files.length = if (getF t.files n).isSome then t.files.length else t.files.length + 1 := by
  unfold appT
  cases hg : getF t.files n with
  | some f => simp [len_modF]
  | none => simp
theorem getF_some_of_mem {fs : List TF} {f : TF} (h : f ∈ fs) : ∃ g, getF fs f.name = some g := by
  cases hg : getF fs f.name with
  | some g => exact ⟨g, rfl⟩
  | none => exact absurd rfl (getF_none hg f h)
theorem names_appT (t : Tp) (n s : List UInt8) (b : Nat) : ∀ f ∈ (appT t n s b).files, f.name = n ∨ ∃ g ∈ t.files, g.name = f.name := by
  unfold appT
  intro f hf
  cases hg : getF t.files n with
  | some f0 =>
    rw [hg] at hf
    have h1 := congrArg keysL (fmap_modF t.files n (addD s) (addD_same s))
    rw [keys_fmap, keys_fmap] at h1
    have : f.name ∈ t.files.map (·.name) := by
      rw [← h1]
      exact List.mem_map.2 ⟨f, hf, rfl⟩
    obtain ⟨g, hgm, hge⟩ := List.mem_map.1 this
    exact .inr ⟨g, hgm, hge⟩
  | none =>
    rw [hg] at hf
    rcases List.mem_append.1 hf with hf | hf
    · exact .inr ⟨f, hf, rfl⟩
    · simp only [List.mem_singleton] at hf; subst hf; exact .inl rfl

end Go.Proofs.Ytohimlahncbpjaa
