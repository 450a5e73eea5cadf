/-
  Walks of the row's methods that write: Push, Set, Shift.
  Conditions: the row holds sizes, at most 4096 of them.
-/
import Derived.Test.YtccndbifnbmddaaGwc
set_option linter.unusedVariables false
set_option linter.unusedSimpArgs false
namespace Go.Proofs.Ytccndbifnbmddaa
open Go.RowKit Fl

theorem run_store_complex (P : Program) (w : World) (a : Addr) (m : Mode) (k : FloatKind) (x y : Nat) : (store a (.complex k x y) m).run P w = stored P w a (.complex k x y) m := run_store P w a _ m rfl
attribute [local go_sem] run_store_complex
/-- What a method that writes the row at p turns. -/
def Turned (w w' : World) (p : Nat) (v v' : Value) : Prop :=
  Keeps (fun k => k = p ∨ v.ownBlock = some k) w w' ∧ (v'.ownBlock = v.ownBlock ∨ ∀ k, v'.ownBlock = some k → w.heap.size ≤ k)
def PushPost (B p : Nat) (v : Value) (ns : List (Nat × Nat)) (w : World) (e : Ending) (w' : World) : Prop :=
  e = .returned (.int .i64 0) ∧ ∃ v', GRow w' B p v' ns ∧ Turned w w' p v v'
theorem add_zero_cx (t : TypeId) (x y a b : Nat) (hx : Fl.part x = some a) (hy : Fl.part y = some b) (w : World) :
    (binOp .add t (.complex .f64 x y) (.complex .f64 0 0)).run Try.prog w = .ok (.complex .f64 (fl a) (fl b)) w := by
  refine run_complex_sum w .add (.inl rfl) t .f64 _ _ _ _ _ _ ?_
  have e1 : floatBits .add .f64 x 0 = some (fl a) := part_add hx
  have e2 : floatBits .add .f64 y 0 = some (fl b) := part_add hy
  simp [cSumBits, e1, e2]

set_option maxRecDepth 20000 in
set_option maxHeartbeats 800000 in
theorem push_any (B p : Nat) (v : Value) (ns : List (Nat × Nat)) (x y a b : Nat) (w : World) (h : GRow w B p v ns) (hl : ns.length < 4096) (hx : Fl.part x = some a) (hy : Fl.part y = some b) :
    Calls Try.prog 37 #[.pointer (some ⟨p, 0, none⟩), .complex .f64 x y] w (PushPost B p v (ns ++ [(a, b)]) w) := by
  have H := Lib.hid h
  have hc := h.cell
  have hplt := h.lt
  have hBw : B ≤ w.heap.size := by have := h.2.1; omega
  obtain ⟨ao, cap, hv, hle, hform⟩ := h.2.2.1.form
  subst hv
  clear h
  have hadd := add_zero_cx 72 x y a b hx hy
  have HX := Lib.hid hx
  have HY := Lib.hid hy
  clear hx hy
  obtain ⟨i0, hi, hz0, hz1, hz2⟩ := info_parts infoCx
  have hsl : Hid (Sl (w.alloc (.cells #[.complex .f64 (fl a) (fl b)] 72)) B 1 (.slice ao ns.length cap) ns.length (ns.map cx)) := H.out.2.2.1.kept (S := fun _ => False) (Keeps.alloc _ _ _) (fun _ _ => id)
  have hsrc : Hid (SrcIs (w.alloc (.cells #[.complex .f64 (fl a) (fl b)] 72)) 1 (.slice (some ⟨w.heap.size, 0, none⟩) 1 1) 1 [.complex .f64 (fl a) (fl b)]) := .inr ⟨_, 1, rfl, rfl, cell_one_new _ _ _⟩
  go_enter Try.func37, Try.ntmps37
  go_wp2_with fail
  refine (isSize_any _ _ _).mono ?_
  rintro e w1 ⟨rfl, rfl⟩
  rw [HX.out, HY.out]
  go_wp2_with (at_builtin; refine wpList_append_sl rfl (.tmp 24) (.tmp 27) 87 rfl 72 i0 (.complex .f64 0 0) 1 16 Try.underlying87 hi hz0 hz1 hz2 rfl (by decide) B _ _ _ rfl hsl.out _ _ _ rfl hsrc.out ?_ ?_ ?_ ?_ ?_)
  · simp [Value.oneCell']
  · unfold maxLen; omega
  · omega
  · simp; omega
  intro v' w2 hown2 hg2 hnew
  have hk1 : Keeps (fun k => Value.ownBlock (.slice ao ns.length cap) = some k) w w2 := (Keeps.alloc _ _ _).trans (Keeps.grown hg2 (fun k hk => hk))
  have hpo : ¬ Value.ownBlock (.slice ao ns.length cap) = some p := H.out.2.2.2.1
  have hblk : w2.heap[p]? = some (.cells #[.slice ao ns.length cap] 89 (0, 0)) := (hk1.block p hplt hpo).trans H.out.1
  have hcell2 := cell_of_one hblk
  have hfree2 := free_of_one hblk
  have hpost : Hid (PushPost B p (.slice ao ns.length cap) (ns ++ [(a, b)]) w (.returned (.int .i64 0)) (w2.setCell ⟨p, 0, none⟩ v')) := by
    refine ⟨rfl, v', ⟨one_setCell hblk, H.out.2.1, ?_, ?_, ?_, ?_⟩, ?_, ?_⟩
    · have h3 : Sl w2 B 1 v' (ns ++ [(a, b)]).length ((ns ++ [(a, b)]).map cx) := by simpa using hown2
      refine h3.kept (S := fun k => k = p) (Keeps.setCell _ _ _ _ rfl) (fun k hk e => ?_)
      subst e
      rcases hnew with hn | hn
      · exact hpo (hn ▸ hk)
      · have := hn k hk; omega
    · intro hk
      rcases hnew with hn | hn
      · exact hpo (hn ▸ hk)
      · have := hn p hk; omega
    · intro q hq
      rcases List.mem_append.1 hq with hq | hq
      · exact H.out.2.2.2.2.1 q hq
      · simp at hq; subst hq; exact ⟨part_le HX.out, part_le HY.out⟩
    · simp; omega
    · exact (hk1.mono (fun k _ hk => .inr hk)).trans (Keeps.setCell _ _ _ _ (.inl rfl))
    · rcases hnew with hn | hn
      · exact .inl hn
      · exact .inr (fun k hk => by have := hn k hk; omega)
  obtain ⟨a2, c2, hv2, _, _⟩ := hown2.form
  subst hv2
  clear hown2 hg2 hnew hk1 hblk hsl hsrc
  go_wp2
  go_ret
  exact hpost.out

set_option maxRecDepth 20000 in
set_option maxHeartbeats 800000 in
theorem push_no (B p : Nat) (v : Value) (ns : List (Nat × Nat)) (x y : Nat) (w : World) (h : GRow w B p v ns) (hno : ns.length = 4096 ∨ Fl.part x = none ∨ Fl.part y = none) :
    Calls Try.prog 37 #[.pointer (some ⟨p, 0, none⟩), .complex .f64 x y] w fun e w' => e = .returned (.int .i64 1) ∧ w = w' := by
  have hc := h.cell
  have hl := h.2.2.2.2.2
  obtain ⟨ao, cap, hv, hle, hform⟩ := h.2.2.1.form
  subst hv
  clear h
  by_cases hs : ((Fl.part x).isSome && (Fl.part y).isSome) = true
  · have hll : 4096 ≤ ns.length := by
      rcases hno with h | h | h
      · omega
      · rw [h] at hs; simp at hs
      · rw [h] at hs; simp at hs
    have HS := Lib.hid hs
    clear hs hno
    go_enter Try.func37, Try.ntmps37
    go_wp2_with fail
    refine (isSize_any _ _ _).mono ?_
    rintro e w1 ⟨rfl, rfl⟩
    rw [HS.out]
    go_wp2
    go_ret
    exact ⟨rfl, rfl⟩
  · have HS : Hid (((Fl.part x).isSome && (Fl.part y).isSome) = false) := by simpa [Hid] using hs
    clear hs hno
    go_enter Try.func37, Try.ntmps37
    go_wp2_with fail
    refine (isSize_any _ _ _).mono ?_
    rintro e w1 ⟨rfl, rfl⟩
    rw [HS.out]
    go_wp2
    go_ret
    exact ⟨rfl, rfl⟩
theorem push_nil (c : Value) (w : World) : Calls Try.prog 37 #[.pointer none, c] w fun e w' => e = .returned (.int .i64 2) ∧ w = w' := by
  go_enter Try.func37, Try.ntmps37
  go_wp2
  go_ret
  exact ⟨rfl, rfl⟩

/- Set. -/
theorem Sl.set {w : World} {B : Nat} {v : Value} {n : Nat} {xs : List Value} (h : Sl w B 1 v n xs) (k : Nat) (hk : k < n) (u : Value) :
    ∃ g off cap u0, v = .slice (some ⟨g, off, none⟩) n cap ∧ w.cell? ⟨g, off + k, none⟩ = some u0 ∧ w.frozen? ⟨g, off + k, none⟩ = false ∧ Sl (w.setCell ⟨g, off + k, none⟩ u) B 1 v n (xs.set k u) := by
  obtain ⟨hlen, h2⟩ := h
  rcases h2 with ⟨_, h0⟩ | ⟨g, off, cap, rfl, hB, hg, hn, hm, hr, ht⟩
  · omega
  · have hth := ht k (by omega)
    obtain ⟨u0, hu0⟩ := Option.isSome_iff_exists.1 hth.1
    refine ⟨g, off, cap, u0, rfl, hu0, hth.2, by rw [List.length_set]; exact hlen, .inr ⟨g, off, cap, rfl, hB, by simpa [World.setCell] using hg, hn, hm, ?_, ?_⟩⟩
    · intro j z hz
      rw [List.getElem?_set] at hz
      by_cases e : k = j
      · subst e
        rw [if_pos rfl, if_pos (by omega)] at hz
        injection hz with hz
        subst hz
        obtain ⟨y, hy⟩ := Option.isSome_iff_exists.1 hth.1
        exact World.cell?_setCell_same _ _ _ hy
      · rw [if_neg e] at hz
        rw [World.cell?_setCell_other _ _ _ _ (fun he => e (by injection he with _ he2; omega))]
        exact hr j z hz
    · exact World.there_setCells (vs := [u]) ht g (off + k)
/- Shift. -/
def ShiftPost (B p : Nat) (v : Value) (q : Nat × Nat) (ns : List (Nat × Nat)) (w : World) (e : Ending) (w' : World) : Prop :=
  e = .returned (.tuple #[cx q, .bool true]) ∧ ∃ v', GRow w' B p v' ns ∧ Turned w w' p v v'
/-- The slice without its first element. -/
theorem Sl.tail {w : World} {B : Nat} {v : Value} {n : Nat} {x : Value} {xs : List Value} (h : Sl w B 1 v (n + 1) (x :: xs)) :
    ∃ g off cap, v = .slice (some ⟨g, off, none⟩) (n + 1) cap ∧ 1 ≤ cap ∧ w.cell? ⟨g, off, none⟩ = some x ∧ Sl w B 1 (.slice (some ⟨g, if cap = 1 then off else off + 1, none⟩) n (cap - 1)) n xs := by
  obtain ⟨hlen, h2⟩ := h
  rcases h2 with ⟨_, h0⟩ | ⟨g, off, cap, rfl, hB, hg, hn, hm, hr, ht⟩
  · omega
  · have hx := hr 0 x rfl
    refine ⟨g, off, cap, rfl, by omega, by simpa using hx, by simpa using hlen, .inr ⟨g, _, cap - 1, rfl, hB, hg, by omega, by omega, ?_, ?_⟩⟩
    · by_cases hc : cap = 1
      · have hn0 : n = 0 := by omega
        have : xs = [] := List.eq_nil_of_length_eq_zero (by simp at hlen; omega)
        subst this
        intro j z hz
        simp at hz
      · rw [if_neg hc]
        intro j z hz
        have := hr (j + 1) z (by simpa using hz)
        rwa [show off + (j + 1) = off + 1 + j by omega] at this
    · by_cases hc : cap = 1
      · intro j hj; omega
      · rw [if_neg hc]
        intro j hj
        have := ht (j + 1) (by omega)
        rwa [show off + (j + 1) = off + 1 + j by omega] at this
end Go.Proofs.Ytccndbifnbmddaa
