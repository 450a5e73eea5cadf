/-
  The document's row, walked: Shift, Set.
  Conditions: the row holds sizes, at most 4096 of them.
-/
import Derived.Test.YtadioaeeobmdgaaRgc
set_option linter.unusedVariables false
set_option linter.unusedSimpArgs false
namespace Go.Proofs.Ytadioaeeobmdgaa
open Go.RowKit Fl

def RShiftPost (B p : Nat) (v : Value) (q : Nat × Nat) (ns : List (Nat × Nat)) (w : World) (e : Ending) (w' : World) : Prop :=
  e = .returned (.tuple #[szV q, .bool true]) ∧ ∃ v', RRow w' B p v' ns ∧ Turned w w' p v v'
/-- The slice without its first element, of two cells. -/
theorem Sl.tail2 {w : World} {B : Nat} {v : Value} {n : Nat} {x y : Value} {xs : List Value} (h : Sl w B 2 v (n + 1) (x :: y :: xs)) :
    ∃ g off cap, v = .slice (some ⟨g, off, none⟩) (n + 1) cap ∧ 1 ≤ cap ∧ w.cell? ⟨g, off, none⟩ = some x ∧ w.cell? ⟨g, off + 1, none⟩ = some y ∧ Sl w B 2 (.slice (some ⟨g, if cap = 1 then off else off + 2, none⟩) n (cap - 1)) n xs := by
  obtain ⟨hlen, h2⟩ := h
  rcases h2 with ⟨_, h0⟩ | ⟨g, off, cap, rfl, hB, hg, hn, hm, hr, ht⟩
  · omega
  · have hx := hr 0 x rfl
    have hy := hr 1 y rfl
    refine ⟨g, off, cap, rfl, by omega, by simpa using hx, hy, by simp at hlen; omega, .inr ⟨g, _, cap - 1, rfl, hB, hg, by omega, by omega, ?_, ?_⟩⟩
    · by_cases hc : cap = 1
      · have hn0 : n = 0 := by omega
        have : xs = [] := List.eq_nil_of_length_eq_zero (by simp at hlen; omega)
        subst this
        intro j z hz
        simp at hz
      · rw [if_neg hc]
        intro j z hz
        have := hr (j + 2) z (by simpa using hz)
        rwa [show off + (j + 2) = off + 2 + j by omega] at this
    · by_cases hc : cap = 1
      · intro j hj; subst hc; omega
      · rw [if_neg hc]
        intro j hj
        have := ht (j + 2) (by omega)
        rwa [show off + (j + 2) = off + 2 + j by omega] at this

set_option maxRecDepth 20000 in
set_option maxHeartbeats 1600000 in
theorem rshift_none (B p : Nat) (v : Value) (w : World) (h : RRow w B p v []) :
    Calls Try.prog 21 #[.pointer (some ⟨p, 0, none⟩)] w fun e w' => e = .returned (.tuple #[szV (0, 0), .bool false]) ∧ Below w.heap.size w w' := by
  have B0 : Hid (Below w.heap.size w (w.alloc (.cells #[.int .i64 0, .int .i64 0] 52))) := (Below.refl _ _).alloc (Nat.le_refl _) _
  have C0 : Hid (Cl (w.alloc (.cells #[.int .i64 0, .int .i64 0] 52)) w.heap.size [.int .i64 0, .int .i64 0] 52) := Cl.new w [.int .i64 0, .int .i64 0] 52
  have hc := (h.below ((Below.refl w.heap.size w).alloc (Nat.le_refl _) (.cells #[.int .i64 0, .int .i64 0] 52))).cell
  have hc0 := h.cell
  obtain ⟨ao, cap, rfl, hle, hform⟩ := h.2.2.1.form
  clear h
  simp only [List.length_nil] at *
  go_enter Try.func21, Try.ntmps21
  go_wp2
  refine bodyPost_ret (results_cl_tmp rfl _ _ _ _ _ _ rfl C0.out Try.underlying52 rfl (by kernel_rfl)) rfl ?_
  exact ⟨rfl, B0.out⟩

set_option maxRecDepth 20000 in
set_option maxHeartbeats 1600000 in
theorem rshift_any (B p : Nat) (v : Value) (q : Nat × Nat) (ns : List (Nat × Nat)) (w : World) (h : RRow w B p v (q :: ns)) :
    Calls Try.prog 21 #[.pointer (some ⟨p, 0, none⟩)] w (RShiftPost B p v q ns w) := by
  obtain ⟨qa, qb⟩ := q
  have hlen := h.2.2.2.2.2
  simp only [List.length_cons] at hlen
  have hplt := h.lt
  have W0 : Hid (Below w.heap.size w (w.alloc (.cells #[.int .i64 0, .int .i64 0] 52))) := (Below.refl _ _).alloc (Nat.le_refl _) _
  have C0 : Hid (Cl (w.alloc (.cells #[.int .i64 0, .int .i64 0] 52)) w.heap.size [.int .i64 0, .int .i64 0] 52) := Cl.new w [.int .i64 0, .int .i64 0] 52
  have W1 : Hid (Below w.heap.size w ((w.alloc (.cells #[.int .i64 0, .int .i64 0] 52)).alloc (.cells #[.int .i64 qa, .int .i64 qb] 52))) := W0.out.alloc W0.out.size _
  have C1 : Hid (Cl ((w.alloc (.cells #[.int .i64 0, .int .i64 0] 52)).alloc (.cells #[.int .i64 qa, .int .i64 qb] 52)) w.heap.size [.int .i64 0, .int .i64 0] 52) := C0.out.alloc _
  have D1 : Hid (Cl ((w.alloc (.cells #[.int .i64 0, .int .i64 0] 52)).alloc (.cells #[.int .i64 qa, .int .i64 qb] 52)) (w.heap.size + 1) [.int .i64 qa, .int .i64 qb] 52) := by
    have := Cl.new (w.alloc (.cells #[.int .i64 0, .int .i64 0] 52)) [.int .i64 qa, .int .i64 qb] 52
    rwa [show (w.alloc (.cells #[.int .i64 0, .int .i64 0] 52)).heap.size = w.heap.size + 1 from by simp] at this
  have R0 := Lib.hid (h.below W0.out)
  have R1 := Lib.hid (h.below W1.out)
  have hc := R0.out.cell
  obtain ⟨g, off, cap, hv, hcap, hx, hy, hsl⟩ := Sl.tail2 R0.out.2.2.1
  have HR := Lib.hid h
  subst hv
  clear h
  obtain ⟨i0, hi, hz0, hz1, hz2⟩ := info_parts infoSz
  have hslice : ∀ w, (Instr.slice 43 (.slice (some ⟨g, off, none⟩) (ns.length + 1) cap) (some (.int .i64 1)) none none).run Try.prog w = .ok (.slice (some ⟨g, if cap = 1 then off else off + 2, none⟩) ns.length (cap - 1)) w := by
    intro w
    have he : Try.prog.elem 43 = 52 := by simp [Program.elem, Try.underlying43]
    rw [run_slice_l (P := Try.prog) w 43 _ _ cap (by rw [he]; exact Try.underlying43) .i64 1 (by omega) (by omega), he]
    have hcc : (cap = Int.toNat 1) = (cap = 1) := rfl
    by_cases hc1 : cap = 1
    · subst hc1
      simp [sizeOf, typeInfo, hi, hz1, sliced, Addr.add]
    · have h1c : ¬ cap = 1 := hc1
      simp [sizeOf, typeInfo, hi, hz1, sliced, Addr.add, h1c]
  have hgp : g ≠ p := fun e => HR.out.2.2.2.1 (by rw [Value.ownBlock, e])
  have hS1 : Hid (Sl ((w.alloc (.cells #[.int .i64 0, .int .i64 0] 52)).alloc (.cells #[.int .i64 qa, .int .i64 qb] 52)) B 2 (.slice (some ⟨g, if cap = 1 then off else off + 2, none⟩) ns.length (cap - 1)) ns.length (szCells ns)) := hsl.kept (S := fun _ => False) (Keeps.alloc _ _ _) (fun _ _ => id)
  clear hsl
  generalize (if cap = 1 then off else off + 2) = off' at hslice hS1
  go_enter Try.func21, Try.ntmps21
  go_upto_region 4 with (fail)
  have hc1 := R1.out.cell
  have hf1 := free_of_one R1.out.1
  have hsz1 : Hid (((w.alloc (.cells #[.int .i64 0, .int .i64 0] 52)).alloc (.cells #[.int .i64 qa, .int .i64 qb] 52)).heap.size = w.heap.size + 2) := by rw [Hid]; simp
  generalize (w.alloc (.cells #[.int .i64 0, .int .i64 0] 52)).alloc (.cells #[.int .i64 qa, .int .i64 qb] 52) = w2 at *
  have hne0 : p ≠ w.heap.size := by omega
  have hne1 : p ≠ w.heap.size + 1 := by omega
  have C2 : Hid (Cl (w2.setCell ⟨p, 0, none⟩ (.slice (some ⟨g, off', none⟩) ns.length (cap - 1))) w.heap.size [.int .i64 0, .int .i64 0] 52) := C1.out.other _ _ hne0
  have D2 : Hid (Cl (w2.setCell ⟨p, 0, none⟩ (.slice (some ⟨g, off', none⟩) ns.length (cap - 1))) (w.heap.size + 1) [.int .i64 qa, .int .i64 qb] 52) := D1.out.other _ _ hne1
  have HP : Hid (RRow (w2.setCell ⟨p, 0, none⟩ (.slice (some ⟨g, off', none⟩) ns.length (cap - 1))) B p (.slice (some ⟨g, off', none⟩) ns.length (cap - 1)) ns ∧ Turned w (w2.setCell ⟨p, 0, none⟩ (.slice (some ⟨g, off', none⟩) ns.length (cap - 1))) p (.slice (some ⟨g, off, none⟩) (ns.length + 1) cap) (.slice (some ⟨g, off', none⟩) ns.length (cap - 1))) := by
    refine ⟨⟨one_setCell R1.out.1, HR.out.2.1, hS1.out.kept (S := fun k => k = p) (Keeps.setCell _ _ _ _ rfl) (fun k hk e => hgp (by simp [Value.ownBlock] at hk; omega)), by simp [Value.ownBlock]; exact hgp, fun x hx => HR.out.2.2.2.2.1 x (by simp [hx]), by omega⟩, (Keeps.below _ W1.out).trans (Keeps.setCell _ _ _ _ (.inl rfl)), .inl rfl⟩
  clear hx hy hc
  go_upto_region 5 with (fail)
  generalize w2.setCell ⟨p, 0, none⟩ (.slice (some ⟨g, off', none⟩) ns.length (cap - 1)) = w3 at *
  have c0 : w3.cell? ⟨w.heap.size, 0, none⟩ = some (.int .i64 0) := C2.out.cell 0
  have c1 : w3.cell? ⟨w.heap.size, 1, none⟩ = some (.int .i64 0) := C2.out.cell 1
  have cf0 := C2.out.free 0
  have cf1 := C2.out.free 1
  have d0 : w3.cell? ⟨w.heap.size + 1, 0, none⟩ = some (.int .i64 qa) := D2.out.cell 0
  have d1 : w3.cell? ⟨w.heap.size + 1, 1, none⟩ = some (.int .i64 qb) := D2.out.cell 1
  go_wp2
  refine bodyPost_ret (results_cl_tmp rfl _ _ _ _ _ _ rfl ((C2.out.set 0 (.int .i64 qa)).set 1 (.int .i64 qb)) Try.underlying52 rfl (by kernel_rfl)) rfl ?_
  refine ⟨rfl, _, HP.out.1.kept (S := fun k => k = w.heap.size) (keeps_two _ _ _ _ _ _ _ rfl) hne0 (fun k hk e => ?_), HP.out.2.1.fresh (keeps_two (fun k => k = w.heap.size) _ _ _ _ _ _ rfl) (fun k hk e => by omega), HP.out.2.2⟩
  simp [Value.ownBlock] at hk
  have := (HR.out.2.2.1.lt g rfl).2
  omega

set_option maxRecDepth 20000 in
set_option maxHeartbeats 1600000 in
theorem rset_no (B p : Nat) (v : Value) (ns : List (Nat × Nat)) (i : Int) (x y : Nat) (w : World) (h : RRow w B p v ns) (hno : i < 0 ∨ (ns.length : Int) ≤ i ∨ Fl.part x = none ∨ Fl.part y = none) :
    Calls Try.prog 23 #[.pointer (some ⟨p, 0, none⟩), .int .i64 i, .complex .f64 x y] w fun e w' => e = .returned (.int .i64 1) ∧ Below w.heap.size w w' := by
  have H := Lib.hid h
  have hlen := h.2.2.2.2.2
  obtain ⟨ao, cap, hv, hle, hform⟩ := h.2.2.1.form
  subst hv
  clear h
  have HN := Lib.hid (show ((Fl.part x).isSome && (Fl.part y).isSome) = false ∨ i < 0 ∨ (ns.length : Int) ≤ i from by
    rcases hno with h | h | h | h
    · exact .inr (.inl h)
    · exact .inr (.inr h)
    · left; rw [h]; rfl
    · left; rw [h]; simp)
  clear hno
  go_enter Try.func23, Try.ntmps23
  go_wp2_with fail
  refine (from_any x y _).mono ?_
  rintro e w1 ⟨⟨a', b', rfl, hab⟩, hb1⟩
  clear hab
  have B1 := Lib.hid hb1
  clear hb1
  have BS : Hid (Below w.heap.size w (w1.alloc (.cells #[.int .i64 a', .int .i64 b'] 52))) := below_alloc_sz B1.out _
  generalize ((Fl.part x).isSome && (Fl.part y).isSome) = r at *
  go_upto_region 2 with (fail)
  generalize w1.alloc (.cells #[.int .i64 a', .int .i64 b'] 52) = w2 at *
  have hc := (H.out.below BS.out).cell
  generalize w1.heap.size = q at *
  cases r with
  | false =>
    go_wp2
    go_ret
    exact ⟨rfl, BS.out⟩
  | true =>
    have h4 : i < 0 ∨ (ns.length : Int) ≤ i := by rcases HN.out with h | h; cases h; exact h
    generalize ns.length = n at *
    by_cases h0 : i < 0
    · go_wp2
      go_ret
      exact ⟨rfl, BS.out⟩
    · have h5 : (n : Int) ≤ i := by omega
      go_wp2
      go_ret
      exact ⟨rfl, BS.out⟩

set_option maxRecDepth 20000 in
set_option maxHeartbeats 1600000 in
theorem rset_any (B p : Nat) (v : Value) (ns : List (Nat × Nat)) (k : Nat) (x y a b : Nat) (w : World) (h : RRow w B p v ns) (hk : k < ns.length) (hx : Fl.part x = some a) (hy : Fl.part y = some b) :
    Calls Try.prog 23 #[.pointer (some ⟨p, 0, none⟩), .int .i64 k, .complex .f64 x y] w (RPushPost B p v (ns.set k (a, b)) w) := by
  have H := Lib.hid h
  have hlen := h.2.2.2.2.2
  have hplt := h.lt
  have HX := Lib.hid hx
  have HY := Lib.hid hy
  obtain ⟨i0, hi, hz0, hz1, hz2⟩ := info_parts infoSz
  clear h hx hy
  go_enter Try.func23, Try.ntmps23
  go_wp2_with fail
  refine (from_any x y _).mono ?_
  rintro e w1 ⟨⟨a', b', rfl, hab⟩, hb1⟩
  obtain ⟨rfl, rfl⟩ := hab a b HX.out HY.out
  rw [HX.out, HY.out]
  have B1 := Lib.hid hb1
  clear hb1 hab
  have BS : Hid (Below w.heap.size w (w1.alloc (.cells #[.int .i64 a', .int .i64 b'] 52))) := below_alloc_sz B1.out _
  have C1 : Hid (Cl (w1.alloc (.cells #[.int .i64 a', .int .i64 b'] 52)) w1.heap.size [.int .i64 a', .int .i64 b'] 52) := Cl.new w1 [.int .i64 a', .int .i64 b'] 52
  have hq : w.heap.size ≤ w1.heap.size := B1.out.size
  go_upto_region 2 with (fail)
  generalize w1.alloc (.cells #[.int .i64 a', .int .i64 b'] 52) = w2 at *
  generalize w1.heap.size = q at *
  have R2 := Lib.hid (H.out.below BS.out)
  have hc := R2.out.cell
  have d0 : w2.cell? ⟨q, 0, none⟩ = some (.int .i64 a') := C1.out.cell 0
  have d1 : w2.cell? ⟨q, 1, none⟩ = some (.int .i64 b') := C1.out.cell 1
  obtain ⟨g, off, cap, u0, hv, hBg, hcell0, hfree0, hsl0⟩ := R2.out.2.2.1.setc (k * 2) (by omega) (.int .i64 a')
  obtain ⟨g', off', cap', u1, hv', hBg', hcell1, hfree1, hsl1⟩ := hsl0.setc (k * 2 + 1) (by omega) (.int .i64 b')
  obtain ⟨g'', off'', cap'', u2, hv'', _, hcell2, hfree2, _⟩ := R2.out.2.2.1.setc (k * 2 + 1) (by omega) (.int .i64 b')
  rw [hv] at hv' hv''
  injection hv' with e1 e2 e3
  injection e1 with e1
  injection e1 with e1 e4
  injection hv'' with e5 e6 e7
  injection e5 with e5
  injection e5 with e5 e8
  subst e1 e4 e5 e8 hv
  clear e2 e3 e6 e7 hsl0
  rw [szCells_set ns k (a', b') hk, ← Nat.add_assoc] at hsl1
  rw [← Nat.add_assoc] at hcell1 hfree1 hcell2 hfree2
  have hgq : g ≠ q := fun e => by
    have := (H.out.2.2.1.lt g rfl).2
    omega
  have hgp : g ≠ p := fun e => H.out.2.2.2.1 (by rw [Value.ownBlock, e])
  have hpost : Hid (RPushPost B p (.slice (some ⟨g, off, none⟩) ns.length cap) (ns.set k (a', b')) w (.returned (.int .i64 0)) ((w2.setCell ⟨g, off + k * 2, none⟩ (.int .i64 a')).setCell ⟨g, off + k * 2 + 1, none⟩ (.int .i64 b')).drew) := by
    have hkeep : Keeps (fun j => j = g) w2 ((w2.setCell ⟨g, off + k * 2, none⟩ (.int .i64 a')).setCell ⟨g, off + k * 2 + 1, none⟩ (.int .i64 b')) := keeps_two _ _ _ _ _ _ _ rfl
    have hr1 : ((w2.setCell ⟨g, off + k * 2, none⟩ (.int .i64 a')).setCell ⟨g, off + k * 2 + 1, none⟩ (.int .i64 b')).heap[p]? = some (.cells #[.slice (some ⟨g, off, none⟩) ns.length cap] 45 (0, 0)) := (hkeep.block p R2.out.lt (fun e => hgp e.symm)).trans R2.out.1
    refine ⟨rfl, _, ⟨hr1, H.out.2.1, ?_, H.out.2.2.2.1, ?_, by rw [List.length_set]; exact hlen⟩, (((Keeps.below _ BS.out).trans (hkeep.mono (fun j _ e => .inr (by rw [e]; rfl)))).trans (Keeps.drew _ _)), .inl rfl⟩
    · rw [List.length_set]
      exact hsl1.kept (S := fun _ => False) (Keeps.drew _ _) (fun _ _ => id)
    · intro z hz
      rcases List.mem_or_eq_of_mem_set hz with hz | rfl
      · exact H.out.2.2.2.2.1 z hz
      · exact ⟨part_le HX.out, part_le HY.out⟩
  clear hsl1
  have hk0 : (0 : Int) ≤ (k : Int) := by omega
  have hk1 : (k : Int) < (ns.length : Int) := by omega
  generalize ns.length = n at *
  go_wp2
  go_region
  go_wp2
  go_ret
  exact hpost.out

end Go.Proofs.Ytadioaeeobmdgaa
