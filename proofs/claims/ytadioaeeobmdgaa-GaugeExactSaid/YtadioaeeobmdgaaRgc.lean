/-
  The document's row, walked: Push.
  Conditions: the row holds sizes, at most 4096 of them.
-/
import Derived.Test.YtadioaeeobmdgaaRgb
import Derived.Test.YtadioaeeobmdgaaAst
import Derived.Deep.Cut
import Derived.Deep.RegionLaw
set_option linter.unusedVariables false
set_option linter.unusedSimpArgs false
namespace Go.Proofs.Ytadioaeeobmdgaa
open Go.RowKit Fl

theorem infoSz : (Try.prog.info? 52).map (fun i => (i.zero, i.size, i.bytes)) = some (some (.agg #[.int .i64 0, .int .i64 0]), 2, 16) := by kernel_rfl
def RPushPost (B p : Nat) (v : Value) (ns : List (Nat × Nat)) (w : World) (e : Ending) (w' : World) : Prop :=
  e = .returned (.int .i64 0) ∧ ∃ v', RRow w' B p v' ns ∧ Turned w w' p v v'
theorem szCells_one (q : Nat × Nat) : szCells [q] = [.int .i64 q.1, .int .i64 q.2] := rfl
theorem below_alloc_sz {w w1 : World} (hb : Below w.heap.size w w1) (o : Obj) : Below w.heap.size w (w1.alloc o) := hb.alloc hb.size o
theorem RRow.below {w w' : World} {B p : Nat} {v : Value} {ns : List (Nat × Nat)} (h : RRow w B p v ns) (hb : Below w.heap.size w w') : RRow w' B p v ns :=
  h.kept (Keeps.below (fun _ => False) hb) id (fun _ _ => id)
/-- The row's slice grown by one and laid into the row: what holds then. -/
theorem rpush_post {w W w2 : World} {B p : Nat} {v v' : Value} {ns : List (Nat × Nat)} {a b : Nat} (h : RRow w B p v ns) (hb : Below w.heap.size w W) (hl : ns.length < 4096) (ha : a ≤ most) (hbm : b ≤ most)
    (hown : Sl w2 B 2 v' (ns.length + 1) (szCells ns ++ [.int .i64 a, .int .i64 b])) (hg : W.grownBy w2 v.ownBlock) (hnew : v'.ownBlock = v.ownBlock ∨ ∀ k, v'.ownBlock = some k → W.heap.size ≤ k) :
    RPushPost B p v (ns ++ [(a, b)]) w (.returned (.int .i64 0)) (w2.setCell ⟨p, 0, none⟩ v') ∧ w2.cell? ⟨p, 0, none⟩ = some v ∧ w2.frozen? ⟨p, 0, none⟩ = false := by
  have hplt := h.lt
  have hsz := hb.size
  have hk1 : Keeps (fun k => v.ownBlock = some k) w w2 := (Keeps.below _ hb).trans (Keeps.grown hg (fun k hk => hk))
  have hpo : ¬ v.ownBlock = some p := h.2.2.2.1
  have hblk : w2.heap[p]? = some (.cells #[v] 45 (0, 0)) := (hk1.block p hplt hpo).trans h.1
  have hnew' : v'.ownBlock = v.ownBlock ∨ ∀ k, v'.ownBlock = some k → w.heap.size ≤ k := hnew.imp id (fun hn k hk => Nat.le_trans hsz (hn k hk))
  refine ⟨⟨rfl, v', ⟨one_setCell hblk, h.2.1, ?_, ?_, ?_, ?_⟩, ?_, hnew'⟩, cell_of_one hblk, free_of_one hblk⟩
  · have h3 : Sl w2 B 2 v' (ns ++ [(a, b)]).length (szCells (ns ++ [(a, b)])) := by rw [szCells_append]; simpa [szCells_one] using hown
    refine h3.kept (S := fun k => k = p) (Keeps.setCell _ _ _ _ rfl) (fun k hk e => ?_)
    subst e
    rcases hnew' with hn | hn
    · exact hpo (hn ▸ hk)
    · have := hn k hk; omega
  · intro hk
    rcases hnew' with hn | hn
    · exact hpo (hn ▸ hk)
    · have := hn p hk; omega
  · intro q hq
    rcases List.mem_append.1 hq with hq | hq
    · exact h.2.2.2.2.1 q hq
    · simp at hq; subst hq; exact ⟨ha, hbm⟩
  · simp; omega
  · exact (hk1.mono (fun k _ hk => .inr hk)).trans (Keeps.setCell _ _ _ _ (.inl rfl))

set_option maxRecDepth 20000 in
set_option maxHeartbeats 1600000 in
theorem rpush_any (B p : Nat) (v : Value) (ns : List (Nat × Nat)) (x y a b : Nat) (w : World) (h : RRow w B p v ns) (hl : ns.length < 4096) (hx : Fl.part x = some a) (hy : Fl.part y = some b) :
    Calls Try.prog 19 #[.pointer (some ⟨p, 0, none⟩), .complex .f64 x y] w (RPushPost B p v (ns ++ [(a, b)]) w) := by
  have H := Lib.hid h
  have hplt := h.lt
  have hBw : B ≤ w.heap.size := by have := h.2.1; omega
  obtain ⟨ao, cap, hv, hle, hform⟩ := h.2.2.1.form
  subst hv
  clear h
  have HX := Lib.hid hx
  have HY := Lib.hid hy
  clear hx hy
  obtain ⟨i0, hi, hz0, hz1, hz2⟩ := info_parts infoSz
  go_enter Try.func19, Try.ntmps19
  go_wp2_with fail
  refine (from_any x y _).mono ?_
  rintro e w1 ⟨⟨a', b', rfl, hab⟩, hb1⟩
  obtain ⟨rfl, rfl⟩ := hab a b HX.out HY.out
  rw [HX.out, HY.out]
  have B1 := Lib.hid hb1
  clear hb1 hab
  have BS : Hid (Below w.heap.size w (w1.alloc (.cells #[.int .i64 a', .int .i64 b'] 52))) := below_alloc_sz B1.out _
  have C1 : Hid (Cl (w1.alloc (.cells #[.int .i64 a', .int .i64 b'] 52)) w1.heap.size [.int .i64 a', .int .i64 b'] 52) := Cl.new w1 [.int .i64 a', .int .i64 b'] 52
  go_upto_region 2 with (fail)
  generalize w1.alloc (.cells #[.int .i64 a', .int .i64 b'] 52) = w2 at *
  have R2 := Lib.hid (H.out.below BS.out)
  have hc := R2.out.cell
  have d0 : w2.cell? ⟨w1.heap.size, 0, none⟩ = some (.int .i64 a') := C1.out.cell 0
  have d1 : w2.cell? ⟨w1.heap.size, 1, none⟩ = some (.int .i64 b') := C1.out.cell 1
  generalize w1.heap.size = q at *
  have hsl : Hid (Sl (w2.alloc (.cells #[.int .i64 a', .int .i64 b'] 52)).drew B 2 (.slice ao ns.length cap) ns.length (szCells ns)) := R2.out.2.2.1.kept (S := fun _ => False) ((Keeps.alloc _ _ _).trans (Keeps.drew _ _)) (fun _ _ => id)
  have hsrc : Hid (SrcIs (w2.alloc (.cells #[.int .i64 a', .int .i64 b'] 52)).drew 2 (.slice (some ⟨w2.heap.size, 0, none⟩) 1 1) 1 [.int .i64 a', .int .i64 b']) := (Cl.new w2 [.int .i64 a', .int .i64 b'] 52).src 2 1 1 rfl
  have B3 : Hid (Below w.heap.size w (w2.alloc (.cells #[.int .i64 a', .int .i64 b'] 52)).drew) := (below_alloc_sz BS.out _).drew
  have hone : ∀ u ∈ [Value.int .i64 a', .int .i64 b'], u.oneCell' = true := by simp [Value.oneCell']
  have h63 : ns.length + 1 ≤ maxLen := by unfold maxLen; omega
  have hby : (ns.length + 1) * 16 ≤ 140737488355328 := by omega
  have hba : B ≤ ((w2.alloc (.cells #[.int .i64 a', .int .i64 b'] 52)).drew).heap.size := by have := B3.out.size; omega
  have hpa := part_le HX.out
  have hpb := part_le HY.out
  have HPO := Lib.hid (fun (w4 : World) (v' : Value) h1 h2 h3 => rpush_post (w2 := w4) (v' := v') H.out B3.out hl hpa hpb h1 h2 h3)
  clear hpa hpb
  have hcA : (w2.alloc (.cells #[.int .i64 a', .int .i64 b'] 52)).cell? ⟨p, 0, none⟩ = some (.slice ao ns.length cap) := (R2.out.kept (S := fun _ => False) (Keeps.alloc _ _ _) id (fun _ _ => id)).cell
  have dA0 : (w2.alloc (.cells #[.int .i64 a', .int .i64 b'] 52)).cell? ⟨q, 0, none⟩ = some (.int .i64 a') := (C1.out.alloc _).cell 0
  have dA1 : (w2.alloc (.cells #[.int .i64 a', .int .i64 b'] 52)).cell? ⟨q, 1, none⟩ = some (.int .i64 b') := (C1.out.alloc _).cell 1
  go_wp2_with fail
  go_region_law (first
    | (refine step_append_sl _ (by rfl) _ _ _ (by rfl) B 52 i0 _ 2 16 Try.underlying43 hi hz0 hz1 hz2 rfl (by decide) (.slice ao ns.length cap) ns.length (szCells ns) (by rfl) hsl.out (.slice (some ⟨w2.heap.size, 0, none⟩) 1 1) 1 [.int .i64 a', .int .i64 b'] (by rfl) hsrc.out hone h63 hby hba Nat.one_pos ?_; intro g4 off4 cap4 w4 hown4 hg4 hnew4; obtain ⟨hpost, hcell4, hfree4⟩ := HPO.out _ _ hown4 hg4 (hnew4.imp (fun e => e.symm) (fun e k hk => (Option.some.inj hk) ▸ e)); have HP := Lib.hid hpost; clear hpost hown4 hg4 hnew4))
  all_goals
    go_wp2
    go_ret
    exact HP.out
set_option maxRecDepth 20000 in
set_option maxHeartbeats 1600000 in
theorem rpush_no (B p : Nat) (v : Value) (ns : List (Nat × Nat)) (x y : Nat) (w : World) (h : RRow w B p v ns) (hno : ns.length = 4096 ∨ Fl.part x = none ∨ Fl.part y = none) :
    Calls Try.prog 19 #[.pointer (some ⟨p, 0, none⟩), .complex .f64 x y] w fun e w' => e = .returned (.int .i64 1) ∧ Below w.heap.size w w' := by
  have H := Lib.hid h
  have hlen := h.2.2.2.2.2
  obtain ⟨ao, cap, hv, hle, hform⟩ := h.2.2.1.form
  subst hv
  clear h
  have HN := Lib.hid (show ((Fl.part x).isSome && (Fl.part y).isSome) = false ∨ ns.length = 4096 from by
    rcases hno with h | h | h
    · exact .inr h
    · left; rw [h]; rfl
    · left; rw [h]; simp)
  clear hno
  go_enter Try.func19, Try.ntmps19
  go_wp2_with fail
  refine (from_any x y _).mono ?_
  rintro e w1 ⟨⟨a', b', rfl, hab⟩, hb1⟩
  clear hab
  have B1 := Lib.hid hb1
  clear hb1
  have BS : Hid (Below w.heap.size w (w1.alloc (.cells #[.int .i64 a', .int .i64 b'] 52))) := below_alloc_sz B1.out _
  generalize ((Fl.part x).isSome && (Fl.part y).isSome) = r at *
  go_upto_region 2 with (fail)
  generalize w1.alloc (.cells #[.int .i64 a', .int .i64 b'] 52) = w2 at *
  have hc := (H.out.below BS.out).cell
  generalize w1.heap.size = q at *
  cases r with
  | false =>
    go_wp2
    go_ret
    exact ⟨rfl, BS.out⟩
  | true =>
    have h4 : ns.length = 4096 := by rcases HN.out with h | h; cases h; exact h
    generalize ns.length = n at *
    subst h4
    go_wp2
    go_ret
    exact ⟨rfl, BS.out⟩

end Go.Proofs.Ytadioaeeobmdgaa
