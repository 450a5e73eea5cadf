/-
  Agent: a request is sent.
  Conditions: none.
-/
import Derived.Test.YtkjbhkillkbcgaaDoorAa
import Derived.Test.YtkjbhkillkbcgaaDoorAst
import Derived.Deep.Cut
import Derived.Deep.RegionLaw
set_option linter.unusedVariables false
set_option linter.unusedSimpArgs false
namespace Go.Proofs.YtkjbhkillkbcgaaDoor
open Go.RowKit

theorem msgInfo : (Tryd.prog.info? 47).map (fun i => (i.zero, i.size, i.bytes)) = some (some (.agg #[.int .i64 0, .int .i64 0, .int .i64 0, .int .i64 0, .int .i64 0, .int .i64 0, .int .i64 0, .int .i64 0, .int .i64 0, .slice none 0 0, .int .i64 0, .slice none 0 0, .int .i64 0, .int .i64 0, .int .i64 0, .int .i64 0, .int .i64 0, .slice none 0 0, .slice none 0 0,
    .int .i64 0, .int .i64 0, .int .i64 0, .int .i64 0, .int .i64 0, .int .i64 0, .int .i64 0, .int .i64 0, .string ⟨#[]⟩, .string ⟨#[]⟩, .slice none 0 0, .int .i64 0, .int .i64 0, .int .i64 0, .int .i64 0, .int .i64 0, .int .i64 0, .slice none 0 0, .slice none 0 0]), 38, 432) := by kernel_rfl
/-- A message that bears a request. -/
def msgC (frm to_ : Int) (q : ReqS) : List Value := [.int .i64 1, .int .i64 frm, .int .i64 to_, .int .i64 0, .int .i64 0, .int .i64 0, .int .i64 0, .int .i64 0, .int .i64 0, .slice none 0 0, .int .i64 0, .slice none 0 0, .int .i64 0, .int .i64 0, .int .i64 0, .int .i64 0, .int .i64 0, .slice none 0 0, .slice none 0 0,
  .int .i64 q.client, .int .i64 q.n, .int .i64 q.kind, .int .i64 q.part, .int .i64 q.seq, .int .i64 q.off, .int .i64 q.max, .int .i64 q.gen, .string ⟨q.group.toArray⟩, .string ⟨q.member.toArray⟩, q.recs,
  .int .i64 0, .int .i64 0, .int .i64 0, .int .i64 0, .int .i64 0, .int .i64 0, .slice none 0 0, .slice none 0 0]
/-- What is to be sent: just this message. -/
def OutIs (w : World) (B : Nat) (v : Value) (frm to_ : Int) (q : ReqS) : Prop := Sl w B 38 v 1 (msgC frm to_ q)
def SendPost (w : World) (g : Nat) (s : AgS) (e : Ending) (w' : World) : Prop := ∃ v rv, e = .returned (.tuple #[]) ∧ Ag w' g { s with out := v } ∧ OutIs w' w.heap.size v (10 + s.client) s.cur { s.req with recs := rv } ∧ Keeps (fun j => j = g) w w'
set_option maxRecDepth 20000 in
set_option maxHeartbeats 3200000 in
theorem send_any (g : Nat) (s : AgS) (rl : List Cr.Rec) (hrl : rl.length ≤ 1000000) (w : World) (h : Ag w g s) (ho : s.out = .slice none 0 0) (hr : Recs w s.req.recs rl) (hk : s.req.kind ≠ 8) (hc : 1 ≤ s.client ∧ s.client ≤ 4) :
    Calls Tryd.prog 16 #[.pointer (some ⟨g, 0, none⟩)] w (SendPost w g s) := by
  have H := Lib.hid h
  have c0 := Cl.cell h 0
  have c3 := Cl.cell h 3
  have c17 := Cl.cell h 17
  have c18 := Cl.cell h 18
  have c19 := Cl.cell h 19
  have c20 := Cl.cell h 20
  have c21 := Cl.cell h 21
  have c22 := Cl.cell h 22
  have c23 := Cl.cell h 23
  have c24 := Cl.cell h 24
  have c25 := Cl.cell h 25
  have c26 := Cl.cell h 26
  have c27 := Cl.cell h 27
  simp only [agC, List.getElem?_cons_zero, List.getElem?_cons_succ] at c0 c3 c17 c18 c19 c20 c21 c22 c23 c24 c25 c26 c27
  obtain ⟨hc1, hc2⟩ := hc
  have HO := Lib.hid ho
  have hbk : (s.req.kind == 8) = false := by simp [hk]
  obtain ⟨a, cap, hre⟩ := hr.form
  rw [hre] at hr c27
  have C3 : Hid (Cl (w.alloc (.cells (reqC s.req).toArray 43)) w.heap.size (reqC s.req) 43) := Cl.new w _ _
  have H3 : Hid (Ag (w.alloc (.cells (reqC s.req).toArray 43)) g s) := Cl.alloc h _
  have R3 : Hid (Recs (w.alloc (.cells (reqC s.req).toArray 43)) (.slice a rl.length cap) rl) := hr.kept ((Below.refl _ _).alloc (Nat.le_refl _) _)
  have K3 : Hid (Keeps (fun j => j = g) w (w.alloc (.cells (reqC s.req).toArray 43))) := Keeps.alloc _ _ _
  have hgl := Cl.lt h
  have hgp : g ≠ w.heap.size := by omega
  have hsz : w.heap.size < (w.alloc (.cells (reqC s.req).toArray 43)).heap.size := by simp
  simp only [reqC, hre] at C3 H3 R3 K3 hsz
  clear h hr ho hk hre
  go_enter Tryd.func16, Tryd.ntmps16
  go_upto_region 4 with (fail)
  generalize w.alloc (.cells #[.int .i64 s.req.client, .int .i64 s.req.n, .int .i64 s.req.kind, .int .i64 s.req.part, .int .i64 s.req.seq, .int .i64 s.req.off, .int .i64 s.req.max, .int .i64 s.req.gen, .string ⟨s.req.group.toArray⟩, .string ⟨s.req.member.toArray⟩, .slice a rl.length cap] 43) = w3 at *
  clear c0 c3 c17 c18 c19 c20 c21 c22 c23 c24 c25 c26 c27
  generalize hp : w.heap.size = p at C3 hgp hsz ⊢
  have x10 := C3.out.cell 10
  simp only [List.getElem?_cons_zero, List.getElem?_cons_succ] at x10
  go_wp2_with fail
  refine (clonerecs_any rl hrl _ w3 R3.out).mono ?_
  rintro e w4 ⟨v4, rfl, hs4, hb4⟩
  have C4 := Lib.hid (C3.out.below hb4)
  have H4 : Hid (Ag w4 g s) := Cl.below H3.out hb4
  have hsz4 := Nat.le_trans (Nat.le_of_lt hsz) hb4.size
  have K4 : Hid (Keeps (fun j => j = g) w w4) := K3.out.trans (Keeps.below _ hb4)
  obtain ⟨a4, cap4, hv4, _⟩ := hs4.form
  subst hv4
  clear x10 C3 H3 R3 K3 hsz hb4 hs4
  have f10 := C4.out.free 10
  have x10 := C4.out.cell 10
  simp only [List.getElem?_cons_zero, List.getElem?_cons_succ] at x10
  go_upto_region 5 with (fail)
  have C5 : Hid (Cl (w4.setCell ⟨p, 10, none⟩ (.slice a4 rl.length cap4)) p (reqC { s.req with recs := .slice a4 rl.length cap4 }) 43) := C4.out.set 10 _
  have H5 : Hid (Ag (w4.setCell ⟨p, 10, none⟩ (.slice a4 rl.length cap4)) g s) := Cl.other H4.out _ _ (fun e => hgp e.symm)
  have K5 : Hid (Keeps (fun j => j = g) w (w4.setCell ⟨p, 10, none⟩ (.slice a4 rl.length cap4))) := Keeps.fresh K4.out (Keeps.setCell (fun j => j = p) w4 _ _ rfl) (fun j hj e => by omega)
  have hsz5 : p ≤ (w4.setCell ⟨p, 10, none⟩ (.slice a4 rl.length cap4)).heap.size := by
    have e1 : (w4.setCell ⟨p, 10, none⟩ (.slice a4 rl.length cap4)).heap.size = w4.heap.size := by simp [World.setCell]
    omega
  generalize w4.setCell ⟨p, 10, none⟩ (.slice a4 rl.length cap4) = w5 at *
  clear C4 H4 K4 f10 x10 hsz4
  simp only [reqC] at C5
  have y0 := C5.out.cell 0
  have y1 := C5.out.cell 1
  have y2 := C5.out.cell 2
  have y3 := C5.out.cell 3
  have y4 := C5.out.cell 4
  have y5 := C5.out.cell 5
  have y6 := C5.out.cell 6
  have y7 := C5.out.cell 7
  have y8 := C5.out.cell 8
  have y9 := C5.out.cell 9
  have y10 := C5.out.cell 10
  have z0 := Cl.cell H5.out 0
  have z28 := Cl.cell H5.out 28
  simp only [List.getElem?_cons_zero, List.getElem?_cons_succ, agC, HO.out] at y0 y1 y2 y3 y4 y5 y6 y7 y8 y9 y10 z0 z28
  have yd : w5.drew.cell? = w5.cell? := rfl
  have HA : Hid (Ag ((w5.alloc (.cells (msgC (10 + s.client) s.cur { s.req with recs := .slice a4 rl.length cap4 }).toArray 47)).drew) g s) := (Cl.alloc H5.out _).drewN 1
  have zA : (w5.alloc (.cells (msgC (10 + s.client) s.cur { s.req with recs := .slice a4 rl.length cap4 }).toArray 47)).cell? ⟨g, 28, none⟩ = some (.slice none 0 0) := by
    have := Cl.cell HA.out 28
    simp only [List.getElem?_cons_zero, List.getElem?_cons_succ, agC, HO.out] at this
    exact this
  have KA : Hid (Keeps (fun j => j = g) w ((w5.alloc (.cells (msgC (10 + s.client) s.cur { s.req with recs := .slice a4 rl.length cap4 }).toArray 47)).drew)) := K5.out.trans ((Keeps.alloc _ _ _).trans (Keeps.drew _ _))
  have hsl : Hid (Sl ((w5.alloc (.cells (msgC (10 + s.client) s.cur { s.req with recs := .slice a4 rl.length cap4 }).toArray 47)).drew) p 38 (.slice none 0 0) 0 []) := Sl.nil _ _ _
  have hsrc : Hid (SrcIs ((w5.alloc (.cells (msgC (10 + s.client) s.cur { s.req with recs := .slice a4 rl.length cap4 }).toArray 47)).drew) 38 (.slice (some ⟨w5.heap.size, 0, none⟩) 1 1) 1 (msgC (10 + s.client) s.cur { s.req with recs := .slice a4 rl.length cap4 })) := (Cl.new w5 (msgC (10 + s.client) s.cur { s.req with recs := .slice a4 rl.length cap4 }) 47).src 38 1 1 rfl
  obtain ⟨i0, hi, hz0, hz1, hz2⟩ := info_parts msgInfo
  have hone : ∀ u ∈ (msgC (10 + s.client) s.cur { s.req with recs := .slice a4 rl.length cap4 }), u.oneCell' = true := by simp [msgC, Value.oneCell']
  have h63 : 0 + 1 ≤ maxLen := by unfold maxLen; omega
  have hby : (0 + 1) * 432 ≤ 140737488355328 := by omega
  have hgA : g < ((w5.alloc (.cells (msgC (10 + s.client) s.cur { s.req with recs := .slice a4 rl.length cap4 }).toArray 47)).drew).heap.size := Cl.lt HA.out
  have hba : p ≤ ((w5.alloc (.cells (msgC (10 + s.client) s.cur { s.req with recs := .slice a4 rl.length cap4 }).toArray 47)).drew).heap.size := by
    show p ≤ (w5.alloc (.cells (msgC (10 + s.client) s.cur { s.req with recs := .slice a4 rl.length cap4 }).toArray 47)).heap.size
    rw [World.size_alloc]; omega
  have HPO : Hid (∀ (w6 : World) (g6 off6 cap6 : Nat), Sl w6 p 38 (.slice (some ⟨g6, off6, none⟩) (0 + 1) cap6) (0 + 1) ([] ++ (msgC (10 + s.client) s.cur { s.req with recs := .slice a4 rl.length cap4 })) → ((w5.alloc (.cells (msgC (10 + s.client) s.cur { s.req with recs := .slice a4 rl.length cap4 }).toArray 47)).drew).grownBy w6 (Value.slice none 0 0).ownBlock → ((Value.slice none 0 0).ownBlock = some g6 ∨ ((w5.alloc (.cells (msgC (10 + s.client) s.cur { s.req with recs := .slice a4 rl.length cap4 }).toArray 47)).drew).heap.size ≤ g6) →
      (SendPost w g s (.returned (.tuple #[])) (w6.setCell ⟨g, 28, none⟩ (.slice (some ⟨g6, off6, none⟩) 1 cap6))) ∧ w6.cell? ⟨g, 28, none⟩ = some (.slice none 0 0) ∧ w6.frozen? ⟨g, 28, none⟩ = false) := by
    intro w6 g6 off6 cap6 h1 h2 h3
    have H6 : Ag w6 g s := Cl.grown HA.out h2 (fun e => by cases e)
    have hne : g6 ≠ g := by
      rcases h3 with h3 | h3
      · cases h3
      · omega
    have x28 := Cl.cell H6 28
    simp only [List.getElem?_cons_zero, List.getElem?_cons_succ, agC, HO.out] at x28
    refine ⟨⟨.slice (some ⟨g6, off6, none⟩) 1 cap6, .slice a4 rl.length cap4, rfl, Cl.set H6 28 (.slice (some ⟨g6, off6, none⟩) 1 cap6), ?_, ?_⟩, x28, Cl.free H6 28⟩
    · rw [hp]
      exact (h1.otherCell ⟨g, 28, none⟩ (.slice (some ⟨g6, off6, none⟩) 1 cap6) (fun e => hne (Option.some.inj e)))
    · exact (KA.out.trans (Keeps.grown h2 (fun k hk => by cases hk))).trans (Keeps.setCell _ _ ⟨g, 28, none⟩ _ rfl)
  clear H5 C5 K5 KA HA
  simp only [msgC] at hsl hsrc hone hgA hba HPO zA
  have hwr : IntKind.i64.wrap (10 + s.client) = 10 + s.client := by rw [IntKind.wrap_i64]; omega
  go_wp2_with fail
  go_region_law (first
    | (refine step_append_sl _ (by rfl) _ _ _ (by rfl) p 47 i0 _ 38 432 Tryd.underlying33 hi hz0 hz1 hz2 rfl (by decide) (.slice none 0 0) 0 [] (by rfl) hsl.out (.slice (some ⟨w5.heap.size, 0, none⟩) 1 1) 1 _ (by rfl) hsrc.out hone h63 hby hba Nat.one_pos ?_; intro g6 off6 cap6 w6 hown6 hg6 hnew6; obtain ⟨hpost, hcell6, hfree6⟩ := HPO.out _ _ _ _ hown6 hg6 hnew6; have HP := Lib.hid hpost; clear hpost hown6 hg6 hnew6))
  all_goals
    go_end0
    exact HP.out


end Go.Proofs.YtkjbhkillkbcgaaDoor
