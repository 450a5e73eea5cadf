/-
  Bag: Copy.
  Conditions: none.
-/
import Derived.Test.YtbljbdjmgogknaaGreatDoorGa
set_option linter.unusedVariables false
set_option linter.unusedSimpArgs false
namespace Go.Proofs.YtbljbdjmgogknaaGreatDoor
open Go.RowKit

def CopyPost (B pb : Nat) (lv : Value) (l : List Item) (w : World) (e : Ending) (w' : World) : Prop :=
  e = .returned (.bool true) ∧ ∃ lv', BagW w' B pb lv' l ∧ BagK pb lv lv' w w'
set_option maxHeartbeats 1600000 in
theorem bagCopy_no (B pb : Nat) (lv : Value) (l : List Item) (n : Int) (hn : ¬ (0 ≤ n ∧ n < l.length)) (w : World) (h : BagW w B pb lv l) :
    Calls Tryz.prog 15 #[.pointer (some ⟨pb, 0, none⟩), .int .i64 n] w fun e w' => e = .returned (.bool false) ∧ w' = w := by
  have HH := bagHas_any B pb lv l n w h
  rw [show decide (0 ≤ n ∧ n < (l.length : Int)) = false from decide_eq_false hn] at HH
  have HHA := Lib.hid HH
  clear HH hn h
  go_enter Tryz.func15, Tryz.ntmps15
  go_wp2_with fail
  refine HHA.out.mono ?_
  rintro e w2 ⟨rfl, rfl⟩
  go_wp2
  go_ret
  exact ⟨rfl, rfl⟩
set_option maxHeartbeats 1600000 in
theorem bagCopy_full (B pb : Nat) (lv : Value) (l : List Item) (n : Int) (hf : l.length = 256) (w : World) (h : BagW w B pb lv l) :
    Calls Tryz.prog 15 #[.pointer (some ⟨pb, 0, none⟩), .int .i64 n] w fun e w' => e = .returned (.bool false) ∧ w' = w := by
  by_cases hn : 0 ≤ n ∧ n < l.length
  · have HH := bagHas_any B pb lv l n w h
    rw [show decide (0 ≤ n ∧ n < (l.length : Int)) = true from decide_eq_true hn] at HH
    have HHA := Lib.hid HH
    have c0 := h.c.cell 0
    obtain ⟨a, cap, rfl, _⟩ := h.s.form
    simp only [List.getElem?_cons_zero] at c0
    clear HH hn h
    go_enter Tryz.func15, Tryz.ntmps15
    go_wp2_with fail
    refine HHA.out.mono ?_
    rintro e w2 ⟨rfl, rfl⟩
    go_wp2
    go_ret
    exact ⟨rfl, rfl⟩
  · exact bagCopy_no B pb lv l n hn w h
set_option maxRecDepth 20000 in
set_option maxHeartbeats 3200000 in
theorem bagCopy_any (B pb : Nat) (lv : Value) (l : List Item) (k : Nat) (x : Item) (hx : l[k]? = some x) (hlt : l.length < 256) (w : World) (h : BagW w B pb lv l) (hB : B ≤ w.heap.size) :
    Calls Tryz.prog 15 #[.pointer (some ⟨pb, 0, none⟩), .int .i64 k] w (CopyPost B pb lv (l ++ [x]) w) := by
  have H2 := Lib.hid h
  have hk : k < l.length := (List.getElem?_eq_some_iff.1 hx).1
  have hki : (k : Int) < (l.length : Int) := by omega
  have HX := Lib.hid hx
  have HH := bagHas_any B pb lv l k w h
  rw [show decide (0 ≤ (k : Int) ∧ (k : Int) < (l.length : Int)) = true from decide_eq_true (by omega)] at HH
  have HHA := Lib.hid HH
  obtain ⟨i0, hi, hz0, hz1, hz2⟩ := info_parts infoItem
  clear h HH hx
  have s1 := H2.out.s
  rcases s1.2 with ⟨_, h0⟩ | ⟨g, off, cap, hlv, hgB, hg, hnc, hmc, hr, ht⟩
  · omega
  subst hlv
  have c1 : w.cell? ⟨pb, 0, none⟩ = some (.slice (some ⟨g, off, none⟩) l.length cap) := H2.out.c.cell 0
  have cx : w.cell? ⟨g, off + k * 2, none⟩ = some (.string ⟨x.1.toArray⟩) := hr _ _ (itC_at HX.out).1
  have cy : w.cell? ⟨g, off + k * 2 + 1, none⟩ = some (.int .i64 x.2) := by rw [Nat.add_assoc]; exact hr _ _ (itC_at HX.out).2
  clear s1 hr ht
  have ITM : Hid (Cl (w.alloc (.cells #[.string ⟨x.1.toArray⟩, .int .i64 x.2] 74)) w.heap.size [.string ⟨x.1.toArray⟩, .int .i64 x.2] 74) := Cl.new w _ _
  have hsl : Hid (Sl (w.alloc (.cells #[.string ⟨x.1.toArray⟩, .int .i64 x.2] 74)).drew B 2 (.slice (some ⟨g, off, none⟩) l.length cap) l.length (itC l)) := H2.out.s.kept (S := fun _ => False) ((Keeps.alloc _ _ _).trans (Keeps.drew _ _)) (fun _ _ => id)
  have hsrc : Hid (SrcIs (w.alloc (.cells #[.string ⟨x.1.toArray⟩, .int .i64 x.2] 74)).drew 2 (.slice (some ⟨w.heap.size, 0, none⟩) 1 1) 1 [.string ⟨x.1.toArray⟩, .int .i64 x.2]) := ITM.out.src 2 1 1 rfl
  have hone : ∀ u ∈ [Value.string ⟨x.1.toArray⟩, .int .i64 x.2], u.oneCell' = true := by simp [Value.oneCell']
  have h63 : l.length + 1 ≤ maxLen := by unfold maxLen; omega
  have hby : (l.length + 1) * 24 ≤ 140737488355328 := by omega
  have hba : B ≤ ((w.alloc (.cells #[.string ⟨x.1.toArray⟩, .int .i64 x.2] 74)).drew).heap.size := by have h2 := World.size_alloc w (.cells #[.string ⟨x.1.toArray⟩, .int .i64 x.2] 74); show B ≤ (w.alloc (.cells #[.string ⟨x.1.toArray⟩, .int .i64 x.2] 74)).heap.size; omega
  have HPO := Lib.hid (fun (w4 : World) (v' : Value) h1 h2 h3 => bag_put_post (x := x) (w4 := w4) (v' := v') H2.out hlt h1 h2 h3)
  have gA : (w.alloc (.cells #[.string ⟨x.1.toArray⟩, .int .i64 x.2] 74)).cell? ⟨pb, 0, none⟩ = some (.slice (some ⟨g, off, none⟩) l.length cap) := (H2.out.c.alloc _).cell 0
  go_enter Tryz.func15, Tryz.ntmps15
  go_wp2_with fail
  refine HHA.out.mono ?_
  rintro e w2 ⟨rfl, rfl⟩
  clear HHA
  go_upto_region 3 with (fail)
  go_region_law (first
    | (refine step_append_sl _ (by rfl) _ _ _ (by rfl) B 74 i0 _ 2 24 Tryz.underlying63 hi hz0 hz1 hz2 rfl (by decide) (.slice (some ⟨g, off, none⟩) l.length cap) l.length (itC l) (by rfl) hsl.out (.slice (some ⟨w2.heap.size, 0, none⟩) 1 1) 1 [.string ⟨x.1.toArray⟩, .int .i64 x.2] (by rfl) hsrc.out hone h63 hby hba Nat.one_pos ?_; intro g4 off4 cap4 w4 hown4 hg4 hnew4; obtain ⟨hpost, hcell4, hfree4⟩ := HPO.out _ _ hown4 hg4 (hnew4.imp (fun e => e.symm) (fun e k hk => (Option.some.inj hk) ▸ e)); have HP := Lib.hid hpost; clear hpost hown4 hg4 hnew4))
  all_goals
    go_wp2
    go_ret
    exact ⟨rfl, _, HP.out.1, HP.out.2⟩
end Go.Proofs.YtbljbdjmgogknaaGreatDoor
