/-
  Bead's writers, walked: Int, Text, List; and the library's functions under them, told over lists of bytes.
  Conditions: the library's variables hold what they are laid with; a whole text of at most 2^47 bytes.
-/
import Derived.Test.YtbljbdjmgogknaaGreatDoorRows
import Derived.Test.YtbljbdjmgogknaaGreatDoorShelf
import Derived.Test.YtbljbdjmgogknaaGreatDoorSl
import Derived.Test.YtbljbdjmgogknaaGreatDoorBd
import Derived.Lib.Join
import Derived.WalkSmall
set_option linter.unusedVariables false
set_option linter.unusedSimpArgs false
namespace Go.Proofs.YtbljbdjmgogknaaGreatDoor
open Go.RowKit

/-- What the library's variables hold. -/
structure Lw (w : World) : Prop where
  tab : Lib.TabIs Tryz.prog w "internal/strconv.uint64pow10" .u64 Lib.pow10Tab
  syn : ∃ tp p, w.var? Tryz.prog "strconv.ErrSyntax" = some #[.iface tp p]
  rng : ∃ tp p, w.var? Tryz.prog "strconv.ErrRange" = some #[.iface tp p]
  mx : ∃ m, w.cell? ⟨0, 0, none⟩ = some (.int .i64 m)
theorem gTab : Tryz.prog.globalNamed "internal/strconv.uint64pow10" = some 3 := by kernel_rfl
theorem gSyn : Tryz.prog.globalNamed "strconv.ErrSyntax" = some 1 := by kernel_rfl
theorem gRng : Tryz.prog.globalNamed "strconv.ErrRange" = some 2 := by kernel_rfl
theorem var_lt {P : Program} {w : World} {n : String} {g : Nat} {cs : Array Value} (hg : P.globalNamed n = some g) (h : w.var? P n = some cs) : g < w.heap.size := by
  unfold World.var? at h
  simp only [hg, Option.bind_some] at h
  rcases Nat.lt_or_ge g w.heap.size with hlt | hge
  · exact hlt
  · rw [Array.getElem?_eq_none hge] at h; cases h
theorem var_below {P : Program} {w w' : World} {n : String} {g : Nat} {cs : Array Value} (hg : P.globalNamed n = some g) (h : w.var? P n = some cs) (hb : Below w.heap.size w w') : w'.var? P n = some cs :=
  var?_below hb hg (var_lt hg h) h
theorem Lw.below {w w' : World} (h : Lw w) (hb : Below w.heap.size w w') : Lw w' := by
  obtain ⟨h1, ⟨t2, p2, h2⟩, ⟨t3, p3, h3⟩, ⟨m, h4⟩⟩ := h
  refine ⟨var_below gTab h1 hb, ⟨t2, p2, var_below gSyn h2 hb⟩, ⟨t3, p3, var_below gRng h3 hb⟩, m, ?_⟩
  rw [hb.cell (p := ⟨0, 0, none⟩) (World.block_lt_of_cell? w _ h4)]
  exact h4
theorem Lw.drewN {w : World} (h : Lw w) (n : Nat) : Lw (w.drewN n) := h.below (below_drewN (Below.refl _ _) n)

/-! ### The library's functions over lists of bytes -/

theorem below_grow (w : World) (k : Nat) (os : Array Obj) : Below w.heap.size w (Go.Sort.grow (w.drewN k) os) :=
  ⟨rfl, rfl, rfl, by simp [Go.Sort.grow, World.drewN], fun j hj => by
    show (w.heap ++ os)[j]? = w.heap[j]?
    rw [Array.getElem?_append_left hj]⟩
theorem itoa_any (n : Int) (hn : Bd.inR n) (w : World) (hw : Lw w) : Calls Tryz.prog 112 #[.int .i64 n] w fun e w' => e = .returned (.string ⟨(Lib.itoa n).toArray⟩) ∧ Below w.heap.size w w' := by
  refine (Tryz.strconv_Itoa n hn.1 hn.2 w hw.tab).mono ?_
  rintro e w' ⟨he, k, os, rfl⟩
  exact ⟨he, below_grow w k os⟩
theorem join_flat (ls : List (List UInt8)) : Lib.join ls [] = ls.flatten := by
  cases ls with
  | nil => rfl
  | cons x r => rw [Lib.join_cons]; simp [Lib.joinTail]
/-- A slice of strings: its cells. -/
def Strs (w : World) (v : Value) (ls : List (List UInt8)) : Prop :=
  (v = .slice none 0 0 ∧ ls = []) ∨ ∃ g o c, v = .slice (some ⟨g, o, none⟩) ls.length c ∧ g < w.heap.size ∧ ls.length ≤ c ∧ ∀ (j : Nat) x, ls[j]? = some x → w.cell? ⟨g, o + j, none⟩ = some (.string ⟨x.toArray⟩)
theorem join_any (v : Value) (ls : List (List UInt8)) (w : World) (h : Strs w v ls) (hl : ls.length ≤ 140737488355328) (hb : ls.flatten.length ≤ 140737488355328) :
    Calls Tryz.prog 79 #[v, .string ⟨#[]⟩] w fun e w' => e = .returned (.string ⟨ls.flatten.toArray⟩) ∧ Below w.heap.size w w' := by
  rcases h with ⟨rfl, rfl⟩ | ⟨g, o, c, rfl, hg, hc, hcell⟩
  · refine (Tryz.strings_Join_none none 0 ⟨#[]⟩ w).mono ?_
    rintro e w' ⟨he, rfl⟩
    exact ⟨he, Below.refl _ _⟩
  · have hm : (ls.map (fun x => (⟨x.toArray⟩ : ByteArray))).map (·.data.toList) = ls := by rw [List.map_map]; exact (List.map_congr_left fun x _ => rfl).trans (List.map_id _)
    have := Tryz.strings_Join g o c (ls.map fun x => ⟨x.toArray⟩) ⟨#[]⟩ w (fun j x hx => by
      rw [List.getElem?_map] at hx
      cases hj : ls[j]? with
      | none => rw [hj] at hx; cases hx
      | some y => rw [hj] at hx; injection hx with hx; subst hx; exact hcell j y hj) hg (by rw [List.length_map]; exact hl) (by rw [List.length_map]; exact hc) (by rw [hm]; exact (join_flat ls).symm ▸ hb)
    rw [hm, List.length_map] at this
    refine this.mono ?_
    rintro e w' ⟨he, hb'⟩
    refine ⟨?_, hb'⟩
    rw [he]
    exact congrArg (fun l : List UInt8 => Ending.returned (.string ⟨l.toArray⟩)) (join_flat ls)

/-! ### Bead's writers -/

set_option maxHeartbeats 400000 in
theorem beadInt_any (n : Int) (hn : Bd.inR n) (w : World) (hw : Lw w) : Calls Tryz.prog 83 #[.int .i64 n] w fun e w' => e = .returned (.string ⟨(Bd.bInt n).toArray⟩) ∧ Below w.heap.size w w' := by
  have hl : (Lib.itoa n).length ≤ 21 := Lib.itoa_length_le n hn.1 hn.2
  have HI := Lib.hid (itoa_any n hn w hw)
  have HE : Hid ([105] ++ Lib.itoa n ++ [101] = Bd.bInt n) := by simp [Hid, Bd.bInt]
  clear hw
  generalize Lib.itoa n = t at hl HI HE
  go_enter Tryz.func83, Tryz.ntmps83
  go_wp2_with fail
  refine HI.out.mono ?_
  rintro e w1 ⟨rfl, hb⟩
  have HB := Lib.hid hb
  clear hb
  have e1 : ∀ l : List UInt8, (⟨#[105]⟩ : ByteArray) ++ ⟨l.toArray⟩ = ⟨([105] ++ l).toArray⟩ := fun l => bs_append [105] l
  have e2 : ∀ l : List UInt8, (⟨l.toArray⟩ : ByteArray) ++ ⟨#[101]⟩ = ⟨(l ++ [101]).toArray⟩ := fun l => bs_append l [101]
  go_wp2
  go_ret
  refine ⟨ret_str ?_, HB.out⟩
  rw [← HE.out]
  simp [bs_append, e1, e2]
set_option maxHeartbeats 400000 in
theorem beadText_any (s : List UInt8) (hs : s.length ≤ 140737488355328) (w : World) (hw : Lw w) : Calls Tryz.prog 81 #[.string ⟨s.toArray⟩] w fun e w' => e = .returned (.string ⟨(Bd.bText s).toArray⟩) ∧ Below w.heap.size w w' := by
  have hn : Bd.inR (s.length : Int) := by unfold Bd.inR; omega
  have hl : (Lib.itoa (s.length : Int)).length ≤ 21 := Lib.itoa_length_le _ hn.1 hn.2
  have HI := Lib.hid (itoa_any s.length hn w hw)
  have HE : Hid (Lib.itoa s.length ++ [58] ++ s = Bd.bText s) := by simp [Hid, Bd.bText]
  clear hw hn
  generalize Lib.itoa (s.length : Int) = t at hl HI HE
  go_enter Tryz.func81, Tryz.ntmps81
  go_wp2_with fail
  refine HI.out.mono ?_
  rintro e w1 ⟨rfl, hb1⟩
  have HB := Lib.hid hb1
  clear hb1
  go_wp2
  go_ret
  refine ⟨ret_str ?_, HB.out⟩
  rw [← HE.out]
  simp [bs_append]
set_option maxHeartbeats 400000 in
theorem beadList_any (v : Value) (ls : List (List UInt8)) (w : World) (h : Strs w v ls) (hl : ls.length ≤ 140737488355328) (hb : ls.flatten.length ≤ 140737488355328) :
    Calls Tryz.prog 46 #[v] w fun e w' => e = .returned (.string ⟨(108 :: (ls.flatten ++ [101])).toArray⟩) ∧ Below w.heap.size w w' := by
  have HI := Lib.hid (join_any v ls w h hl hb)
  have HE : Hid ([108] ++ ls.flatten ++ [101] = 108 :: (ls.flatten ++ [101])) := by simp [Hid]
  clear h hl
  generalize ls.flatten = t at hb HI HE
  go_enter Tryz.func46, Tryz.ntmps46
  go_wp2_with fail
  refine HI.out.mono ?_
  rintro e w1 ⟨rfl, hb1⟩
  have HB := Lib.hid hb1
  clear hb1
  go_wp2
  go_ret
  refine ⟨ret_str ?_, HB.out⟩
  rw [← HE.out]
  try simp [bs_append]

end Go.Proofs.YtbljbdjmgogknaaGreatDoor
