/-
  Gj: texts of one proof, one behind the other.
  Conditions: none of its own.
-/
import Derived.Test.YtbljbdjmgogknaaGreatDoorZai
import Derived.Test.YtbljbdjmgogknaaGreatDoorZak
/-
  Bag: All over beats: the iterator's contract (printed by wip/gen/mkbag6.py).
  Conditions: the library's variables hold what they are laid with.
-/
set_option linter.unusedVariables false
set_option linter.unusedSimpArgs false
namespace Go.Proofs.YtbljbdjmgogknaaGreatDoor
open Go.RowKit Go.Shelf
attribute [local go_sem] Oper.semAt_some

def encsB (x : Nat × Nat) : Array Value := #[.int .i64 x.1, msgV (beatM 1 0 x.2) zeroV]
def itemsN (L : List Nat) : List Item := L.map fun i : Nat => bItem 0 i
theorem itemsN_len (L : List Nat) : (itemsN L).length = L.length := by simp [itemsN]
/-- The first k pairs that come. -/
def goL (L : List Nat) (k : Nat) : List (Nat × Nat) := (List.range k).map fun j => (j, L.getD j 0)
theorem goL_succ (L : List Nat) (k : Nat) : goL L (k + 1) = goL L k ++ [(k, L.getD k 0)] := by simp [goL, List.range_succ]
theorem goL_length (L : List Nat) (k : Nat) : (goL L k).length = k := by simp [goL]
theorem goL_le (L : List Nat) {k m : Nat} (h : k ≤ m) : goL L k <+: goL L m := by
  refine ⟨((List.range (m - k)).map (k + ·)).map fun j => (j, L.getD j 0), ?_⟩
  rw [goL, ← List.map_append, ← List.range_add, show k + (m - k) = m by omega, goL]
theorem grown_of_below {w w' : World} (h : Below w.heap.size w w') : w.grownBy w' none := ⟨h.os, h.tape, h.output, h.size, fun k hk _ => h.block k hk⟩
theorem info38 : (Tryz.prog.info? 44).map (·.size) = some 38 := by kernel_rfl
set_option maxRecDepth 100000 in
set_option maxHeartbeats 4000000 in
theorem bagAll_stops (n : Nat) (hn : 1 ≤ n) (bx n₁ n₀ B pb : Nat) (lv : Value) (L : List Nat) (w0 w : World) (hw0 : Lw w0) (hn1 : n₁ = w0.heap.size) (hb01 : Below n₁ w0 w) (hbx : bx < w.heap.size) (hn₀ : n₀ ≤ w.heap.size) (hc : w.cell? ⟨bx, 0, none⟩ = some (.pointer (some ⟨pb, 0, none⟩)))
    (h : BagW w B pb lv (itemsN L)) (hL : ∀ x ∈ L, x ≤ 1073741824) :
    SeqStopsK Fence.wide n Tryz.prog 36 #[.pointer (some ⟨bx, 0, none⟩)] encsB (KpA n₁ n₀) (fun xs => xs = goL L L.length) (fun pre => pre <+: goL L L.length) L.length w := fun l J Jx W hW hJ hJx hY h0 => by
  have hbxc := (hW.cell (p := ⟨bx, 0, none⟩) hbx).trans hc
  have h' := h.below hW
  have hbW : Below n₁ w0 W := hb01.trans (hW.mono (by rw [hn1] at hb01 ⊢; exact hb01.size))
  have hwW := hW.size
  have HSL := Lib.hid h'.s
  have hlb := h'.m
  rw [itemsN_len] at hlb
  have c1 := h'.c.cell 0
  simp only [List.getElem?_cons_zero] at c1
  have HY := Lib.hid hY
  have HJ := Lib.hid hJ
  have HL := Lib.hid hL
  have HW0 := Lib.hid hw0
  have HBW := Lib.hid hbW
  have HN1 := Lib.hid hn1
  clear h h' hY hJ hL hw0 hb01 hc hW hbW hn1
  obtain ⟨a, cap, rfl, hle, ha⟩ := HSL.out.form
  rw [itemsN_len] at HSL c1
  clear ha
  refine callsIn_of_wp Tryz.func36 rfl trivial ?_ rfl
  simp only [Tryz.ntmps36, List.size_toArray, List.length_cons, List.length_nil, Nat.reduceAdd, Nat.reduceSub, Array.replicate_succ, Array.replicate_zero, List.push_toArray, List.append_toArray, List.nil_append, List.cons_append]
  gi_wp2_with (refine ⟨trivial, ?_⟩; gi_at_call 37; refine (callsIn_wide.2 (cloneItems_any B (.slice a L.length cap) (itemsN L) W (by rw [itemsN_len]; exact HSL.out) (by rw [itemsN_len]; exact hlb))).mono ?_; rintro e w1 ⟨v1, rfl, hs1, hb1⟩)
  have h1 : Hid (J [] w1) := HJ.out _ _ _ none h0 (grown_of_below hb1) (fun r e => by cases e)
  have hcl : Hid (CloneI w1 n₀ v1 (itemsN L)) := CloneI.of hs1 (by omega)
  have hbw1 : Hid (Below n₁ w0 w1) := HBW.out.trans (hb1.mono (by rw [HN1.out]; have := HBW.out.size; exact this))
  have hWs : W.heap.size ≤ w1.heap.size := hb1.size
  obtain ⟨a1, cap1, rfl, _, _⟩ := hs1.form
  rw [itemsN_len] at hcl
  clear hs1 hb1 h0 HSL c1 hbxc
  have hlen1 : ∀ w, (Builtin.len_ #[63] 3 #[.slice a1 L.length cap1]).run Tryz.prog w = .ok (.int .i64 L.length) w := by
    intro w
    have he : Tryz.prog.elem 63 = 74 := by simp [Program.elem, Tryz.underlying63]
    exact run_len_slice w 63 3 a1 L.length cap1 (by rw [he]; exact Tryz.underlying63)
  gi_wp2
  simp only [itemsN_len]
  rw [hlen1]
  gi_wp2
  gi_loopw [15] (fun i wr => ∃ k : Nat, i = .int .i64 k ∧ k ≤ L.length ∧ J (goL L k) wr ∧ CloneI wr n₀ (.slice a1 L.length cap1) (itemsN L) ∧ Below n₁ w0 wr ∧ W.heap.size ≤ wr.heap.size) (fun i _ => L.length - (intOf i).toNat)
  case atStart => exact ⟨0, rfl, by omega, h1.out, hcl.out, hbw1.out, hWs⟩
  case round =>
    obtain ⟨k, rfl, hk, hjp, hcw, hbw, hsw⟩ := hrel
    have HJP := Lib.hid hjp
    have HCW := Lib.hid hcw
    have HBR := Lib.hid hbw
    clear hjp hcw hbw h1 hcl hbw1
    by_cases hlt2 : k < L.length
    · obtain ⟨x, hx⟩ : ∃ x, L[k]? = some x := ⟨L[k], by simp [hlt2]⟩
      have hxm := HL.out x (List.mem_of_getElem? hx)
      have hxd : L.getD k 0 = x := by simp [List.getD, hx]
      obtain ⟨g, off, cap2, hv2, hng, hgl, q0, q1⟩ := HCW.out k (bItem 0 x) (by simp [itemsN, hx])
      injection hv2 with e1 e2 e3
      subst e1 e3
      clear e2 hx
      have HDC := Lib.hid (fun (V : World) (hV : Below wr.heap.size wr V) => decode_beat 1 0 x V ⟨by decide, by decide⟩ ⟨by omega, by omega⟩ ⟨by omega, by omega⟩ (beat_first (by omega) (by omega) (by omega) (by omega)) (beat_ok (by omega) (by omega) (by omega) (by omega)) (beat_len (by omega) (by omega) (by omega) (by omega)) (HW0.out.below ((by rw [← HN1.out]; exact HBR.out.trans (hV.mono (by have := HBR.out.size; rw [HN1.out]; exact this)) : Below w0.heap.size w0 V))))
      have HIT : Hid (Below wr.heap.size wr (wr.alloc (.cells #[.string ⟨(bItem 0 x).1.toArray⟩, .int .i64 (bItem 0 x).2] 74))) := (Below.refl _ _).alloc (Nat.le_refl _) _
      obtain ⟨cs, HCS, _, _, HLN, HIA, HSZ, HON⟩ := beat_cells 0 x
      rw [HCS.out] at HDC
      have HIL : Hid ((Tryz.prog.info? 44).map (·.size) = some cs.length) := by rw [Hid, HLN.out]; kernel_rfl
      gi_wp2_with fail
      refine ⟨trivial, (callsIn_wide.2 (HDC.out _ HIT.out)).mono ?_⟩
      rintro e w5 ⟨rfl, hb5⟩
      have B5 : Hid (Below wr.heap.size wr w5) := bt HIT.out hb5
      have B6 : Hid (Below wr.heap.size wr ((w5.alloc (.cells (.int .i64 0 :: .int .i64 0 :: .int .i64 0 :: .int .i64 0 :: .int .i64 0 :: .int .i64 0 :: .int .i64 0 :: .int .i64 0 :: .int .i64 0 :: .slice none 0 0 :: .int .i64 0 :: .slice none 0 0 :: .int .i64 0 :: .int .i64 0 :: .int .i64 0 :: .int .i64 0 :: .int .i64 0 :: .slice none 0 0 :: .slice none 0 0 :: .int .i64 0 :: .int .i64 0 :: .int .i64 0 :: .int .i64 0 :: .int .i64 0 :: .int .i64 0 :: .int .i64 0 :: .int .i64 0 :: .string ⟨#[]⟩ :: .string ⟨#[]⟩ :: .slice none 0 0 :: .int .i64 0 :: .int .i64 0 :: .int .i64 0 :: .int .i64 0 :: .int .i64 0 :: .int .i64 0 :: .slice none 0 0 :: .slice none 0 0 :: []).toArray 44)).setRow w5.heap.size cs.toArray)) := by
        refine bt B5.out (((Below.refl _ _).alloc (Nat.le_refl _) _).trans ((Keeps.row (S := fun j => j = w5.heap.size) _ w5.heap.size _ rfl).toBelow (by simp) (fun k hk e => by omega)))
      have CM5 : Hid ((w5.alloc (.cells (.int .i64 0 :: .int .i64 0 :: .int .i64 0 :: .int .i64 0 :: .int .i64 0 :: .int .i64 0 :: .int .i64 0 :: .int .i64 0 :: .int .i64 0 :: .slice none 0 0 :: .int .i64 0 :: .slice none 0 0 :: .int .i64 0 :: .int .i64 0 :: .int .i64 0 :: .int .i64 0 :: .int .i64 0 :: .slice none 0 0 :: .slice none 0 0 :: .int .i64 0 :: .int .i64 0 :: .int .i64 0 :: .int .i64 0 :: .int .i64 0 :: .int .i64 0 :: .int .i64 0 :: .int .i64 0 :: .string ⟨#[]⟩ :: .string ⟨#[]⟩ :: .slice none 0 0 :: .int .i64 0 :: .int .i64 0 :: .int .i64 0 :: .int .i64 0 :: .int .i64 0 :: .int .i64 0 :: .slice none 0 0 :: .slice none 0 0 :: []).toArray 44)).heap[w5.heap.size]? = some (.cells (.int .i64 0 :: .int .i64 0 :: .int .i64 0 :: .int .i64 0 :: .int .i64 0 :: .int .i64 0 :: .int .i64 0 :: .int .i64 0 :: .int .i64 0 :: .slice none 0 0 :: .int .i64 0 :: .slice none 0 0 :: .int .i64 0 :: .int .i64 0 :: .int .i64 0 :: .int .i64 0 :: .int .i64 0 :: .slice none 0 0 :: .slice none 0 0 :: .int .i64 0 :: .int .i64 0 :: .int .i64 0 :: .int .i64 0 :: .int .i64 0 :: .int .i64 0 :: .int .i64 0 :: .int .i64 0 :: .string ⟨#[]⟩ :: .string ⟨#[]⟩ :: .slice none 0 0 :: .int .i64 0 :: .int .i64 0 :: .int .i64 0 :: .int .i64 0 :: .int .i64 0 :: .int .i64 0 :: .slice none 0 0 :: .slice none 0 0 :: []).toArray 44 (0, 0))) := Cl.new w5 (.int .i64 0 :: .int .i64 0 :: .int .i64 0 :: .int .i64 0 :: .int .i64 0 :: .int .i64 0 :: .int .i64 0 :: .int .i64 0 :: .int .i64 0 :: .slice none 0 0 :: .int .i64 0 :: .slice none 0 0 :: .int .i64 0 :: .int .i64 0 :: .int .i64 0 :: .int .i64 0 :: .int .i64 0 :: .slice none 0 0 :: .slice none 0 0 :: .int .i64 0 :: .int .i64 0 :: .int .i64 0 :: .int .i64 0 :: .int .i64 0 :: .int .i64 0 :: .int .i64 0 :: .int .i64 0 :: .string ⟨#[]⟩ :: .string ⟨#[]⟩ :: .slice none 0 0 :: .int .i64 0 :: .int .i64 0 :: .int .i64 0 :: .int .i64 0 :: .int .i64 0 :: .int .i64 0 :: .slice none 0 0 :: .slice none 0 0 :: []) _
      have M6 : Hid (Cl ((w5.alloc (.cells (.int .i64 0 :: .int .i64 0 :: .int .i64 0 :: .int .i64 0 :: .int .i64 0 :: .int .i64 0 :: .int .i64 0 :: .int .i64 0 :: .int .i64 0 :: .slice none 0 0 :: .int .i64 0 :: .slice none 0 0 :: .int .i64 0 :: .int .i64 0 :: .int .i64 0 :: .int .i64 0 :: .int .i64 0 :: .slice none 0 0 :: .slice none 0 0 :: .int .i64 0 :: .int .i64 0 :: .int .i64 0 :: .int .i64 0 :: .int .i64 0 :: .int .i64 0 :: .int .i64 0 :: .int .i64 0 :: .string ⟨#[]⟩ :: .string ⟨#[]⟩ :: .slice none 0 0 :: .int .i64 0 :: .int .i64 0 :: .int .i64 0 :: .int .i64 0 :: .int .i64 0 :: .int .i64 0 :: .slice none 0 0 :: .slice none 0 0 :: []).toArray 44)).setRow w5.heap.size cs.toArray) w5.heap.size cs 44) := by
        have := Cl.row (Cl.new w5 (.int .i64 0 :: .int .i64 0 :: .int .i64 0 :: .int .i64 0 :: .int .i64 0 :: .int .i64 0 :: .int .i64 0 :: .int .i64 0 :: .int .i64 0 :: .slice none 0 0 :: .int .i64 0 :: .slice none 0 0 :: .int .i64 0 :: .int .i64 0 :: .int .i64 0 :: .int .i64 0 :: .int .i64 0 :: .slice none 0 0 :: .slice none 0 0 :: .int .i64 0 :: .int .i64 0 :: .int .i64 0 :: .int .i64 0 :: .int .i64 0 :: .int .i64 0 :: .int .i64 0 :: .int .i64 0 :: .string ⟨#[]⟩ :: .string ⟨#[]⟩ :: .slice none 0 0 :: .int .i64 0 :: .int .i64 0 :: .int .i64 0 :: .int .i64 0 :: .int .i64 0 :: .int .i64 0 :: .slice none 0 0 :: .slice none 0 0 :: []) 44) cs.toArray
        rwa [List.toList_toArray] at this
      clear hb5 HIT HDC
      obtain ⟨pm, hpm⟩ : ∃ pm, pm = w5.heap.size := ⟨_, rfl⟩
      obtain ⟨w6, hw6⟩ : ∃ w6, (w5.alloc (.cells (.int .i64 0 :: .int .i64 0 :: .int .i64 0 :: .int .i64 0 :: .int .i64 0 :: .int .i64 0 :: .int .i64 0 :: .int .i64 0 :: .int .i64 0 :: .slice none 0 0 :: .int .i64 0 :: .slice none 0 0 :: .int .i64 0 :: .int .i64 0 :: .int .i64 0 :: .int .i64 0 :: .int .i64 0 :: .slice none 0 0 :: .slice none 0 0 :: .int .i64 0 :: .int .i64 0 :: .int .i64 0 :: .int .i64 0 :: .int .i64 0 :: .int .i64 0 :: .int .i64 0 :: .int .i64 0 :: .string ⟨#[]⟩ :: .string ⟨#[]⟩ :: .slice none 0 0 :: .int .i64 0 :: .int .i64 0 :: .int .i64 0 :: .int .i64 0 :: .int .i64 0 :: .int .i64 0 :: .slice none 0 0 :: .slice none 0 0 :: []).toArray 44)).setRow w5.heap.size cs.toArray = w6 := ⟨_, rfl⟩
      rw [hw6] at B6 M6
      rw [← hpm] at M6
      have HW6 := Lib.hid hw6
      have HPM := Lib.hid hpm.symm
      clear hw6 hpm
      have R6 := Lib.hid M6.out.range
      have h6 : Hid (J (goL L k) w6) := HJ.out _ _ _ none HJP.out (grown_of_below B6.out) (fun r e => by cases e)
      have HC6 := Lib.hid (HCW.out.below B6.out)
      have HB6 : Hid (Below n₁ w0 w6) := HBR.out.trans (B6.out.mono (by have := HBR.out.size; rw [HN1.out]; exact this))
      have hs6 : wr.heap.size ≤ w6.heap.size := B6.out.size
      have hnext : Hid (goL L k ++ [(k, x)] = goL L (k + 1)) := by rw [Hid, goL_succ, hxd]
      obtain ⟨fn, tmps, assign, body, hy, hR0⟩ := HY.out (goL L k) (k, x) w6 h6.out (by rw [goL_length]; omega)
      have hR := Lib.hid hR0
      unfold encsB at hy
      dsimp only at hy
      rw [HCS.out] at hy
      clear hR0 B5 B6 M6 HBR HCW HJP hxd HCS
      gi_wp2_with (first
        | (refine wpListIn_store_row (by rfl) _ _ _ (by rfl) w5.heap.size cs.toArray (by rfl) (by rfl) 44 _ CM5.out HIA.out HSZ.out HON.out ?_; rw [HW6.out, HPM.out])
        | (refine wpListIn_load_mid (by rfl) _ _ (by rfl) pm 0 (by rfl) cs _ R6.out Tryz.underlying44 (by rfl) HIL.out ?_))
      refine hR.out.mono ?_
      rintro e W3 (⟨rfl, hJ3, hk3⟩ | ⟨rfl, hJx3⟩)
      · rw [hnext.out] at hJ3
        have HC3 := Lib.hid (HC6.out.kept hk3)
        have HJ3 := Lib.hid hJ3
        have HB3 : Hid (Below n₁ w0 W3) := HB6.out.trans hk3.bel
        have hs3 := hk3.size
        clear hJ3 hk3
        gi_wp2
        go_roundw
        case rel => exact ⟨k + 1, by go_num, by omega, HJ3.out, HC3.out, HB3.out, by omega⟩
        case measure => simp [intOf]; omega
      · rw [hnext.out] at hJx3
        have HJ3 := Lib.hid hJx3
        clear hJx3
        gi_wp2
        refine bodyPost_ret (results_none rfl _ _ _) rfl ?_
        exact ⟨⟨_, rfl⟩, .inr ⟨_, goL_le L (by omega), HJ3.out⟩⟩
    · obtain rfl : k = L.length := by omega
      gi_wp2
      go_end0
      exact ⟨⟨_, rfl⟩, .inl ⟨_, rfl, HJP.out⟩⟩

end Go.Proofs.YtbljbdjmgogknaaGreatDoor
