/-
  Gh: texts of one proof, one behind the other.
  Conditions: none of its own.
-/
import Derived.Test.YtbljbdjmgogknaaGreatDoorZak
import Derived.BigQuiet
/-
  Bag: BagClears, walked (printed by wip/gen/mkbag5.py).
  Conditions: the library's variables hold what they are laid with; the model's longest length.
-/
set_option linter.unusedVariables false
set_option linter.unusedSimpArgs false
namespace Go.Proofs.YtbljbdjmgogknaaGreatDoor
open Go.RowKit

theorem intInfo : (Tryz.prog.info? 3).map (fun i => (i.zero, i.size, i.bytes)) = some (some (.int .i64 0), 1, 8) := by kernel_rfl
theorem Sl.at {w : World} {B : Nat} {v : Value} {n : Nat} {xs : List Value} {size : Nat} (h : Sl w B size v n xs) (hn : 0 < n) : ∃ g off cap, v = .slice (some ⟨g, off, none⟩) n cap ∧ g < w.heap.size ∧ ∀ j u, xs[j]? = some u → w.cell? ⟨g, off + j, none⟩ = some u := by
  rcases h.2 with ⟨rfl, h0⟩ | ⟨g, off, cap, rfl, hB, hg, hc, hm, hr, ht⟩
  · omega
  · exact ⟨g, off, cap, rfl, hg, hr⟩
/-- To whom: a number's remainder. -/
def md (x : Int) : Int := (IntKind.u64.wrap x).tmod 6
theorem md_in (x : Int) : 0 ≤ md x ∧ md x ≤ 5 := by
  have h := IntKind.wrap_u64 x
  unfold md
  rw [h, Int.tmod_eq_emod_of_nonneg (by omega)]
  omega
def toS (zs : List Int) (i : Nat) : Int := md (zs.getD i 0)
def itemsL (zs : List Int) (l : List Nat) : List Item := l.map (fun i : Nat => bItem (toS zs i) i)
def wantN (zs : List Int) (u : Int) (k : Nat) : List Nat := (List.range k).filter (fun i => !(toS zs i == u))
def wantV (l : List Nat) : List Value := l.map (fun i : Nat => Value.int .i64 (i : Int))
theorem items_succ (zs : List Int) (k : Nat) : itemsL zs (List.range (k + 1)) = itemsL zs (List.range k) ++ [bItem (toS zs k) k] := by simp [itemsL, List.range_succ]
theorem items_len (zs : List Int) (l : List Nat) : (itemsL zs l).length = l.length := by simp [itemsL]
theorem want_in (zs : List Int) (u : Int) (k : Nat) (h : (toS zs k == u) = true) : wantN zs u (k + 1) = wantN zs u k := by simp [wantN, List.range_succ, List.filter_append, h]
theorem want_out (zs : List Int) (u : Int) (k : Nat) (h : (toS zs k == u) = false) : wantN zs u (k + 1) = wantN zs u k ++ [k] := by simp [wantN, List.range_succ, List.filter_append, h]
theorem want_len (zs : List Int) (u : Int) (k : Nat) : (wantN zs u k).length ≤ k := by
  have := List.length_filter_le (fun i => !(toS zs i == u)) (List.range k)
  simpa [wantN] using this
theorem want_filter (zs : List Int) (u : Int) (k : Nat) : (itemsL zs (List.range k)).filter (fun x => !toU u x) = itemsL zs (wantN zs u k) := by
  simp only [itemsL, wantN, List.filter_map]
  rfl
theorem want_mem (zs : List Int) (u : Int) (k : Nat) {i : Nat} (h : i ∈ wantN zs u k) : i < k ∧ (toS zs i == u) = false := by
  simp only [wantN, List.mem_filter, List.mem_range] at h
  exact ⟨h.1, by simpa using h.2⟩
/-- The bag, and a slice of the call's own that is none of its. -/
structure CsW (w0 w : World) (pb : Nat) (lv wv : Value) (items : List Item) (want : List Nat) : Prop where
  h : BagW w w0.heap.size pb lv items
  s : Sl w w0.heap.size 1 wv want.length (wantV want)
  ap : ∀ j, wv.ownBlock = some j → Apart pb lv j
  bel : Below w0.heap.size w0 w
theorem CsW.below {w0 w w' : World} {pb : Nat} {lv wv : Value} {items : List Item} {want : List Nat} (c : CsW w0 w pb lv wv items want) (b : Below w.heap.size w w') : CsW w0 w' pb lv wv items want :=
  ⟨c.h.below b, c.s.kept (Keeps.below (fun _ => False) b) (fun _ _ => id), c.ap, bt c.bel b⟩
theorem CsW.bag {w0 w w' : World} {pb : Nat} {lv lv' wv : Value} {items items' : List Item} {want : List Nat} (c : CsW w0 w pb lv wv items want) (h : BagW w' w0.heap.size pb lv' items') (k : BagK pb lv lv' w w') : CsW w0 w' pb lv' wv items' want :=
  ⟨h, c.s.kept k.k (fun j hj e => by
    rcases e with e | e
    · exact (c.ap j hj).b e.symm
    · exact (c.ap j hj).n j e rfl), fun j hj => (c.ap j hj).next k (c.s.lt j hj).2, c.bel.trans (k.below c.h c.bel.size)⟩
theorem CsW.add {w0 w w1 w' : World} {pb : Nat} {lv wv wv' : Value} {items : List Item} {want : List Nat} {x : Nat} (c : CsW w0 w pb lv wv items want) (b : Below w.heap.size w w1) (s : Sl w' w0.heap.size 1 wv' (want.length + 1) (wantV want ++ [.int .i64 (x : Int)]))
    (g : w1.grownBy w' wv.ownBlock) (n : wv'.ownBlock = wv.ownBlock ∨ ∀ j, wv'.ownBlock = some j → w1.heap.size ≤ j) : CsW w0 w' pb lv wv' items (want ++ [x]) := by
  have k1 : Keeps (fun j => wv.ownBlock = some j) w w' := (Keeps.below _ b).trans (Keeps.grown g (fun j hj => hj))
  refine ⟨c.h.keep k1 (fun e => (c.ap pb e).b rfl) (fun j hj e => (c.ap j e).n j hj rfl), ?_, fun j hj => ?_, c.bel.trans (k1.toBelow c.bel.size (fun j hj e => by have := (c.s.lt j e).1; omega))⟩
  · have e : wantV (want ++ [x]) = wantV want ++ [.int .i64 (x : Int)] := by simp [wantV]
    rw [e, List.length_append]
    exact s
  · rcases n with e | e
    · exact c.ap j (e ▸ hj)
    · exact c.h.apart (Nat.le_trans b.size (e j hj))
theorem beat_set (t n : Int) : ∃ cs0 cs : List Value, Hid (msgV (beatM 1 0 n) zeroV = .agg cs0.toArray) ∧ Hid (msgV (beatM 1 t n) zeroV = .agg cs.toArray) ∧ Hid (cs0.set 2 (.int .i64 t) = cs) ∧ Hid (cs[2]? = some (.int .i64 t)) ∧ Hid (cs[7]? = some (.int .i64 n)) ∧ Hid (cs0[2]? = some (.int .i64 0)) ∧
    Hid ((Tryz.prog.info? 44).map (·.size) = some (cs0.toArray : Array Value).size) ∧ Hid ((Tryz.prog.info? 44).map (·.size) = some cs.length) ∧ Hid ((Tryz.prog.info? 44).map (·.size) = some (cs.toArray : Array Value).size) ∧
    Hid (((.int .i64 0 :: .int .i64 0 :: .int .i64 0 :: .int .i64 0 :: .int .i64 0 :: .int .i64 0 :: .int .i64 0 :: .int .i64 0 :: .int .i64 0 :: .slice none 0 0 :: .int .i64 0 :: .slice none 0 0 :: .int .i64 0 :: .int .i64 0 :: .int .i64 0 :: .int .i64 0 :: .int .i64 0 :: .slice none 0 0 :: .slice none 0 0 :: .int .i64 0 :: .int .i64 0 :: .int .i64 0 :: .int .i64 0 :: .int .i64 0 :: .int .i64 0 :: .int .i64 0 :: .int .i64 0 :: .string ⟨#[]⟩ :: .string ⟨#[]⟩ :: .slice none 0 0 :: .int .i64 0 :: .int .i64 0 :: .int .i64 0 :: .int .i64 0 :: .int .i64 0 :: .int .i64 0 :: .slice none 0 0 :: .slice none 0 0 :: []).toArray : Array Value).size = (cs0.toArray : Array Value).size) ∧ Hid (((.int .i64 0 :: .int .i64 0 :: .int .i64 0 :: .int .i64 0 :: .int .i64 0 :: .int .i64 0 :: .int .i64 0 :: .int .i64 0 :: .int .i64 0 :: .slice none 0 0 :: .int .i64 0 :: .slice none 0 0 :: .int .i64 0 :: .int .i64 0 :: .int .i64 0 :: .int .i64 0 :: .int .i64 0 :: .slice none 0 0 :: .slice none 0 0 :: .int .i64 0 :: .int .i64 0 :: .int .i64 0 :: .int .i64 0 :: .int .i64 0 :: .int .i64 0 :: .int .i64 0 :: .int .i64 0 :: .string ⟨#[]⟩ :: .string ⟨#[]⟩ :: .slice none 0 0 :: .int .i64 0 :: .int .i64 0 :: .int .i64 0 :: .int .i64 0 :: .int .i64 0 :: .int .i64 0 :: .slice none 0 0 :: .slice none 0 0 :: []).toArray : Array Value).size = (cs.toArray : Array Value).size) ∧ Hid ((cs0.toArray : Array Value).all (·.oneCell') = true) ∧ Hid ((cs.toArray : Array Value).all (·.oneCell') = true) :=
  ⟨msgC (beatM 1 0 n) zeroV, msgC (beatM 1 t n) zeroV, rfl, rfl, rfl, rfl, rfl, rfl, by rw [Hid, List.size_toArray, show (msgC (beatM 1 0 n) zeroV).length = 38 from rfl]; kernel_rfl, by rw [Hid, show (msgC (beatM 1 t n) zeroV).length = 38 from rfl]; kernel_rfl, by rw [Hid, List.size_toArray, show (msgC (beatM 1 t n) zeroV).length = 38 from rfl]; kernel_rfl, rfl, rfl, by simp [Hid, msgC, zeroV, Value.oneCell'], by simp [Hid, msgC, zeroV, Value.oneCell']⟩
set_option maxRecDepth 20000 in
set_option maxHeartbeats 12800000 in
theorem bagClears_walk (v : Value) (zs : List Int) (u : Int) (w : World) (hz : Ints w v zs) (hl : zs.length ≤ maxLen) (hw : Lw w) :
    Calls Tryz.prog 6 #[v, .int .i64 u] w fun e w' => e = .returned (.bool true) ∧ Below w.heap.size w w' := by
  have HZ := Lib.hid hz
  have HW := Lib.hid hw
  obtain ⟨az, capz, rfl⟩ := hz.form
  clear hz hw
  unfold maxLen at hl
  obtain ⟨i0, hi, hz0, hz1, hz2⟩ := info_parts intInfo
  have hpos := fun x : BelowOf w => x.2.size
  clear hpos
  go_enter Tryz.func6, Tryz.ntmps6
  go_wp2_with fail
  refine (awake_any w HW.out).mono ?_
  rintro e w1 ⟨rfl, hb1⟩
  have B1 := Lib.hid hb1
  clear hb1
  go_wp2_with fail
  refine (bagNew_any w1).mono ?_
  rintro e w2 ⟨rfl, h, hb⟩
  have C3 : Hid (CsW w (w2.alloc (.cells #[] 3)) w1.heap.size (.slice none 0 0) (.slice (some ⟨w2.heap.size, 0, none⟩) 0 0) (itemsL zs (List.range 0)) (wantN zs u 0)) := by
    have b2 : Below w.heap.size w w2 := bt B1.out hb
    have h2 : BagW w2 w.heap.size w1.heap.size (.slice none 0 0) [] := ⟨h.c, Sl.nil _ _ _, h.n, B1.out.size, h.m⟩
    have h1 : (w2.alloc (.cells #[] 3)).ownsRow w.heap.size 3 1 (.slice (some ⟨w2.heap.size, 0, none⟩) 0 0) 0 [] := World.ownsRow_made w2 #[] 0 b2.size (by unfold maxLen; omega) rfl
    have b3 : Below w2.heap.size w2 (w2.alloc (.cells #[] 3)) := (Below.refl _ _).alloc (Nat.le_refl _) _
    refine ⟨h2.below b3, Sl.ofOwn h1, fun j hj => ?_, bt b2 b3⟩
    simp [Value.ownBlock] at hj
    exact h2.apart (by omega)
  clear h hb
  go_upto_region 5 with (fail)
  generalize w2.alloc (.cells #[] 3) = w3 at *
  generalize (Value.slice (some ⟨w2.heap.size, 0, none⟩) 0 0) = wv0 at *
  generalize w1.heap.size = pb at *
  go_wp2
  go_loopw [6, 7, 8] (fun tw tn ti wr => ∃ (k : Nat) (lv : Value), ti = .int .i64 k ∧ k ≤ zs.length ∧ k ≤ 200 ∧ tn = .int .i64 ((k : Int) - (wantN zs u k).length) ∧ CsW w wr pb lv tw (itemsL zs (List.range k)) (wantN zs u k)) (fun _ _ ti _ => zs.length - (intOf ti).toNat)
  case atStart => exact ⟨0, _, rfl, by omega, by omega, rfl, C3.out⟩
  case round =>
    obtain ⟨k, lv, rfl, hk, hk2, rfl, hC⟩ := hrel
    have CK := Lib.hid hC
    clear hC C3
    have HWL := Lib.hid (want_len zs u k)
    by_cases hgo : k < zs.length ∧ k < 200
    · obtain ⟨hlt, h60⟩ := hgo
      have hlti : (k : Int) < (zs.length : Int) := by omega
      have h60i : (k : Int) < 200 := by omega
      obtain ⟨x, hx⟩ : ∃ x, zs[k]? = some x := ⟨zs[k], by simp [hlt]⟩
      have hT : toS zs k = md x := by simp [toS, List.getD, hx]
      obtain ⟨g, off, cap', he, hg, p0⟩ := HZ.out.get (Below.refl _ w) hx
      injection he with e1 e2 e3
      subst e1 e3
      clear e2 hx
      have hm0 := (md_in x).1
      have hm5 := (md_in x).2
      have hw1 : (IntKind.u64.wrap x).tmod 6 = md x := rfl
      have hw2 : IntKind.i64.wrap (md x) = md x := by rw [IntKind.wrap_i64]; omega
      have HTT := Lib.hid hT
      generalize md x = t at *
      clear hT
      obtain ⟨cs0, cs, HM0, HM, HSET, HG2, HG7, HG0, HIA0, HIL, HIA, HSZ0, HSZ, HON0, HON⟩ := beat_set t k
      have q0 : wr.cell? ⟨g, off + k, none⟩ = some (.int .i64 x) := (CK.out.bel.cell (p := ⟨g, off + k, none⟩) hg).trans p0
      go_wp2_with fail
      refine (beat_any k wr).mono ?_
      rw [HM0.out]
      rintro e w4 ⟨rfl, hb⟩
      have C4 := Lib.hid (CK.out.below hb)
      have q4 : w4.cell? ⟨g, off + k, none⟩ = some (.int .i64 x) := (C4.out.bel.cell (p := ⟨g, off + k, none⟩) hg).trans p0
      clear hb q0 CK
      have CM5 : Hid ((w4.alloc (.cells (.int .i64 0 :: .int .i64 0 :: .int .i64 0 :: .int .i64 0 :: .int .i64 0 :: .int .i64 0 :: .int .i64 0 :: .int .i64 0 :: .int .i64 0 :: .slice none 0 0 :: .int .i64 0 :: .slice none 0 0 :: .int .i64 0 :: .int .i64 0 :: .int .i64 0 :: .int .i64 0 :: .int .i64 0 :: .slice none 0 0 :: .slice none 0 0 :: .int .i64 0 :: .int .i64 0 :: .int .i64 0 :: .int .i64 0 :: .int .i64 0 :: .int .i64 0 :: .int .i64 0 :: .int .i64 0 :: .string ⟨#[]⟩ :: .string ⟨#[]⟩ :: .slice none 0 0 :: .int .i64 0 :: .int .i64 0 :: .int .i64 0 :: .int .i64 0 :: .int .i64 0 :: .int .i64 0 :: .slice none 0 0 :: .slice none 0 0 :: []).toArray 44)).heap[w4.heap.size]? = some (.cells (.int .i64 0 :: .int .i64 0 :: .int .i64 0 :: .int .i64 0 :: .int .i64 0 :: .int .i64 0 :: .int .i64 0 :: .int .i64 0 :: .int .i64 0 :: .slice none 0 0 :: .int .i64 0 :: .slice none 0 0 :: .int .i64 0 :: .int .i64 0 :: .int .i64 0 :: .int .i64 0 :: .int .i64 0 :: .slice none 0 0 :: .slice none 0 0 :: .int .i64 0 :: .int .i64 0 :: .int .i64 0 :: .int .i64 0 :: .int .i64 0 :: .int .i64 0 :: .int .i64 0 :: .int .i64 0 :: .string ⟨#[]⟩ :: .string ⟨#[]⟩ :: .slice none 0 0 :: .int .i64 0 :: .int .i64 0 :: .int .i64 0 :: .int .i64 0 :: .int .i64 0 :: .int .i64 0 :: .slice none 0 0 :: .slice none 0 0 :: []).toArray 44 (0, 0))) := Cl.new w4 (.int .i64 0 :: .int .i64 0 :: .int .i64 0 :: .int .i64 0 :: .int .i64 0 :: .int .i64 0 :: .int .i64 0 :: .int .i64 0 :: .int .i64 0 :: .slice none 0 0 :: .int .i64 0 :: .slice none 0 0 :: .int .i64 0 :: .int .i64 0 :: .int .i64 0 :: .int .i64 0 :: .int .i64 0 :: .slice none 0 0 :: .slice none 0 0 :: .int .i64 0 :: .int .i64 0 :: .int .i64 0 :: .int .i64 0 :: .int .i64 0 :: .int .i64 0 :: .int .i64 0 :: .int .i64 0 :: .string ⟨#[]⟩ :: .string ⟨#[]⟩ :: .slice none 0 0 :: .int .i64 0 :: .int .i64 0 :: .int .i64 0 :: .int .i64 0 :: .int .i64 0 :: .int .i64 0 :: .slice none 0 0 :: .slice none 0 0 :: []) _
      have M5 : Hid (Cl ((w4.alloc (.cells (.int .i64 0 :: .int .i64 0 :: .int .i64 0 :: .int .i64 0 :: .int .i64 0 :: .int .i64 0 :: .int .i64 0 :: .int .i64 0 :: .int .i64 0 :: .slice none 0 0 :: .int .i64 0 :: .slice none 0 0 :: .int .i64 0 :: .int .i64 0 :: .int .i64 0 :: .int .i64 0 :: .int .i64 0 :: .slice none 0 0 :: .slice none 0 0 :: .int .i64 0 :: .int .i64 0 :: .int .i64 0 :: .int .i64 0 :: .int .i64 0 :: .int .i64 0 :: .int .i64 0 :: .int .i64 0 :: .string ⟨#[]⟩ :: .string ⟨#[]⟩ :: .slice none 0 0 :: .int .i64 0 :: .int .i64 0 :: .int .i64 0 :: .int .i64 0 :: .int .i64 0 :: .int .i64 0 :: .slice none 0 0 :: .slice none 0 0 :: []).toArray 44)).setRow w4.heap.size cs0.toArray) w4.heap.size cs0 44) := by
        have := Cl.row (Cl.new w4 (.int .i64 0 :: .int .i64 0 :: .int .i64 0 :: .int .i64 0 :: .int .i64 0 :: .int .i64 0 :: .int .i64 0 :: .int .i64 0 :: .int .i64 0 :: .slice none 0 0 :: .int .i64 0 :: .slice none 0 0 :: .int .i64 0 :: .int .i64 0 :: .int .i64 0 :: .int .i64 0 :: .int .i64 0 :: .slice none 0 0 :: .slice none 0 0 :: .int .i64 0 :: .int .i64 0 :: .int .i64 0 :: .int .i64 0 :: .int .i64 0 :: .int .i64 0 :: .int .i64 0 :: .int .i64 0 :: .string ⟨#[]⟩ :: .string ⟨#[]⟩ :: .slice none 0 0 :: .int .i64 0 :: .int .i64 0 :: .int .i64 0 :: .int .i64 0 :: .int .i64 0 :: .int .i64 0 :: .slice none 0 0 :: .slice none 0 0 :: []) 44) cs0.toArray
        rwa [List.toList_toArray] at this
      have B5 : Hid (Below w4.heap.size w4 ((w4.alloc (.cells (.int .i64 0 :: .int .i64 0 :: .int .i64 0 :: .int .i64 0 :: .int .i64 0 :: .int .i64 0 :: .int .i64 0 :: .int .i64 0 :: .int .i64 0 :: .slice none 0 0 :: .int .i64 0 :: .slice none 0 0 :: .int .i64 0 :: .int .i64 0 :: .int .i64 0 :: .int .i64 0 :: .int .i64 0 :: .slice none 0 0 :: .slice none 0 0 :: .int .i64 0 :: .int .i64 0 :: .int .i64 0 :: .int .i64 0 :: .int .i64 0 :: .int .i64 0 :: .int .i64 0 :: .int .i64 0 :: .string ⟨#[]⟩ :: .string ⟨#[]⟩ :: .slice none 0 0 :: .int .i64 0 :: .int .i64 0 :: .int .i64 0 :: .int .i64 0 :: .int .i64 0 :: .int .i64 0 :: .slice none 0 0 :: .slice none 0 0 :: []).toArray 44)).setRow w4.heap.size cs0.toArray)) := ((Below.refl _ _).alloc (Nat.le_refl _) _).trans ((Keeps.row (S := fun j => j = w4.heap.size) _ w4.heap.size _ rfl).toBelow (by simp) (fun k hk e => by omega))
      go_upto_region 10 with (refine wpList_store_row (by rfl) _ _ _ (by rfl) w4.heap.size cs0.toArray (by rfl) (by rfl) 44 _ CM5.out HIA0.out HSZ0.out HON0.out ?_)
      generalize (w4.alloc (.cells (.int .i64 0 :: .int .i64 0 :: .int .i64 0 :: .int .i64 0 :: .int .i64 0 :: .int .i64 0 :: .int .i64 0 :: .int .i64 0 :: .int .i64 0 :: .slice none 0 0 :: .int .i64 0 :: .slice none 0 0 :: .int .i64 0 :: .int .i64 0 :: .int .i64 0 :: .int .i64 0 :: .int .i64 0 :: .slice none 0 0 :: .slice none 0 0 :: .int .i64 0 :: .int .i64 0 :: .int .i64 0 :: .int .i64 0 :: .int .i64 0 :: .int .i64 0 :: .int .i64 0 :: .int .i64 0 :: .string ⟨#[]⟩ :: .string ⟨#[]⟩ :: .slice none 0 0 :: .int .i64 0 :: .int .i64 0 :: .int .i64 0 :: .int .i64 0 :: .int .i64 0 :: .int .i64 0 :: .slice none 0 0 :: .slice none 0 0 :: []).toArray 44)).setRow w4.heap.size cs0.toArray = w5 at *
      have A4 := Lib.hid (C4.out.h.apart (p := w4.heap.size) (Nat.le_refl _))
      have C5 := Lib.hid (C4.out.below B5.out)
      have q5 : w5.cell? ⟨g, off + k, none⟩ = some (.int .i64 x) := (C5.out.bel.cell (p := ⟨g, off + k, none⟩) hg).trans p0
      have hgs := C4.out.bel.size
      have hgne : Hid (g < w4.heap.size) := Nat.lt_of_lt_of_le hg hgs
      have B5s := B5.out.size
      have B6 : Hid (Below w4.heap.size w4 (w5.setCell ⟨w4.heap.size, 2, none⟩ (.int .i64 t))) := B5.out.trans ((Keeps.setCell (fun j => j = w4.heap.size) _ _ _ rfl).toBelow B5s (fun j hj e => by omega))
      have M6 : Hid (Cl (w5.setCell ⟨w4.heap.size, 2, none⟩ (.int .i64 t)) w4.heap.size cs 44) := by
        have := Cl.set M5.out 2 (.int .i64 t)
        rwa [HSET.out] at this
      have C6 := Lib.hid (C4.out.below B6.out)
      have d2 : w5.cell? ⟨w4.heap.size, 2, none⟩ = some (.int .i64 0) := (M5.out.cell 2).trans HG0.out
      have f2 : w5.frozen? ⟨w4.heap.size, 2, none⟩ = false := M5.out.free 2
      clear C4 C5 B5 CM5 M5 q4 hgs B5s
      go_upto_region 11 with (fail)
      generalize w5.setCell ⟨w4.heap.size, 2, none⟩ (.int .i64 t) = w6 at *
      generalize w4.heap.size = pm at *
      clear d2 f2 q5
      have R6 := Lib.hid M6.out.range
      have HP := bagPut_z w.heap.size pb lv _ t k hm0 hm5 (by omega) (by omega) (by rw [items_len, List.length_range]; omega) w6 C6.out.h C6.out.bel.size (HW.out.below C6.out.bel)
      rw [HM.out] at HP
      have HPP := Lib.hid HP
      clear HP
      go_wp2_with (refine wpList_load_mid (by rfl) _ _ (by rfl) pm 0 (by rfl) cs _ R6.out Tryz.underlying44 (by rfl) HIL.out ?_)
      refine HPP.out.mono ?_
      rintro e w7 ⟨rfl, lv', h, hb⟩
      rw [← HTT.out, ← items_succ] at h
      have C7 := Lib.hid (C6.out.bag h hb)
      have M7 := Lib.hid (A4.out.cl hb M6.out)
      clear h hb M6 C6 HPP R6
      have d2 : w7.cell? ⟨pm, 2, none⟩ = some (.int .i64 t) := (M7.out.cell 2).trans HG2.out
      have hwl := HWL.out
      cases hb : (t == u) with
      | true =>
        have HWI := Lib.hid (want_in zs u k (by rw [HTT.out]; exact hb))
        go_wp2
        go_roundw
        case rel => exact ⟨k + 1, lv', by go_num, by omega, by omega, by rw [HWI.out]; go_num, by rw [HWI.out]; exact C7.out⟩
        case measure => simp [intOf]; omega
      | false =>
        have HWO := Lib.hid (want_out zs u k (by rw [HTT.out]; exact hb))
        have SL7 : Hid (Sl (w7.alloc (.cells #[.int .i64 (k : Int)] 3)) w.heap.size 1 _ (wantN zs u k).length (wantV (wantN zs u k))) := C7.out.s.kept (Keeps.alloc (fun _ => False) _ _) (fun _ _ => id)
        have hsrc : Hid (SrcIs (w7.alloc (.cells #[.int .i64 (k : Int)] 3)) 1 (.slice (some ⟨w7.heap.size, 0, none⟩) 1 1) 1 [.int .i64 (k : Int)]) := (Cl.new w7 [.int .i64 (k : Int)] 3).src 1 1 1 rfl
        have hbs := C7.out.bel.size
        go_wp2_with (at_builtin; refine wpList_append_sl rfl (.tmp 47) (.tmp 49) 30 rfl 3 i0 (.int .i64 0) 1 8 Tryz.underlying30 hi hz0 hz1 hz2 rfl (by decide) w.heap.size _ _ _ rfl SL7.out _ _ _ rfl hsrc.out ?_ ?_ ?_ ?_ ?_)
        · simp [Value.oneCell']
        · unfold maxLen; omega
        · omega
        · simp; omega
        intro wv' w8 hown hgr hnew
        have C8 := Lib.hid (C7.out.add (x := k) ((Below.refl _ _).alloc (Nat.le_refl _) _) hown hgr (by rw [World.size_alloc]; exact hnew))
        clear hown hgr hnew SL7 hsrc C7
        go_wp2
        go_roundw
        case rel => exact ⟨k + 1, lv', by go_num, by omega, by omega, by rw [HWO.out, List.length_append]; simp; omega, by rw [HWO.out]; exact C8.out⟩
        case measure => simp [intOf]; omega
    · have hend : k = zs.length ∨ k = 200 := by omega
      go_upto_region 7 with (fail)
      go_cut [24] (fun t wz => t = .bool false ∧ wz = wr)
      case first =>
        by_cases hkl : k < zs.length
        · have hkli : (k : Int) < (zs.length : Int) := by omega
          have hk2 : ¬ ((k : Int) < 200) := by omega
          go_wp2
          go_meet
          case rel => exact ⟨rfl, rfl⟩
        · have hkli : ¬ ((k : Int) < (zs.length : Int)) := by omega
          go_wp2
          go_meet
          case rel => exact ⟨rfl, rfl⟩
      case rest =>
        obtain ⟨rfl, hwc⟩ := hcut
        subst hwc
        clear hgo hend
        have HCL := bagClear_any w.heap.size pb lv _ u wc CK.out.h CK.out.bel.size
        unfold ClearPost at HCL
        rw [want_filter, items_len, items_len, List.length_range] at HCL
        have HCC := Lib.hid HCL
        have hwl := HWL.out
        have HMEM := Lib.hid (fun (i : Nat) (h : i ∈ wantN zs u k) => want_mem zs u k h)
        clear HCL HWL
        generalize wantN zs u k = W at *
        obtain ⟨aw, capw, hwv, _⟩ := CK.out.s.form
        subst hwv
        go_wp2_with fail
        refine HCC.out.mono ?_
        rintro e w9 ⟨rfl, lv9, h, hb⟩
        have C9 := Lib.hid (CK.out.bag h hb)
        have HL9 := bagLen_any _ pb lv9 _ w9 h
        rw [items_len] at HL9
        have HLL := Lib.hid HL9
        clear h hb HL9 HCC CK
        go_wp2_with fail
        refine HLL.out.mono ?_
        rintro e w10 ⟨rfl, hw10⟩
        subst hw10
        clear HLL
        go_wp2
        go_loopw [10] (fun ti wr => ∃ (j : Nat) (lv : Value), ti = .int .i64 j ∧ j ≤ W.length ∧ CsW w wr pb lv (.slice aw W.length capw) (itemsL zs (W.drop j)) W) (fun ti _ => W.length - (intOf ti).toNat)
        case atStart => exact ⟨0, _, rfl, by omega, C9.out⟩
        case round =>
          obtain ⟨j, lvj, rfl, hj, hC⟩ := hrel
          have CJ := Lib.hid hC
          clear hC C9
          by_cases hlt : j < W.length
          · have hlti : (j : Int) < (W.length : Int) := by omega
            obtain ⟨i, hi2⟩ : ∃ i, W[j]? = some i := ⟨W[j], by simp [hlt]⟩
            obtain ⟨him, htu⟩ := HMEM.out i (List.mem_of_getElem? hi2)
            have hdr : W.drop j = i :: W.drop (j + 1) := by
              obtain ⟨h1, h2⟩ := List.getElem?_eq_some_iff.1 hi2
              rw [List.drop_eq_getElem_cons h1, h2]
            obtain ⟨t, ht⟩ : ∃ t, t = toS zs i := ⟨_, rfl⟩
            have ht0 : 0 ≤ t := by rw [ht]; exact (md_in _).1
            have ht5 : t ≤ 5 := by rw [ht]; exact (md_in _).2
            rw [← ht] at htu
            obtain ⟨cs0, cs, HM0, HM, HSET, HG2, HG7, HG0, HIA0, HIL, HIA, HSZ0, HSZ, HON0, HON⟩ := beat_set t i
            have e0 : itemsL zs (W.drop j) = bItem t i :: itemsL zs (W.drop (j + 1)) := by rw [hdr, ht]; rfl
            have HI := CJ.out
            rw [e0] at HI
            have HT : Calls Tryz.prog 12 #[.pointer (some ⟨pb, 0, none⟩), .int .i64 0] wr (TakeB w.heap.size pb lvj (itemsL zs (W.drop (j + 1))) t i wr) := bagTake_b w.heap.size pb lvj _ 0 t i rfl ht0 ht5 (by omega) (by omega) wr HI.h HI.bel.size (HW.out.below HI.bel)
            unfold TakeB at HT
            rw [HM.out] at HT
            have HTT := Lib.hid HT
            have CI := Lib.hid HI
            have HDR := Lib.hid hdr
            have HI2 := Lib.hid hi2
            have HE0 := Lib.hid e0
            have HTS := Lib.hid ht
            clear HT HI hdr hi2 e0 ht CJ
            go_wp2_with fail
            refine HTT.out.mono ?_
            rintro e w11 ⟨rfl, lv11, h, hb⟩
            have C11 := Lib.hid (CI.out.bag h hb)
            clear h hb CI HTT
            have CM : Hid ((w11.alloc (.cells (.int .i64 0 :: .int .i64 0 :: .int .i64 0 :: .int .i64 0 :: .int .i64 0 :: .int .i64 0 :: .int .i64 0 :: .int .i64 0 :: .int .i64 0 :: .slice none 0 0 :: .int .i64 0 :: .slice none 0 0 :: .int .i64 0 :: .int .i64 0 :: .int .i64 0 :: .int .i64 0 :: .int .i64 0 :: .slice none 0 0 :: .slice none 0 0 :: .int .i64 0 :: .int .i64 0 :: .int .i64 0 :: .int .i64 0 :: .int .i64 0 :: .int .i64 0 :: .int .i64 0 :: .int .i64 0 :: .string ⟨#[]⟩ :: .string ⟨#[]⟩ :: .slice none 0 0 :: .int .i64 0 :: .int .i64 0 :: .int .i64 0 :: .int .i64 0 :: .int .i64 0 :: .int .i64 0 :: .slice none 0 0 :: .slice none 0 0 :: []).toArray 44)).heap[w11.heap.size]? = some (.cells (.int .i64 0 :: .int .i64 0 :: .int .i64 0 :: .int .i64 0 :: .int .i64 0 :: .int .i64 0 :: .int .i64 0 :: .int .i64 0 :: .int .i64 0 :: .slice none 0 0 :: .int .i64 0 :: .slice none 0 0 :: .int .i64 0 :: .int .i64 0 :: .int .i64 0 :: .int .i64 0 :: .int .i64 0 :: .slice none 0 0 :: .slice none 0 0 :: .int .i64 0 :: .int .i64 0 :: .int .i64 0 :: .int .i64 0 :: .int .i64 0 :: .int .i64 0 :: .int .i64 0 :: .int .i64 0 :: .string ⟨#[]⟩ :: .string ⟨#[]⟩ :: .slice none 0 0 :: .int .i64 0 :: .int .i64 0 :: .int .i64 0 :: .int .i64 0 :: .int .i64 0 :: .int .i64 0 :: .slice none 0 0 :: .slice none 0 0 :: []).toArray 44 (0, 0))) := Cl.new w11 (.int .i64 0 :: .int .i64 0 :: .int .i64 0 :: .int .i64 0 :: .int .i64 0 :: .int .i64 0 :: .int .i64 0 :: .int .i64 0 :: .int .i64 0 :: .slice none 0 0 :: .int .i64 0 :: .slice none 0 0 :: .int .i64 0 :: .int .i64 0 :: .int .i64 0 :: .int .i64 0 :: .int .i64 0 :: .slice none 0 0 :: .slice none 0 0 :: .int .i64 0 :: .int .i64 0 :: .int .i64 0 :: .int .i64 0 :: .int .i64 0 :: .int .i64 0 :: .int .i64 0 :: .int .i64 0 :: .string ⟨#[]⟩ :: .string ⟨#[]⟩ :: .slice none 0 0 :: .int .i64 0 :: .int .i64 0 :: .int .i64 0 :: .int .i64 0 :: .int .i64 0 :: .int .i64 0 :: .slice none 0 0 :: .slice none 0 0 :: []) _
            have M12 : Hid (Cl ((w11.alloc (.cells (.int .i64 0 :: .int .i64 0 :: .int .i64 0 :: .int .i64 0 :: .int .i64 0 :: .int .i64 0 :: .int .i64 0 :: .int .i64 0 :: .int .i64 0 :: .slice none 0 0 :: .int .i64 0 :: .slice none 0 0 :: .int .i64 0 :: .int .i64 0 :: .int .i64 0 :: .int .i64 0 :: .int .i64 0 :: .slice none 0 0 :: .slice none 0 0 :: .int .i64 0 :: .int .i64 0 :: .int .i64 0 :: .int .i64 0 :: .int .i64 0 :: .int .i64 0 :: .int .i64 0 :: .int .i64 0 :: .string ⟨#[]⟩ :: .string ⟨#[]⟩ :: .slice none 0 0 :: .int .i64 0 :: .int .i64 0 :: .int .i64 0 :: .int .i64 0 :: .int .i64 0 :: .int .i64 0 :: .slice none 0 0 :: .slice none 0 0 :: []).toArray 44)).setRow w11.heap.size cs.toArray) w11.heap.size cs 44) := by
              have := Cl.row (Cl.new w11 (.int .i64 0 :: .int .i64 0 :: .int .i64 0 :: .int .i64 0 :: .int .i64 0 :: .int .i64 0 :: .int .i64 0 :: .int .i64 0 :: .int .i64 0 :: .slice none 0 0 :: .int .i64 0 :: .slice none 0 0 :: .int .i64 0 :: .int .i64 0 :: .int .i64 0 :: .int .i64 0 :: .int .i64 0 :: .slice none 0 0 :: .slice none 0 0 :: .int .i64 0 :: .int .i64 0 :: .int .i64 0 :: .int .i64 0 :: .int .i64 0 :: .int .i64 0 :: .int .i64 0 :: .int .i64 0 :: .string ⟨#[]⟩ :: .string ⟨#[]⟩ :: .slice none 0 0 :: .int .i64 0 :: .int .i64 0 :: .int .i64 0 :: .int .i64 0 :: .int .i64 0 :: .int .i64 0 :: .slice none 0 0 :: .slice none 0 0 :: []) 44) cs.toArray
              rwa [List.toList_toArray] at this
            have B12 : Hid (Below w11.heap.size w11 ((w11.alloc (.cells (.int .i64 0 :: .int .i64 0 :: .int .i64 0 :: .int .i64 0 :: .int .i64 0 :: .int .i64 0 :: .int .i64 0 :: .int .i64 0 :: .int .i64 0 :: .slice none 0 0 :: .int .i64 0 :: .slice none 0 0 :: .int .i64 0 :: .int .i64 0 :: .int .i64 0 :: .int .i64 0 :: .int .i64 0 :: .slice none 0 0 :: .slice none 0 0 :: .int .i64 0 :: .int .i64 0 :: .int .i64 0 :: .int .i64 0 :: .int .i64 0 :: .int .i64 0 :: .int .i64 0 :: .int .i64 0 :: .string ⟨#[]⟩ :: .string ⟨#[]⟩ :: .slice none 0 0 :: .int .i64 0 :: .int .i64 0 :: .int .i64 0 :: .int .i64 0 :: .int .i64 0 :: .int .i64 0 :: .slice none 0 0 :: .slice none 0 0 :: []).toArray 44)).setRow w11.heap.size cs.toArray)) := ((Below.refl _ _).alloc (Nat.le_refl _) _).trans ((Keeps.row (S := fun j => j = w11.heap.size) _ w11.heap.size _ rfl).toBelow (by simp) (fun k hk e => by omega))
            go_upto_region 22 with (refine wpList_store_row (by rfl) _ _ _ (by rfl) w11.heap.size cs.toArray (by rfl) (by rfl) 44 _ CM.out HIA.out HSZ.out HON.out ?_)
            generalize (w11.alloc (.cells (.int .i64 0 :: .int .i64 0 :: .int .i64 0 :: .int .i64 0 :: .int .i64 0 :: .int .i64 0 :: .int .i64 0 :: .int .i64 0 :: .int .i64 0 :: .slice none 0 0 :: .int .i64 0 :: .slice none 0 0 :: .int .i64 0 :: .int .i64 0 :: .int .i64 0 :: .int .i64 0 :: .int .i64 0 :: .slice none 0 0 :: .slice none 0 0 :: .int .i64 0 :: .int .i64 0 :: .int .i64 0 :: .int .i64 0 :: .int .i64 0 :: .int .i64 0 :: .int .i64 0 :: .int .i64 0 :: .string ⟨#[]⟩ :: .string ⟨#[]⟩ :: .slice none 0 0 :: .int .i64 0 :: .int .i64 0 :: .int .i64 0 :: .int .i64 0 :: .int .i64 0 :: .int .i64 0 :: .slice none 0 0 :: .slice none 0 0 :: []).toArray 44)).setRow w11.heap.size cs.toArray = w12 at *
            have C12 := Lib.hid (C11.out.below B12.out)
            clear C11 B12 CM
            generalize w11.heap.size = pl at *
            obtain ⟨gw, offw, capw2, hv2, hgw, hcw⟩ := C12.out.s.at (by omega)
            injection hv2 with e1 e2 e3
            subst e1
            have d7 : w12.cell? ⟨pl, 7, none⟩ = some (.int .i64 (i : Int)) := (M12.out.cell 7).trans HG7.out
            have d2 : w12.cell? ⟨pl, 2, none⟩ = some (.int .i64 t) := (M12.out.cell 2).trans HG2.out
            have dw : w12.cell? ⟨gw, offw + j, none⟩ = some (.int .i64 (i : Int)) := hcw j _ (by rw [wantV, List.getElem?_map, HI2.out]; rfl)
            clear e2 e3 hcw M12
            go_quiet (fail)
            have CQ : Hid (CsW w (w12.drewN nq) pb lv11 (.slice (some ⟨gw, offw, none⟩) W.length capw) (itemsL zs (W.drop (j + 1))) W) := C12.out.below (below_drewN (Below.refl _ _) nq)
            go_wp2
            go_roundw
            case rel => exact ⟨j + 1, lv11, by go_num, by omega, CQ.out⟩
            case measure => simp [intOf]; omega
          · obtain rfl : j = W.length := by omega
            have hlti : ¬ ((W.length : Int) < (W.length : Int)) := by omega
            have HL := bagLen_any _ pb lvj _ wr CJ.out.h
            rw [items_len, List.drop_length] at HL
            have HL2 : Hid (Calls Tryz.prog 19 #[.pointer (some ⟨pb, 0, none⟩)] wr fun e w' => e = .returned (.int .i64 0) ∧ w' = wr) := HL
            clear HL
            go_wp2_with fail
            refine HL2.out.mono ?_
            rintro e w13 ⟨rfl, hw13⟩
            subst hw13
            go_wp2
            go_ret
            exact ⟨rfl, CJ.out.bel⟩

end Go.Proofs.YtbljbdjmgogknaaGreatDoor
